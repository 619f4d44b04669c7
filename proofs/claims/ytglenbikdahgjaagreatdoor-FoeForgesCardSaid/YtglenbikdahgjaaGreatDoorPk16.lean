/- Texts that stood apart, in one: WPath2P, WMake, WPath1, WPath2, WMake2, WRevT. -/
import Derived.Test.YtglenbikdahgjaaGreatDoorPk01
import Derived.Test.YtglenbikdahgjaaGreatDoorPk03
import Derived.Test.YtglenbikdahgjaaGreatDoorPk00
import Derived.Test.YtglenbikdahgjaaGreatDoorPk15
import Derived.Test.YtglenbikdahgjaaGreatDoorPk14
set_option maxRecDepth 100000
set_option maxHeartbeats 16000000
namespace Go.Proofs.Bl
open Go Go.RowKit
theorem lenP_no {n i:Int} (h:thereB n i=false):lenP n i= -1:=by unfold lenP;rw [h];rfl
theorem lenP_yes {n i:Nat} (h:n<=512) (hi:i < n):lenP n i=((turnsL n i).length:Int):=by
 unfold lenP
 rw [if_pos (thereB_mk (by omega) (by omega) (by omega))];rfl
def pathD (ps:List (List Int)) (i:Nat):List (List Int):=pathL ndD zD (ps.map lfD) i
theorem dig_path:∀(m:Nat) (l:List (List Int)) (i:Nat),l.length<=m->l.length < 2^63->Dig l->Dig (pathL ndD zD l i)
 | 0,l,i,h,_,_=>by rw [pathL_lo _ _ l i (by omega)];exact Dig.nil
 | m+1,l,i,h,hn,hd=>by
  by_cases h2:2<=l.length
  ·obtain⟨a,b,c⟩:=sp_bounds l.length h2 hn
   have one:∀x:List (List Int),Dig x->x.length < 2^63->Dig [over ndD zD x]:=fun x hx hl=>Dig.one (overD_dig _ x rfl hx hl).1 (overD_dig _ x rfl hx hl).2
   by_cases hi:i < sp l.length
   ·rw [pathL_left _ _ l i h2 hn hi]
    exact(dig_path m _ i (by rw [List.length_take];omega) (by rw [List.length_take];omega) (hd.take _)).append (one _ (hd.drop _) (by rw [List.length_drop];omega))
   ·rw [pathL_right _ _ l i h2 hn hi]
    exact(dig_path m _ _ (by rw [List.length_drop];omega) (by rw [List.length_drop];omega) (hd.drop _)).append (one _ (hd.take _) (by rw [List.length_take];omega))
  ·rw [pathL_lo _ _ l i (by omega)];exact Dig.nil
end Go.Proofs.Bl
namespace Go.Proofs.YtglenbikdahgjaaGreatDoor
open Go.RowKit Go.Proofs Go.Proofs.Bl
theorem tTurn:SlT Tryz.prog 143 146 (.agg #[.bool false,.int .i64 0,.int .i64 0]) 3 24:=⟨Tryz.underlying143,by kernel_rfl,rfl,by decide⟩
theorem there_any (n i:Int) (w:World):Calls Tryz.prog 80 #[.int .i64 n,.int .i64 i] w fun e w'=>e= .returned (.bool (thereB n i))/\w=w':=by
 by_cases h1:n<=512
 ·by_cases h2:0<=i
  ·by_cases h3:i < n
   ·have H:=Bl.hid (thereB_mk h1 h2 h3)
    go_enter Tryz.func80,Tryz.ntmps80
    go_wp2
    go_ret
    exact⟨by rw [H.out];rfl,rfl⟩
   ·have H:=Bl.hid (thereB_no (n:=n) (i:=i) (by omega))
    go_enter Tryz.func80,Tryz.ntmps80
    go_wp2
    go_ret
    exact⟨by rw [H.out];rfl,rfl⟩
  ·have H:=Bl.hid (thereB_no (n:=n) (i:=i) (by omega))
   go_enter Tryz.func80,Tryz.ntmps80
   go_wp2
   go_ret
   exact⟨by rw [H.out];rfl,rfl⟩
 ·have H:=Bl.hid (thereB_no (n:=n) (i:=i) (by omega))
  go_enter Tryz.func80,Tryz.ntmps80
  go_wp2
  go_ret
  exact⟨by rw [H.out];rfl,rfl⟩
theorem turns_any (n i:Nat) (w:World) (hn:n<=512) (hi:i < n):
  Calls Tryz.prog 82 #[.int .i64 n,.int .i64 i] w fun e w'=>∃p c,e= .returned (.slice p (turnsL n i).length c)/\w'.ownsRow w.heap.size 146 3 (.slice p (turnsL n i).length c) (turnsL n i).length (cellsT (turnsL n i))/\Ext w w':=by
 have hT:=turnsL_len n n i (Nat.le_refl _) (by omega)
 obtain⟨T,hTe⟩:∃T,T=turnsL n i:=⟨_,rfl⟩
 rw [<-hTe]at hT⊢
 have HT:=Bl.hid hTe
 have HTl:Hid (T.length<=512):=Bl.hid (by omega)
 clear hTe hT
 go_enter Tryz.func82,Tryz.ntmps82
 go_wp2_with fail
 go_loopw [0,1,5] (fun n' i' o wr=>∃(m j:Nat) (p:Option Addr) (k c:Nat) (acc:List (Bool × Nat × Nat)),m<=512/\j < m/\n'= .int .i64 m/\i'= .int .i64 j/\o= .slice p k c/\Hid (k=acc.length/\acc++turnsL m j=T/\wr.ownsRow w.heap.size 146 3 (.slice p k c) k (cellsT acc))/\Ext w wr) (fun n' _ _ _=>(intOf n').toNat)
 case atStart=>exact⟨n,i,none,0,0,[],hn,hi,rfl,rfl,rfl,Bl.hid ⟨rfl,by rw [HT.out];rfl,World.ownsRow_nil _ _ _ _⟩,Below.refl _ _⟩
 case round=>
  obtain⟨m,j,p,k,c,acc,hm,hj,rfl,rfl,rfl,HA,hE⟩:=hrel
  have HE:=Bl.hid hE
  clear hE
  by_cases h2:2<=m
  ·obtain⟨s1,s2,s3⟩:=sp_bounds m h2 (by omega)
   have hk5:k<=512:=by
    have:=HA.out.2.1
    have:=congrArg List.length this
    rw [List.length_append]at this
    have:=HTl.out
    have:=HA.out.1
    omega
   have hm1:(1:Int) < (m:Int):=by omega
   go_wp2_with fail
   refine(split_any _ _ (by omega)).mono ?_
   rintro e w3 ⟨rfl,hw3⟩
   subst hw3
   rw [Int.toNat_natCast]
   have HL:=Bl.hid (fun h=>turnsL_left m j h2 (by omega) h)
   have HR:=Bl.hid (fun h=>turnsL_right m j h2 (by omega) h)
   obtain⟨q,hq⟩:∃q,q=Bl.sp m:=⟨_,rfl⟩
   rw [<-hq]at s1 s2 s3 HL HR⊢
   clear hq
   by_cases hjq:j < q
   ·have HL1:=Bl.hid (HL.out hjq)
    have hjq':(j:Int) < (q:Int):=by omega
    clear HL HR
    go_wp2_with (with_reducible refine stop_build ?_)
    refine go_on ?_
    refine wpL_build1 tTurn (by decide) rfl rfl ?_
    have Hown:=Bl.hid (owns_ext HA.out.2.2 (ext_alloc wr (.cells #[.bool true,.int .i64 q,.int .i64 j] 146)))
    have Hnew:=Bl.hid (rds_new1 wr 146 #[.bool true,.int .i64 q,.int .i64 j])
    have HE1:Hid (Ext w (wr.alloc (.cells #[.bool true,.int .i64 q,.int .i64 j] 146))):=Bl.hid (HE.out.trans (ext_alloc _ _))
    go_wp2_with (with_reducible refine stop_append ?_)
    refine go_on ?_
    refine wpL_app tTurn Hown.out Hnew.out rfl rfl rfl (cellsT_one' [(true,q,j)]) (by unfold maxLen;omega) (by omega) HE1.out.size ?_
    intro q3 d3 w3 hown3 hg3 hB3 hK3 hn3 hc3
    have Hown3:Hid (w3.ownsRow w.heap.size 146 3 (.slice q3 (k+1) d3) (k+1) (cellsT (acc++[(true,q,j)]))):=Bl.hid (by rw [cellsT_append];exact hown3)
    have HE3:Hid (Ext w w3):=Bl.hid (Below.trans HE1.out hB3)
    have HA3:Hid (k+1=(acc++[(true,q,j)]).length/\(acc++[(true,q,j)])++turnsL q j=T/\w3.ownsRow w.heap.size 146 3 (.slice q3 (k+1) d3) (k+1) (cellsT (acc++[(true,q,j)]))):=
     Bl.hid ⟨by rw [List.length_append,HA.out.1];rfl,by rw [List.append_assoc];show acc++(true,q,j) :: turnsL q j=T;rw [<-HL1.out];exact HA.out.2.1,Hown3.out⟩
    clear hown3 hg3 hB3 hK3 Hown Hnew HE1 Hown3 HL1
    go_wp2_with fail
    go_roundw
    case rel=>exact⟨q,j,q3,k+1,d3,_,by omega,hjq,rfl,rfl,rfl,HA3.out,HE3.out⟩
    case measure=>simp [intOf];omega
   ·have HR1:=Bl.hid (HR.out hjq)
    have hjq':¬((j:Int) < (q:Int)):=by omega
    have e1:(m:Int) - (q:Int)=((m - q:Nat):Int):=by omega
    have e2:(j:Int) - (q:Int)=((j - q:Nat):Int):=by omega
    obtain⟨m2,hm2⟩:∃m2,m2=m - q:=⟨_,rfl⟩
    obtain⟨j2,hj2⟩:∃j2,j2=j - q:=⟨_,rfl⟩
    rw [<-hm2]at e1 HR1
    rw [<-hj2]at e2 HR1
    have b1:m2<=512:=by omega
    have b2:j2 < m2:=by omega
    have b3:m2 < m:=by omega
    clear HL HR hm2 hj2
    go_wp2_with (with_reducible refine stop_build ?_)
    refine go_on ?_
    refine wpL_build1 tTurn (by decide) rfl rfl ?_
    have Hown:=Bl.hid (owns_ext HA.out.2.2 (ext_alloc wr (.cells #[.bool false,.int .i64 m2,.int .i64 j2] 146)))
    have Hnew:=Bl.hid (rds_new1 wr 146 #[.bool false,.int .i64 m2,.int .i64 j2])
    have HE1:Hid (Ext w (wr.alloc (.cells #[.bool false,.int .i64 m2,.int .i64 j2] 146))):=Bl.hid (HE.out.trans (ext_alloc _ _))
    go_wp2_with (with_reducible refine stop_append ?_)
    refine go_on ?_
    refine wpL_app tTurn Hown.out Hnew.out rfl rfl rfl (cellsT_one' [(false,m2,j2)]) (by unfold maxLen;omega) (by omega) HE1.out.size ?_
    intro q3 d3 w3 hown3 hg3 hB3 hK3 hn3 hc3
    have HE3:Hid (Ext w w3):=Bl.hid (Below.trans HE1.out hB3)
    have HA3:Hid (k+1=(acc++[(false,m2,j2)]).length/\(acc++[(false,m2,j2)])++turnsL m2 j2=T/\w3.ownsRow w.heap.size 146 3 (.slice q3 (k+1) d3) (k+1) (cellsT (acc++[(false,m2,j2)]))):=
     Bl.hid ⟨by rw [List.length_append,HA.out.1];rfl,by rw [List.append_assoc];show acc++(false,m2,j2) :: turnsL m2 j2=T;rw [<-HR1.out];exact HA.out.2.1,by rw [cellsT_append];exact hown3⟩
    clear hown3 hg3 hB3 hK3 Hown Hnew HE1 HR1 e1 e2
    go_wp2_with fail
    go_roundw
    case rel=>exact⟨m2,j2,q3,k+1,d3,_,by omega,by omega,rfl,rfl,rfl,HA3.out,HE3.out⟩
    case measure=>simp [intOf];omega
  ·have hT:acc=T:=by
    have:=HA.out.2.1
    rw [turnsL_lo m j (by omega),List.append_nil]at this
    exact this
   have hk:=HA.out.1
   have ho:=HA.out.2.2
   rw [hT]at hk ho
   have Ho:=Bl.hid ho
   have Hk:Hid (T.length=k):=Bl.hid hk.symm
   have hm1:¬((1:Int) < (m:Int)):=by omega
   clear hT ho hk
   go_wp2_with fail
   go_ret
   exact⟨p,c,by rw [Hk.out];rfl,by rw [Hk.out];exact Ho.out,HE.out⟩
theorem length_any (n i:Int) (w:World):
  Calls Tryz.prog 87 #[.int .i64 n,.int .i64 i] w fun e w'=>e= .returned (.int .i64 (lenP n i))/\Ext w w':=by
 by_cases h:n<=512/\0<=i/\i < n
 ·obtain⟨h1,h2,h3⟩:=h
  have hb:=thereB_mk h1 h2 h3
  obtain⟨j,rfl⟩:=Int.eq_ofNat_of_zero_le h2
  obtain⟨m,rfl⟩:=Int.eq_ofNat_of_zero_le (a:=n) (by omega)
  have HB:=Bl.hid hb
  have HL:=Bl.hid (lenP_yes (n:=m) (i:=j) (by omega) (by omega))
  clear hb h2
  go_enter Tryz.func87,Tryz.ntmps87
  go_wp2_with fail
  refine(there_any _ _ _).mono ?_
  rintro e w1 ⟨rfl,hw⟩
  subst hw
  rw [HB.out]
  go_wp2_with fail
  refine(turns_any m j w (by omega) (by omega)).mono ?_
  rintro e w2 ⟨p,c,rfl,hown,hE⟩
  have HE:=Bl.hid hE
  obtain⟨T,hT⟩:∃T,T=(turnsL m j).length:=⟨_,rfl⟩
  rw [<-hT]at HL⊢
  clear hE hown hT
  go_wp2_with fail
  go_ret
  exact⟨by rw [HL.out];rfl,HE.out⟩
 ·have hb:=thereB_no h
  have HL:=Bl.hid (lenP_no hb)
  have HB:=Bl.hid hb
  clear hb h
  go_enter Tryz.func87,Tryz.ntmps87
  go_wp2_with fail
  refine(there_any _ _ _).mono ?_
  rintro e w1 ⟨rfl,hw⟩
  subst hw
  rw [HB.out]
  go_wp2_with fail
  go_ret
  exact⟨by rw [HL.out];rfl,Below.refl _ _⟩
theorem turn_box (w:World) (x:Bool) (n i:Nat):
  (Instr.storeAt 146 (.pointer (some ⟨w.heap.size,0,none⟩)) (.agg #[.bool x,.int .i64 n,.int .i64 i])).run Tryz.prog (w.alloc (.cells #[.bool false,.int .i64 0,.int .i64 0] 146))= .ok () ((w.alloc (.cells #[.bool false,.int .i64 0,.int .i64 0] 146)).setCells w.heap.size 0 [.bool x,.int .i64 n,.int .i64 i])/\
  ((w.alloc (.cells #[.bool false,.int .i64 0,.int .i64 0] 146)).setCells w.heap.size 0 [.bool x,.int .i64 n,.int .i64 i]).cell? ⟨w.heap.size,0,none⟩=some (.bool x)/\
  ((w.alloc (.cells #[.bool false,.int .i64 0,.int .i64 0] 146)).setCells w.heap.size 0 [.bool x,.int .i64 n,.int .i64 i]).cell? ⟨w.heap.size,1,none⟩=some (.int .i64 n)/\
  Ext w ((w.alloc (.cells #[.bool false,.int .i64 0,.int .i64 0] 146)).setCells w.heap.size 0 [.bool x,.int .i64 n,.int .i64 i]):=by
 have ht:=there_new w #[.bool false,.int .i64 0,.int .i64 0] 146 3 rfl
 have hs:=run_storeAt_mid (P:=Tryz.prog) (w.alloc (.cells #[.bool false,.int .i64 0,.int .i64 0] 146)) w.heap.size 0 146 #[.bool x,.int .i64 n,.int .i64 i] (by simpa using ht) (by kernel_rfl) (all_oneCell_toArray (cs:=[.bool x,.int .i64 n,.int .i64 i]) (by intro c hc;simp only [List.mem_cons,List.not_mem_nil,or_false]at hc;rcases hc with rfl | rfl | rfl<;>rfl))
 have hr:=World.rangeAt_setCells_same (w.alloc (.cells #[.bool false,.int .i64 0,.int .i64 0] 146)) w.heap.size 0 [.bool x,.int .i64 n,.int .i64 i] ht
 exact⟨hs,hr 0 _ rfl,hr 1 _ rfl,below_setCells _ _ _ _ (ext_alloc _ _) (Nat.le_refl _)⟩
theorem pmake_own (v:Value) (ps:List (List Int)) (i:Nat) (w:World) (hR:Rdss w v ps) (hg:Glob w) (hby:∀p∈ps,Byt p) (hlp:∀p∈ps,p.length<=1099511627000) (hn:ps.length<=512) (hi:i < ps.length):
  Calls Tryz.prog 46 #[v,.int .i64 i] w fun e w'=>∃v',e= .returned (.tuple #[v',.nilIface])/\RdD w' v' (pathD ps i)/\(∀k,v'.ownBlock=some k->w.heap.size<=k)/\Ext w w':=by
 have HLv:=Bl.hid (leaves_any v ps w hR hg hby hlp (by omega))
 have HT:=Bl.hid (fun w1=>turns_any ps.length i w1 hn hi)
 have hth:=Bl.hid (thereB_mk (n:=(ps.length:Int)) (i:=(i:Int)) (by omega) (by omega) (by omega))
 obtain⟨vs,hvs,hvl,hvr⟩:=hR
 obtain⟨p,c,hvf,_,_⟩:=hvs.form
 subst hvf
 have Hdl:Hid (Dig (ps.map lfD)):=Bl.hid (dig_leaves ps)
 have Hll:Hid ((ps.map lfD).length=ps.length):=Bl.hid (List.length_map _)
 have HPL:Hid (pathL ndD zD (ps.map lfD) i=pathD ps i):=Bl.hid rfl
 obtain⟨ds,hds⟩:∃ds,ds=ps.map lfD:=⟨_,rfl⟩
 rw [<-hds]at HLv Hdl Hll HPL
 obtain⟨PD,hPD⟩:∃PD,PD=pathD ps i:=⟨_,rfl⟩
 rw [<-hPD]at HPL⊢
 obtain⟨n,hnn⟩:∃n,n=ps.length:=⟨_,rfl⟩
 rw [<-hnn]at HLv HT hth hn hi Hll⊢
 obtain⟨T,hT⟩:∃T,T=turnsL n i:=⟨_,rfl⟩
 rw [<-hT]at HT
 have HTe:=Bl.hid hT
 have Hg:=Bl.hid hg
 clear hvs hvl hvr hnn hg hby hlp hds hPD hT
 go_enter Tryz.func46,Tryz.ntmps46
 go_wp2_with fail
 refine(there_any _ _ _).mono ?_
 rintro e w1 ⟨rfl,hw⟩
 subst hw
 rw [hth.out]
 go_wp2_with fail
 refine HLv.out.mono ?_
 rintro e w1 ⟨pl,cl,rfl,hown1,hE1⟩
 have HL1:Hid (RdD w1 (.slice pl n cl) ds):=Bl.hid (by show Rds w1 _ ds.length _;rw [Hll.out];exact Rds.of_owns hown1)
 have HE1:=Bl.hid hE1
 clear hown1 hE1 HLv
 go_wp2_with fail
 refine(HT.out w1).mono ?_
 rintro e w2 ⟨pt,ct,rfl,hown2,hE2⟩
 have HL2:Hid (RdD w2 (.slice pl n cl) ds):=Bl.hid (Rds.ext HL1.out hE2)
 have HT2:Hid (Rds w2 (.slice pt T.length ct) T.length (cellsT T)):=Bl.hid (Rds.of_owns hown2)
 have HE2:=Bl.hid (HE1.out.trans hE2)
 have hTl:T.length<=512:=by rw [HTe.out];have:=turnsL_len n n i (Nat.le_refl _) (by omega);omega
 obtain⟨tn,htn⟩:∃tn,tn=T.length:=⟨_,rfl⟩
 rw [<-htn]at HT2 hTl⊢
 have Htn:=Bl.hid htn
 clear hown2 hE2 HL1 HE1 HT htn
 go_wp2_with fail
 go_loopw [6,7,24] (fun li out x wr=>∃(k j m cl ko co:Nat) (pl po:Option Addr) (ds' acc:List (List Int)),k<=tn/\x= .int .i64 k/\li= .slice pl m cl/\out= .slice po ko co/\m<=512/\j < m/\ko<=tn/\Hid (ds'.length=m/\acc.length=ko/\ko=k/\T.drop k=turnsL m j/\Dig ds'/\Dig acc/\pathL ndD zD ds' j++acc.reverse=PD/\RdD w2 (.slice pl m cl) ds'/\wr.ownsRow w2.heap.size 54 32 (.slice po ko co) ko (cellsD acc))/\Ext w2 wr) (fun _ _ x _=>tn - (intOf x).toNat)
 case atStart=>exact⟨0,i,n,cl,0,0,pl,none,ds,[],Nat.zero_le _,rfl,rfl,rfl,hn,hi,Nat.zero_le _,Bl.hid ⟨Hll.out,rfl,rfl,HTe.out,Hdl.out,Dig.nil,by rw [List.reverse_nil,List.append_nil];exact HPL.out,HL2.out,World.ownsRow_nil _ _ _ _⟩,Below.refl _ _⟩
 case round=>
  obtain⟨k,j,m,cl,ko,co,pl,po,ds',acc,hk,rfl,rfl,rfl,hm,hj,hko,HA,hE⟩:=hrel
  have HE:=Bl.hid hE
  clear hE HL2
  by_cases hlt:k < tn
  ·have h2:2<=m:=by
    rcases Nat.lt_or_ge m 2 with h | h
    ·exfalso
     have h1:=HA.out.2.2.2.1
     rw [turnsL_lo m j h]at h1
     have:=congrArg List.length h1
     rw [List.length_drop,<-Htn.out]at this
     simp at this;omega
    ·exact h
   obtain⟨s1,s2,s3⟩:=sp_bounds m h2 (by omega)
   obtain⟨hA1,hA2,hA3,hA4,hA5,hA6,hA7,hA8,hA9⟩:=HA.out
   have HKk:=Bl.hid hA3
   have HD:=Bl.hid hA5
   have HDa:=Bl.hid hA6
   have HL8:=Bl.hid hA8
   have HO:=Bl.hid hA9
   have Hal:=Bl.hid hA2
   have Hdm:=Bl.hid hA1
   have HLf:=Bl.hid (fun h:j < Bl.sp m=>turnsL_left m j h2 (by omega) h)
   have HRt:=Bl.hid (fun h:¬j < Bl.sp m=>turnsL_right m j h2 (by omega) h)
   have HPf:=Bl.hid (fun h:j < Bl.sp m=>pathL_left ndD zD ds' j (by rw [hA1];exact h2) (by rw [hA1];omega) (by rw [hA1];exact h))
   have HPr:=Bl.hid (fun h:¬j < Bl.sp m=>pathL_right ndD zD ds' j (by rw [hA1];exact h2) (by rw [hA1];omega) (by rw [hA1];exact h))
   rw [hA1]at HPf HPr
   have H4:=Bl.hid hA4
   have H7:=Bl.hid hA7
   obtain⟨b,o,cc,hpe,hcn,hcm,hbl,hrg⟩:=RdT.pos (by have h:=HT2.out;rw [Htn.out]at h;exact Rds.ext h HE.out) (by rw [<-Htn.out];omega)
   injection hpe with hpe1 hpe2 hpe3
   clear hpe2 hpe3
   subst hpe1
   have Hrg:=Bl.hid hrg
   obtain⟨b2,o2,c2,hq,hq1,hq2,hbl2,_⟩:=RdD.pos hA8 hA5 (by omega)
   injection hq with hq3 hq4 hq5
   subst hq3 hq5
   rw [hA1]at hq1
   clear hA1 hA2 hA3 hA4 hA5 hA6 hA7 hA8 hA9 HA hrg hbl hcn hcm hq4 hbl2
   obtain⟨q,hq⟩:∃q,q=Bl.sp m:=⟨_,rfl⟩
   rw [<-hq]at s1 s2 s3 HLf HRt HPf HPr
   clear hq
   have hkb0:(0:Int)<=(k:Int):=by omega
   have hkb1:(k:Int) < (tn:Int):=by omega
   by_cases hjq:j < q
   ·have hT1:T.drop k=(true,q,j) :: turnsL q j:=by rw [H4.out];exact HLf.out hjq
    obtain⟨hkT,hTk,hT2⟩:=drop_head default hT1
    have hP1:=HPf.out hjq
    have HT3:=Bl.hid hT2
    have HP1:=Bl.hid hP1
    have Hld:=Bl.hid (run_loadAt_mid (P:=Tryz.prog) wr b (o+k*3) 146 _ _ (turn_at Hrg.out hkT hTk) Tryz.underlying146 rfl (by kernel_rfl))
    clear hT1 hkT hTk hT2 hP1 HLf HRt HPf HPr H4
    go_wp2_with (with_reducible refine stop_load (ty:=146) ?_)
    refine go_on ?_
    refine wpL_load rfl Hld.out ?_
    obtain⟨hst,hc0,hc1,hEb⟩:=turn_box wr true q j
    have Hst:=Bl.hid hst
    have HEb:=Bl.hid hEb
    clear hst hEb Hld
    go_wp2_with (with_reducible refine stop_store (ty:=146) ?_)
    refine go_on ?_
    refine wpL_store0 rfl rfl Hst.out ?_
    clear Hst
    generalize (wr.alloc (.cells #[.bool false,.int .i64 0,.int .i64 0] 146)).setCells wr.heap.size 0 [.bool true,.int .i64 q,.int .i64 j]=W6 at*
    have HE6:=Bl.hid (HE.out.trans HEb.out)
    have hO6:=Bl.hid (owns_ext HO.out HEb.out)
    have hx1:(q:Int) < (m:Int):=by omega
    have hx2:¬(q=cl):=by omega
    have hx3:(0:Int)<=(q:Int):=by omega
    have hx4:(q:Int)<=(m:Int):=by omega
    have hx5:(q:Int)<=(cl:Int):=by omega
    have hx6:(m:Int)<=(cl:Int):=by omega
    have Hdr:=Bl.hid (RdD.drop (Rds.ext HL8.out HE6.out) HD.out q (by rw [Hdm.out];omega))
    have Htk:=Bl.hid (RdD.take HL8.out HD.out q (by rw [Hdm.out];omega))
    have Hov:=Bl.hid (over_any _ (ds'.drop q) W6 (by rw [List.length_drop,Hdm.out];omega) (HD.out.drop q) Hdr.out (Hg.out.ext (HE2.out.trans HE6.out)))
    have Hol:=Bl.hid (overD_dig _ (ds'.drop q) rfl (HD.out.drop q) (by rw [List.length_drop,Hdm.out];omega))
    obtain⟨d,hd⟩:∃d,d=overD (ds'.drop q):=⟨_,rfl⟩
    rw [<-hd]at Hov Hol
    have Hd:Hid (d=over ndD zD (ds'.drop q)):=Bl.hid hd
    clear hd Hdr
    go_wp2_with fail
    refine Hov.out.mono ?_
    rintro e w7 ⟨rfl,hE7⟩
    have HE7:=Bl.hid (HE6.out.trans hE7)
    have Hown2:=Bl.hid (owns_ext (owns_ext hO6.out hE7) (ext_alloc w7 (.cells (ints .u8 d).toArray 54)))
    have Hnew:=Bl.hid (rds_dig w7 54 d Hol.out.1)
    have HE8:Hid (Ext w2 (w7.alloc (.cells (ints .u8 d).toArray 54))):=Bl.hid (HE7.out.trans (ext_alloc _ _))
    clear hE7 Hov hc0 hc1
    go_wp2_with (with_reducible refine stop_build ?_)
    refine go_on ?_
    refine wpL_build1 tDig (by decide) rfl (by simp [Hol.out.1]) ?_
    go_wp2_with (with_reducible refine stop_append ?_)
    refine go_on ?_
    refine wpL_app tDig Hown2.out Hnew.out rfl rfl (by rw [cellsD_one,ints_length,Hol.out.1]) (cellsD_one' _) (by unfold maxLen;omega) (by omega) HE8.out.size ?_
    intro q3 d3 w9 hown9 hg9 hB9 hK9 hn9 hc9
    have HE9:Hid (Ext w2 w9):=Bl.hid (Below.trans HE8.out hB9)
    have HA9:Hid ((ds'.take q).length=q/\(acc++[d]).length=ko+1/\ko+1=k+1/\T.drop (k+1)=turnsL q j/\Dig (ds'.take q)/\Dig (acc++[d])/\pathL ndD zD (ds'.take q) j++(acc++[d]).reverse=PD/\RdD w2 (.slice (some ⟨b2,o2,none⟩) q cl) (ds'.take q)/\w9.ownsRow w2.heap.size 54 32 (.slice q3 (ko+1) d3) (ko+1) (cellsD (acc++[d]))):=Bl.hid
     ⟨by rw [List.length_take,Hdm.out];omega,by rw [List.length_append,Hal.out];rfl,by rw [HKk.out],HT3.out,HD.out.take q,HDa.out.append (Dig.one Hol.out.1 Hol.out.2),
      by rw [<-H7.out,HP1.out,List.reverse_append,List.append_assoc,Hd.out];rfl,Htk.out,by rw [cellsD_append];exact hown9⟩
    have hko1:ko+1<=tn:=by have:=HKk.out;omega
    clear hown9 hg9 hB9 hK9 Hown2 Hnew HE8
    go_wp2_with fail
    go_roundw
    case rel=>exact⟨k+1,j,q,cl,ko+1,d3,_,q3,_,_,by omega,by go_num,rfl,rfl,by omega,hjq,hko1,HA9.out,HE9.out⟩
    case measure=>simp [intOf];omega
   ·obtain⟨j2,hj2⟩:∃j2,j2=j - q:=⟨_,rfl⟩
    obtain⟨m2,hm2⟩:∃m2,m2=m - q:=⟨_,rfl⟩
    have hT1:T.drop k=(false,m2,j2) :: turnsL m2 j2:=by rw [H4.out,hm2,hj2];exact HRt.out hjq
    obtain⟨hkT,hTk,hT2⟩:=drop_head default hT1
    have hP1:=HPr.out hjq
    rw [<-hj2]at hP1
    have HT3:=Bl.hid hT2
    have HP1:=Bl.hid hP1
    have Hld:=Bl.hid (run_loadAt_mid (P:=Tryz.prog) wr b (o+k*3) 146 _ _ (turn_at Hrg.out hkT hTk) Tryz.underlying146 rfl (by kernel_rfl))
    have b1:m2<=512:=by omega
    have b2':j2 < m2:=by omega
    have e1:(m:Int) - (m2:Int)=(q:Int):=by omega
    have Hm2:=Bl.hid hm2
    clear hT1 hkT hTk hT2 hP1 HLf HRt HPf HPr H4 hj2 hm2
    go_wp2_with (with_reducible refine stop_load (ty:=146) ?_)
    refine go_on ?_
    refine wpL_load rfl Hld.out ?_
    obtain⟨hst,hc0,hc1,hEb⟩:=turn_box wr false m2 j2
    have Hst:=Bl.hid hst
    have HEb:=Bl.hid hEb
    clear hst hEb Hld
    go_wp2_with (with_reducible refine stop_store (ty:=146) ?_)
    refine go_on ?_
    refine wpL_store0 rfl rfl Hst.out ?_
    clear Hst
    generalize (wr.alloc (.cells #[.bool false,.int .i64 0,.int .i64 0] 146)).setCells wr.heap.size 0 [.bool false,.int .i64 m2,.int .i64 j2]=W6 at*
    have HE6:=Bl.hid (HE.out.trans HEb.out)
    have hO6:=Bl.hid (owns_ext HO.out HEb.out)
    have hx1:(q:Int) < (m:Int):=by omega
    have hx2:¬(q=cl):=by omega
    have hx3:(0:Int)<=(q:Int):=by omega
    have hx4:(q:Int)<=(m:Int):=by omega
    have hx5:(q:Int)<=(cl:Int):=by omega
    have hx6:(m:Int)<=(cl:Int):=by omega
    have Hdr:Hid (RdD w2 (.slice (some ⟨b2,o2+q*32,none⟩) m2 (cl - q)) (ds'.drop q)):=Bl.hid (by have h:=RdD.drop HL8.out HD.out q (by rw [Hdm.out];omega);rw [<-Hm2.out]at h;exact h)
    have Htk:=Bl.hid (RdD.take (Rds.ext HL8.out HE6.out) HD.out q (by rw [Hdm.out];omega))
    have Hov:=Bl.hid (over_any _ (ds'.take q) W6 (by rw [List.length_take,Hdm.out];omega) (HD.out.take q) Htk.out (Hg.out.ext (HE2.out.trans HE6.out)))
    have Hol:=Bl.hid (overD_dig _ (ds'.take q) rfl (HD.out.take q) (by rw [List.length_take,Hdm.out];omega))
    obtain⟨d,hd⟩:∃d,d=overD (ds'.take q):=⟨_,rfl⟩
    rw [<-hd]at Hov Hol
    have Hd:Hid (d=over ndD zD (ds'.take q)):=Bl.hid hd
    clear hd Htk
    go_wp2_with fail
    refine Hov.out.mono ?_
    rintro e w7 ⟨rfl,hE7⟩
    have HE7:=Bl.hid (HE6.out.trans hE7)
    have Hown2:=Bl.hid (owns_ext (owns_ext hO6.out hE7) (ext_alloc w7 (.cells (ints .u8 d).toArray 54)))
    have Hnew:=Bl.hid (rds_dig w7 54 d Hol.out.1)
    have HE8:Hid (Ext w2 (w7.alloc (.cells (ints .u8 d).toArray 54))):=Bl.hid (HE7.out.trans (ext_alloc _ _))
    clear hE7 Hov hc0 hc1
    go_wp2_with (with_reducible refine stop_build ?_)
    refine go_on ?_
    refine wpL_build1 tDig (by decide) rfl (by simp [Hol.out.1]) ?_
    go_wp2_with (with_reducible refine stop_append ?_)
    refine go_on ?_
    refine wpL_app tDig Hown2.out Hnew.out rfl rfl (by rw [cellsD_one,ints_length,Hol.out.1]) (cellsD_one' _) (by unfold maxLen;omega) (by omega) HE8.out.size ?_
    intro q3 d3 w9 hown9 hg9 hB9 hK9 hn9 hc9
    have HE9:Hid (Ext w2 w9):=Bl.hid (Below.trans HE8.out hB9)
    have HA9:Hid ((ds'.drop q).length=m2/\(acc++[d]).length=ko+1/\ko+1=k+1/\T.drop (k+1)=turnsL m2 j2/\Dig (ds'.drop q)/\Dig (acc++[d])/\pathL ndD zD (ds'.drop q) j2++(acc++[d]).reverse=PD/\RdD w2 (.slice (some ⟨b2,o2+q*32,none⟩) m2 (cl - q)) (ds'.drop q)/\w9.ownsRow w2.heap.size 54 32 (.slice q3 (ko+1) d3) (ko+1) (cellsD (acc++[d]))):=Bl.hid
     ⟨by rw [List.length_drop,Hdm.out,Hm2.out],by rw [List.length_append,Hal.out];rfl,by rw [HKk.out],HT3.out,HD.out.drop q,HDa.out.append (Dig.one Hol.out.1 Hol.out.2),
      by rw [<-H7.out,HP1.out,List.reverse_append,List.append_assoc,Hd.out];rfl,Hdr.out,by rw [cellsD_append];exact hown9⟩
    have hko1:ko+1<=tn:=by have:=HKk.out;omega
    have Hmq:Hid (m - q=m2):=Bl.hid Hm2.out.symm
    clear hown9 hg9 hB9 hK9 Hown2 Hnew HE8 e1
    go_wp2_with fail
    try rw [Hmq.out]
    go_roundw
    case rel=>exact⟨k+1,j2,m2,cl - q,ko+1,d3,_,q3,_,_,by omega,by go_num,rfl,rfl,b1,b2',hko1,HA9.out,HE9.out⟩
    case measure=>simp [intOf];omega
  ·obtain rfl:k=tn:=by omega
   obtain⟨hA1,hA2,hA3,hA4,hA5,hA6,hA7,hA8,hA9⟩:=HA.out
   have hm2:m < 2:=by
    rcases Nat.lt_or_ge m 2 with h | h
    ·exact h
    ·exfalso
     obtain⟨s1,s2,s3⟩:=sp_bounds m h (by omega)
     rw [Htn.out,List.drop_length]at hA4
     by_cases hjq:j < Bl.sp m
     ·rw [turnsL_left m j h (by omega) hjq]at hA4;cases hA4
     ·rw [turnsL_right m j h (by omega) hjq]at hA4;cases hA4
   rw [pathL_lo _ _ _ _ (by omega),List.nil_append]at hA7
   have HO:=Bl.hid hA9
   have HDa:=Bl.hid hA6
   have Hal:=Bl.hid hA2
   have H7:=Bl.hid hA7
   clear hA1 hA2 hA3 hA4 hA5 hA6 hA7 hA8 hA9 HA
   by_cases h0:ko=0
   ·subst h0
    have Hnil:Hid (PD=[]):=Bl.hid (by rw [<-H7.out,List.length_eq_zero_iff.1 Hal.out];rfl)
    go_wp2_with fail
    refine(revD_nil _ _ _).mono ?_
    rintro e w9 ⟨rfl,hw9⟩
    subst hw9
    go_wp2_with fail
    go_ret2
    refine⟨.slice po 0 co,rfl,?_,fun k hk=>Nat.le_trans HE2.out.size (HO.out.lt k hk).1,HE2.out.trans HE.out⟩
    have h:=Rds.of_owns HO.out
    rw [List.length_eq_zero_iff.1 Hal.out]at h
    rw [Hnil.out]
    exact h
   ·obtain⟨g,hpo⟩:∃g,po=some ⟨g,0,none⟩:=by
     rcases HO.out.2 with ⟨hv,_⟩ | ⟨g,cap,cur,hv,_⟩
     ·injection hv with _ hv;omega
     ·injection hv with hv;exact⟨g,hv⟩
    subst hpo
    obtain⟨_,_,hvf,hvn,hvc⟩:=(Rds.of_owns HO.out).form
    injection hvf with hf1 hf2 hvf
    clear hf1 hf2
    subst hvf
    have Hgl:=Bl.hid (HO.out.lt g rfl).1
    have HH:Hid (Bl.HD wr g acc):=Bl.hid (Bl.HD.of_owns (by have h:=HO.out;rw [<-Hal.out]at h;exact h) HDa.out)
    have hko5:ko<=512:=by omega
    have Hrv:=Bl.hid (revD_any g co ko acc wr Hal.out.symm HH.out (by omega) hvn hvc)
    have Hvn:=Bl.hid hvn
    have Hvc:=Bl.hid hvc
    clear hvn hvc
    go_wp2_with fail
    refine Hrv.out.mono ?_
    rintro e w9 ⟨rfl,hH9,hB9⟩
    have HH9:=Bl.hid hH9
    have HB9:=Bl.hid hB9
    clear hH9 hB9 Hrv
    go_wp2_with fail
    go_ret2
    refine⟨.slice (some ⟨g,0,none⟩) ko co,rfl,?_,fun k hk=>(by have e:g=k:=Option.some.inj hk;subst e;exact Nat.le_trans HE2.out.size Hgl.out),Below.trans (HE2.out.trans HE.out) (HB9.out.mono (Nat.le_trans HE2.out.size Hgl.out))⟩
    rw [<-H7.out]
    have h:=HH9.out.rds (c:=co) (fun d hd=>HDa.out d (List.mem_reverse.1 hd)) (by rw [List.length_reverse,Hal.out];exact Hvn.out) Hvc.out
    rw [List.length_reverse,Hal.out]at h
    exact h
theorem pmake_any (v:Value) (ps:List (List Int)) (i:Nat) (w:World) (hR:Rdss w v ps) (hg:Glob w) (hby:∀p∈ps,Byt p) (hlp:∀p∈ps,p.length<=1099511627000) (hn:ps.length<=512) (hi:i < ps.length):
  Calls Tryz.prog 46 #[v,.int .i64 i] w fun e w'=>∃v',e= .returned (.tuple #[v',.nilIface])/\RdD w' v' (pathD ps i)/\Ext w w':=by
 refine(pmake_own v ps i w hR hg hby hlp hn hi).mono ?_
 rintro e w' ⟨v',h1,h2,_,h3⟩
 exact⟨v',h1,h2,h3⟩
end Go.Proofs.YtglenbikdahgjaaGreatDoor
namespace Go.Proofs.Bl
open Go Go.RowKit
theorem load_row {P:Program} {w:World} {b o:Nat} {ty:TypeId} {cs:List Value} {d:TypeDesc} {n:Nat} (hc:w.rangeAt b o cs) (hu:P.underlying ty=some d) (hd:d.isRow=true) (hi:(P.info? ty).map (·.size)=some n) (hl:cs.length=n):
  (Instr.loadAt ty (.pointer (some ⟨b,o,none⟩))).run P w= .ok (.agg cs.toArray) w:=run_loadAt_mid w b o ty cs d hc hu hd (by rw [hi,hl])
theorem store_row {P:Program} {w:World} {b o:Nat} {ty:TypeId} {cs:List Value} {n:Nat} (ht:w.there b o n) (hi:(P.info? ty).map (·.size)=some n) (hl:cs.length=n) (h1:∀c∈cs,c.oneCell'=true):
  (Instr.storeAt ty (.pointer (some ⟨b,o,none⟩)) (.agg cs.toArray)).run P w= .ok () (w.setCells b o cs):=by
 have h:=run_storeAt_mid (P:=P) w b o ty cs.toArray (by simpa [hl] using ht) (by rw [hi];simp [hl]) (all_oneCell_toArray h1)
 simpa using h
def cellT (t:Bool × Nat × Nat):List Value:=[.bool t.1,.int .i64 t.2.1,.int .i64 t.2.2]
theorem cellT_one (t:Bool × Nat × Nat):∀c∈cellT t,c.oneCell'=true:=by
 intro c hc
 simp only [cellT,List.mem_cons,List.not_mem_nil,or_false]at hc
 rcases hc with rfl | rfl | rfl<;>rfl
structure HV (w:World) (g:Nat) (L:List (List Value)):Prop where
 len:∀i,i < L.length->(L.getD i []).length=3
 at':∀i,i < L.length->w.rangeAt g (i*3) ((L.getD i []))
 th:w.there g 0 (L.length*3)
theorem getD_setV (L:List (List Value)) (i j:Nat) (d:List Value) (h:i < L.length):(L.set i d).getD j []=if j=i then d else L.getD j []:=by
 rw [List.getD_eq_getElem?_getD,List.getD_eq_getElem?_getD,List.getElem?_set]
 by_cases e:i=j
 ·subst e;simp [h]
 ·have e':¬j=i:=fun q=>e q.symm
  rw [if_neg e,if_neg e']
theorem HV.set {w:World} {g:Nat} {L:List (List Value)} (h:HV w g L) {i:Nat} (hi:i < L.length) {d:List Value} (hd:d.length=3):HV (w.setCells g (i*3) d) g (L.set i d):=by
 have hti:w.there g (i*3) 3:=fun j hj=>by
  have:=h.th (i*3+j) (by omega)
  rw [Nat.zero_add]at this;exact this
 refine⟨fun j hj=> ?_,fun j hj=> ?_,?_⟩
 ·rw [getD_setV _ _ _ _ hi]
  rw [List.length_set]at hj
  split
  ·exact hd
  ·exact h.len j hj
 ·rw [getD_setV _ _ _ _ hi]
  rw [List.length_set]at hj
  by_cases e:j=i
  ·rw [if_pos e,e]
   exact World.rangeAt_setCells_same w g (i*3) d (by rw [hd];exact hti)
  ·rw [if_neg e]
   exact World.rangeAt_setCells_apart (h.at' j hj) g (i*3) d (.inr (by rw [hd,h.len j hj];omega))
 ·rw [List.length_set];exact World.there_setCells h.th _ _ _
theorem HV.drew {w:World} {g:Nat} {L:List (List Value)} (h:HV w g L):HV w.drew g L:=⟨h.len,h.at',h.th⟩
theorem HV.congr {w:World} {g:Nat} {L M:List (List Value)} (h:HV w g L) (e:M=L):HV w g M:=by rw [e];exact h
def RevJV (g:Nat) (L0 L1 L2:List (List Value)) (d:Nat->Bool) (_u:Nat->Value) (w:World):Prop:=HV w g (if d 15=true then L2 else if d 13=true then L1 else L0)
theorem RevJV.same {g i:Nat} {L0 L1 L2:List (List Value)} {d:Nat->Bool} {u u':Nat->Value} {w:World} (hi:(decide (15=i)||decide (13=i))=false) (h:RevJV g L0 L1 L2 d u w):RevJV g L0 L1 L2 (upd d i) u' w:=by
 simp only [Bool.or_eq_false_iff,decide_eq_false_iff_not]at hi
 unfold RevJV upd at*
 rw [if_neg hi.1,if_neg hi.2];exact h
theorem RevJV.st1 {g:Nat} {L0 L1 L2:List (List Value)} {d:Nat->Bool} {u:Nat->Value} {w:World} (h15:d 15=false) (h:HV w g L1):RevJV g L0 L1 L2 (upd d 13) u w:=by
 show HV w g (if upd d 13 15=true then L2 else if upd d 13 13=true then L1 else L0)
 rw [show upd d 13 15=false from h15,show upd d 13 13=true from rfl]
 exact h
def revV (L:List (List Value)) (k:Nat):List (List Value):=(List.range L.length).map fun i=>if i < k\/L.length<=i+k then L.getD (L.length - 1 - i) []else L.getD i []
theorem revV_length (L:List (List Value)) (k:Nat):(revV L k).length=L.length:=by simp [revV]
theorem revV_get (L:List (List Value)) (k i:Nat) (h:i < L.length):(revV L k).getD i []=if i < k\/L.length<=i+k then L.getD (L.length - 1 - i) []else L.getD i []:=by
 unfold revV
 rw [List.getD_eq_getElem?_getD,List.getElem?_map,List.getElem?_range h];rfl
theorem list_extV {A B:List (List Value)} (h:A.length=B.length) (k:∀i,i < A.length->A.getD i []=B.getD i []):A=B:=by
 apply List.ext_getElem h
 intro i h1 h2
 have:=k i h1
 rw [List.getD_eq_getElem?_getD,List.getD_eq_getElem?_getD,List.getElem?_eq_getElem h1,List.getElem?_eq_getElem h2]at this
 exact this
theorem revV_zero (L:List (List Value)):revV L 0=L:=list_extV (revV_length L 0) fun i hi=>by
 rw [revV_length]at hi
 rw [revV_get L 0 i hi,if_neg (by omega)]
theorem revV_succ (L:List (List Value)) (k:Nat) (h:2*k+1 < L.length):revV L (k+1)=((revV L k).set k (L.getD (L.length - 1 - k) [])).set (L.length - 1 - k) (L.getD k []):=by
 refine list_extV (by rw [revV_length,List.length_set,List.length_set,revV_length]) fun i hi=> ?_
 rw [revV_length]at hi
 rw [getD_setV _ _ _ _ (by rw [List.length_set,revV_length];omega),getD_setV _ _ _ _ (by rw [revV_length];omega),revV_get _ _ _ hi,revV_get _ _ _ hi]
 by_cases c1:i=L.length - 1 - k
 ·rw [if_pos c1,if_pos (by omega),c1,show L.length - 1 - (L.length - 1 - k)=k from by omega]
 ·rw [if_neg c1]
  by_cases c2:i=k
  ·rw [if_pos c2,if_pos (by omega),c2]
  ·rw [if_neg c2]
   by_cases c3:i < k\/L.length<=i+k
   ·rw [if_pos c3,if_pos (by omega)]
   ·rw [if_neg c3,if_neg (by omega)]
theorem revV_end (L:List (List Value)) (k:Nat) (h:L.length<=2*k+1) (h2:2*k<=L.length+1):revV L k=L.reverse:=list_extV (by rw [revV_length,List.length_reverse]) fun i hi=>by
 rw [revV_length]at hi
 rw [revV_get L k i hi]
 have e:L.reverse.getD i []=L.getD (L.length - 1 - i) []:=by
  rw [List.getD_eq_getElem?_getD,List.getD_eq_getElem?_getD,List.getElem?_reverse hi]
 rw [e]
 by_cases c:i < k\/L.length<=i+k
 ·rw [if_pos c]
 ·rw [if_neg c,show L.length - 1 - i=i from by omega]
theorem map_getT (ts:List (Bool × Nat × Nat)) (k:Nat) (h:k < ts.length):(ts.map cellT).getD k []=cellT (ts.getD k default):=getD_map cellT ts k default [] h
theorem HV.of_owns {w:World} {base g c:Nat} {e:TypeId} {ts:List (Bool × Nat × Nat)} (h:w.ownsRow base e 3 (.slice (some ⟨g,0,none⟩) ts.length c) ts.length (cellsT ts)):HV w g (ts.map cellT):=by
 have h2:=h
 refine⟨fun i hi=> ?_,fun i hi=> ?_,fun j hj=> ?_⟩
 ·rw [List.length_map]at hi;rw [map_getT _ _ hi];rfl
 ·rw [List.length_map]at hi
  have:=turn_at (o:=0) (fun j v hv=>by
   have:=h.cells (g:=g) rfl j v hv
   rw [Addr.add_mid]at this;exact this) hi (x:=(ts.getD i default).1) (n:=(ts.getD i default).2.1) (i:=(ts.getD i default).2.2) rfl
  rw [Nat.zero_add]at this
  rw [map_getT _ _ hi]
  exact this
 ·rw [List.length_map]at hj
  have hlen:=cellsT_length ts
  have hjl:j < (cellsT ts).length:=by omega
  have hc:=h.cells (g:=g) rfl j _ (List.getElem?_eq_getElem hjl)
  rw [Addr.add_mid]at hc
  refine⟨by rw [hc];rfl,?_⟩
  rcases h2.2 with ⟨hv,_⟩ | ⟨k,cap,cur,hv,hk,hh,r⟩
  ·cases hv
  ·injection hv with e1 _ _
   injection e1 with e1
   injection e1 with e1
   subst e1
   simp [World.frozen?,hh]
theorem cellsT_at (ts:List (Bool × Nat × Nat)) (j:Nat) (h:j < ts.length*3):(cellsT ts)[j]? =(cellT (ts.getD (j / 3) default))[j % 3]? :=by
 obtain⟨h0,h1,h2⟩:=cellsT_get ts (j / 3) (by omega)
 have hm:j % 3=0\/j % 3=1\/j % 3=2:=by omega
 rcases hm with hm | hm | hm
 ·rw [hm,show j=j / 3*3 from by omega];rw [show j / 3*3 / 3=j / 3 from by omega];exact h0
 ·rw [hm,show j=j / 3*3+1 from by omega];rw [show(j / 3*3+1) / 3=j / 3 from by omega];exact h1
 ·rw [hm,show j=j / 3*3+2 from by omega];rw [show(j / 3*3+2) / 3=j / 3 from by omega];exact h2
theorem HV.rds {w:World} {g c:Nat} {ts:List (Bool × Nat × Nat)} (h:HV w g (ts.map cellT)) (hc:ts.length<=c) (hm:c<=maxLen):Rds w (.slice (some ⟨g,0,none⟩) ts.length c) ts.length (cellsT ts):=by
 refine .inr ⟨g,0,c,rfl,hc,hm,fun j v hv=> ?_⟩
 have hj:j < ts.length*3:=by
  have:=(List.getElem?_eq_some_iff.1 hv).1
  rwa [cellsT_length]at this
 have h1:=h.at' (j / 3) (by rw [List.length_map];omega)
 rw [map_getT _ _ (by omega)]at h1
 rw [cellsT_at ts j hj]at hv
 have:=h1 (j % 3) v hv
 rw [show j / 3*3+j % 3=0+j from by omega]at this
 exact this
end Go.Proofs.Bl
namespace Go.Proofs.YtglenbikdahgjaaGreatDoor
open Go.RowKit Go.Proofs Go.Proofs.Bl
theorem revT_rows (g c n:Nat) (L:List (List Value)) (w:World) (hone:∀i,i < L.length->∀c∈L.getD i [],c.oneCell'=true) (hn:n=L.length) (h:Bl.HV w g L) (hl:n<=1099511627776) (_hc:n<=c) (_hcm:c<=maxLen):
  Calls Tryz.prog 89 #[.slice (some ⟨g,0,none⟩) n c] w fun e w'=>e= .returned (.tuple #[])/\Bl.HV w' g L.reverse/\Below g w w':=by
 have H:=Bl.hid h
 have Hn:=Bl.hid hn
 have Hone:=Bl.hid hone
 clear h hn hone
 go_enter Tryz.func89,Tryz.ntmps89
 go_wp2_with fail
 go_loopw [2,3] (fun i j wr=>∃k:Nat,i= .int .i64 k/\j= .int .i64 ((n:Int) - 1 - k)/\2*k<=n+1/\Bl.HV wr g (revV L k)/\Below g w wr) (fun i _ _=>n+1 - (intOf i).toNat)
 case atStart=>exact⟨0,rfl,by simp,by omega,H.out.congr (revV_zero L),Below.refl _ _⟩
 case round=>
  obtain⟨k,rfl,rfl,hk,hF,hB⟩:=hrel
  have HF:=Bl.hid hF
  have HB:=Bl.hid hB
  clear hF hB
  by_cases hlt:(k:Int) < (n:Int) - 1 - (k:Int)
  ·obtain⟨m,hm⟩:∃m,m=n - 1 - k:=⟨_,rfl⟩
   have hmi:(n:Int) - 1 - (k:Int)=(m:Int):=by omega
   rw [hmi]at hlt⊢
   have Hm:Hid (m=L.length - 1 - k):=Bl.hid (by rw [hm,Hn.out])
   have hkm:k < m:=by omega
   have hmn:m < n:=by omega
   have h2k:2*k+1 < n:=by omega
   have hmi2:(m:Int) - 1=(n:Int) - 1 - ((k+1:Nat):Int):=by omega
   have Hmi2:=Bl.hid hmi2
   have hkl:k < (revV L k).length:=by rw [revV_length,<-Hn.out];omega
   have hml:m < (revV L k).length:=by rw [revV_length,<-Hn.out];omega
   have Hsucc:=Bl.hid (revV_succ L k (by rw [<-Hn.out];omega))
   have hgk:(revV L k).getD k []=L.getD k []:=by rw [revV_get L k k (by rw [<-Hn.out];omega),if_neg (by rw [<-Hn.out];omega)]
   have hgm:(revV L k).getD m []=L.getD m []:=by rw [revV_get L k m (by rw [<-Hn.out];omega),if_neg (by rw [<-Hn.out];omega)]
   rw [<-Hm.out]at Hsucc
   have hxl:=HF.out.len k hkl
   have hyl:=HF.out.len m hml
   rw [hgk]at hxl
   rw [hgm]at hyl
   have hx1:=Hone.out k (by rw [<-Hn.out];omega)
   have hy1:=Hone.out m (by rw [<-Hn.out];omega)
   have Hkl:=Bl.hid hkl
   have Hml:=Bl.hid hml
   obtain⟨L0,hL0⟩:∃L0,L0=revV L k:=⟨_,rfl⟩
   obtain⟨x,hx⟩:∃x,x=L.getD k []:=⟨_,rfl⟩
   obtain⟨y,hy⟩:∃y,y=L.getD m []:=⟨_,rfl⟩
   rw [<-hL0]at HF Hkl Hml Hsucc hgk hgm
   rw [<-hx,<-hy]at Hsucc
   rw [<-hx]at hxl hgk hx1
   rw [<-hy]at hyl hgm hy1
   have Hx1:=Bl.hid hx1
   have Hy1:=Bl.hid hy1
   have Hgk:=Bl.hid hgk
   have Hgm:=Bl.hid hgm
   have Hxl:=Bl.hid hxl
   have Hyl:=Bl.hid hyl
   clear hkl hml hxl hyl hL0 hx hy hgk hgm hmi hm hx1 hy1
   have HLm:Hid (∀w',Bl.HV w' g L0->(Instr.loadAt 146 (.pointer (some ⟨g,m*3,none⟩))).run Tryz.prog w'= .ok (.agg y.toArray) w'):=Bl.hid fun w' h=>by
    have h1:=h.at' m Hml.out
    rw [Hgm.out]at h1
    exact load_row h1 Tryz.underlying146 rfl (by kernel_rfl) Hyl.out
   have HLk:Hid (∀w',Bl.HV w' g L0->(Instr.loadAt 146 (.pointer (some ⟨g,k*3,none⟩))).run Tryz.prog w'= .ok (.agg x.toArray) w'):=Bl.hid fun w' h=>by
    have h1:=h.at' k Hkl.out
    rw [Hgk.out]at h1
    exact load_row h1 Tryz.underlying146 rfl (by kernel_rfl) Hxl.out
   have HSk:Hid (∀w',Bl.HV w' g L0->(Instr.storeAt 146 (.pointer (some ⟨g,k*3,none⟩)) (.agg y.toArray)).run Tryz.prog w'= .ok () (w'.setCells g (k*3) y)/\Bl.HV (w'.setCells g (k*3) y) g (L0.set k y)):=Bl.hid fun w' h=>⟨store_row (n:=3) (fun j hj=>by
    have:=h.th (k*3+j) (by have:=Hkl.out;omega)
    rw [Nat.zero_add]at this;exact this) (by kernel_rfl) Hyl.out Hy1.out,h.set Hkl.out Hyl.out⟩
   have HSm:Hid (∀w',Bl.HV w' g (L0.set k y)->(Instr.storeAt 146 (.pointer (some ⟨g,m*3,none⟩)) (.agg x.toArray)).run Tryz.prog w'= .ok () (w'.setCells g (m*3) x)/\Bl.HV (w'.setCells g (m*3) x) g ((L0.set k y).set m x)):=Bl.hid fun w' h=>⟨store_row (n:=3) (fun j hj=>by
    have:=h.th (m*3+j) (by rw [List.length_set];have:=Hml.out;omega)
    rw [Nat.zero_add]at this;exact this) (by kernel_rfl) Hxl.out Hx1.out,h.set (by rw [List.length_set];exact Hml.out) Hxl.out⟩
   have e4:(k:Int) < (n:Int):=by omega
   have e5:(m:Int) < (n:Int):=by omega
   have e6:(0:Int)<=(k:Int):=by omega
   have e7:(0:Int)<=(m:Int):=by omega
   go_wp2_with fail
   apply wp_region_evK (fun a b=>Below g a b) (RevJV g L0 (L0.set k y) ((L0.set k y).set m x)) 16 [14,15,16,17,18,19,20,21,22,23,24,25,26,27] [eqv _,eqv _,eqv _,eqv _,eqv _,eqv _,eqv _,eqv _,eqv _,eqv _,eqv _,eqv _,eqv (.pointer (some ⟨g,k*3,none⟩)),eqv _,eqv (.pointer (some ⟨g,m*3,none⟩)),eqv _] (fun w=>Below.refl _ w) (fun a b c h k=>Below.trans h k) (by kernel_rfl) (by kernel_rfl) (by kernel_rfl) (by kernel_rfl)
   case hsteps=>
    refine⟨?_,?_,?_,?_,?_,?_,?_,?_,?_,?_,?_,?_,?_,?_,?_,?_,trivial⟩
    all_goals
     intro d ev w1 hext HJd Hanc Hdes hni hb hd
     replace Hanc:=Bl.hid Hanc
     replace HJd:=Bl.hid HJd
     replace Hdes:=Bl.hid Hdes
     replace hni:=Bl.hid hni
     have e0:=hb 0 (by decide)
     have e2:=hb 2 (by decide)
     have e3:=hb 3 (by decide)
     clear hb
     simp only [Qa,Qb,Q1,Bl.Q2,Qd]at e0 e2 e3
     simp only [DepsE2,Q1,Bl.Q2,Qc,Q3,Q4,eqv,and_true]at hd
     have hc:=(bcell hext).1
     simp only [Region.wanted,if_true]
     first
     | (have hD:Bl.HV w1 g L0:=(by have h:=HJd.out;unfold RevJV at h;rw [Hdes.out 15 (by kernel_rfl),Hdes.out 13 (by kernel_rfl)]at h;exact h);(with_reducible refine goodX_load (fun w=>Below.refl _ w) ?_ (HLm.out _ hD) ?_);exact hd;exact⟨rfl,RevJV.same (by decide) HJd.out⟩) | (have hD:Bl.HV w1 g L0:=(by have h:=HJd.out;unfold RevJV at h;rw [Hdes.out 15 (by kernel_rfl),Hdes.out 13 (by kernel_rfl)]at h;exact h);(with_reducible refine goodX_load (fun w=>Below.refl _ w) ?_ (HLk.out _ hD) ?_);exact hd;exact⟨rfl,RevJV.same (by decide) HJd.out⟩) | (have hD:Bl.HV w1 g L0:=(by have h:=HJd.out;unfold RevJV at h;rw [Hdes.out 15 (by kernel_rfl),hni.out]at h;exact h);(with_reducible refine goodX_store ?_ ?_ (HSk.out _ hD).1 ?_ ?_);exact hd.1;exact hd.2.1;exact below_setCells _ _ _ _ (Below.refl _ _) (Nat.le_refl _);exact⟨rfl,RevJV.st1 (Hdes.out 15 (by kernel_rfl)) (HSk.out _ hD).2⟩) | (have hD:Bl.HV w1 g (L0.set k y):=(by have h:=HJd.out;unfold RevJV at h;rw [hni.out,Hanc.out 13 (by kernel_rfl)]at h;exact h);(with_reducible refine goodX_store ?_ ?_ (HSm.out _ hD).1 ?_ ?_);exact hd.1;exact hd.2.1;exact below_setCells _ _ _ _ (Below.refl _ _) (Nat.le_refl _);exact⟨rfl,(by unfold RevJV upd;exact(HSm.out _ hD).2)⟩)
     | (go_simp;first | exact⟨Below.refl _ _,rfl,RevJV.same (by decide) HJd.out⟩ | exact⟨Below.refl _ _,rfl,Bl.HJ.same (by decide) HJd.out⟩)
   case hmono=>exact⟨monoR_eqv _,monoR_eqv _,monoR_eqv _,monoR_eqv _,monoR_eqv _,monoR_eqv _,monoR_eqv _,monoR_eqv _,monoR_eqv _,monoR_eqv _,monoR_eqv _,monoR_eqv _,(monoR_eqv _),monoR_eqv _,(monoR_eqv _),monoR_eqv _,trivial⟩
   case hR0=>exact(Below.refl _ _).drew
   case hend=>
    intro u w1 hext hJ hend
    simp only [EndE,Q1,Bl.Q2,Qc,Q3,Q4,eqv,true_and]at hend
    simp only [fillAct,Q5,Q6,Q7,Q8,Q9,hend]
    have HJ2:Hid (Bl.HV w1 g ((L0.set k y).set m x)):=Bl.hid hJ
    have HB2:=Bl.hid (HB.out.trans hext)
    clear hJ hext hend
    go_wp2_with fail
    go_roundw
    case rel=>exact⟨k+1,by simp,by show Value.int _ _=Value.int _ _;first | (congr 1;done) | (congr 1;have:=Hmi2.out;omega),by omega,by rw [Hsucc.out];exact HJ2.out,HB2.out⟩
    case measure=>simp [intOf];omega
   case hJ0=>exact HF.out.drew
  ·have Hend:=Bl.hid (revV_end L k (by rw [<-Hn.out];omega) (by rw [<-Hn.out];omega))
   go_wp2_with fail
   go_end0
   exact⟨rfl,by rw [<-Hend.out];exact HF.out,HB.out⟩
theorem revT_nil (p:Option Addr) (c:Nat) (w:World):
  Calls Tryz.prog 89 #[.slice p 0 c] w fun e w'=>e= .returned (.tuple #[])/\w=w':=by
 go_enter Tryz.func89,Tryz.ntmps89
 go_wp2_with fail
 go_loop [2,3] (fun i j=>i= .int .i64 0/\j= .int .i64 (-1)) (fun _ _=>0)
 case atStart=>exact⟨rfl,rfl⟩
 case round=>
  obtain⟨rfl,rfl⟩:=hrel
  go_wp2_with fail
  go_end0
  exact⟨rfl,rfl⟩
theorem revT_any (p:Option Addr) (n c base:Nat) (e:TypeId) (ts:List (Bool × Nat × Nat)) (w:World) (hn:ts.length=n) (h:w.ownsRow base e 3 (.slice p n c) n (cellsT ts)) (hl:n<=512):
  Calls Tryz.prog 89 #[.slice p n c] w fun e' w'=>e'= .returned (.tuple #[])/\Rds w' (.slice p n c) n (cellsT ts.reverse)/\Below base w w':=by
 subst hn
 by_cases h0:ts.length=0
 ·have hr:=Rds.of_owns h
  obtain rfl:=List.length_eq_zero_iff.1 h0
  exact(revT_nil p c w).mono fun _ _ ⟨h1,h2⟩=>⟨h1,by rw [<-h2];exact hr,by rw [h2];exact Below.refl _ _⟩
 ·obtain⟨g,hpo⟩:∃g,p=some ⟨g,0,none⟩:=by
   rcases h.2 with ⟨hv,_⟩ | ⟨g,cap,cur,hv,_⟩
   ·injection hv with _ hv;omega
   ·injection hv with hv;exact⟨g,hv⟩
  subst hpo
  obtain⟨_,_,hvf,hvn,hvc⟩:=(Rds.of_owns h).form
  injection hvf with hf1 hf2 hvf
  subst hvf
  have hg:=(h.lt g rfl).1
  refine(revT_rows g c ts.length (ts.map cellT) w (fun i hi=>by rw [List.length_map]at hi;rw [map_getT _ _ hi];exact cellT_one _) (by rw [List.length_map]) (Bl.HV.of_owns h) (by omega) hvn hvc).mono ?_
  rintro e' w' ⟨h1,h2,h3⟩
  refine⟨h1,?_,h3.mono hg⟩
  rw [<-List.map_reverse]at h2
  have:=h2.rds (c:=c) (by rw [List.length_reverse];exact hvn) hvc
  rw [List.length_reverse]at this
  exact this
end Go.Proofs.YtglenbikdahgjaaGreatDoor
