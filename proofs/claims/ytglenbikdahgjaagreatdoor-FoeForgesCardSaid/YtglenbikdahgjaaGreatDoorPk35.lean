/- Walk of baileeref22.Check. -/
import Derived.Test.YtglenbikdahgjaaGreatDoorPk32
import Derived.Test.YtglenbikdahgjaaGreatDoorPk33
import Derived.Test.YtglenbikdahgjaaGreatDoorPk34
import Derived.Test.YtglenbikdahgjaaGreatDoorPk25
set_option maxRecDepth 100000
set_option maxHeartbeats 16000000
namespace Go.Proofs.YtglenbikdahgjaaGreatDoor
open Go Go.RowKit Go.Proofs Go.Proofs.Bl
theorem rcheck6_any (v:Value) (l:Bl.LT) (w:World) (h:LtV w v l) (hk:l.kind=6):
  Calls Tryz.prog 40 #[v] w fun e w'=>e= .returned (.int .i64 (chkL l:Nat))/\Ext w w':=by
 have HL:=Bl.hid h
 obtain⟨cs0,vp,vs,vb,L,rfl,hc⟩:=h
 obtain rfl:=hc.eq
 have HLa:Hid (∀w2,Ext w w2->numOk l=true->sizOk l=true->Calls Tryz.prog 60 #[.agg (cL l vp vs vb).toArray] w2 fun e w'=>∃v',e= .returned v'/\Rd w' .u8 v' (bytL l)/\Ext w2 w'):=Bl.hid fun w2 h2 hn hz=>rlaid_any _ l w2 (HL.out.ext h2) (by rw [hk];decide) hn hz
 obtain⟨kd,id,oj,pl,sh,fr,ct,bl,cd⟩:=l
 obtain⟨p1,c1,e1,hc1,hm1⟩:=hc.pl.form
 obtain⟨p2,c2,e2,hc2,hm2⟩:=hc.sh.rd.form
 obtain⟨p3,c3,e3,hc3,hm3⟩:=hc.bl.form
 have Hpl:Hid (Rd w .i64 vp pl):=Bl.hid hc.pl
 have Hsh:=Bl.hid hc.sh
 have Hsl:Hid (L.map plS=sh):=Bl.hid hc.sl
 have Hbl:Hid (Rdss w vb bl):=Bl.hid hc.bl
 simp only at e1 e2 e3 hk hc1 hc3
 subst hk
 subst e1 e2 e3
 clear hc HL
 unfold maxLen at hm1 hm2 hm3
 obtain⟨np,hnp⟩:∃np,np=pl.length:=⟨_,rfl⟩
 obtain⟨ns,hns⟩:∃ns,ns=L.length:=⟨_,rfl⟩
 obtain⟨nb,hnb⟩:∃nb,nb=bl.length:=⟨_,rfl⟩
 have Hnp:=Bl.hid hnp
 have Hns:=Bl.hid hns
 have Hnb:=Bl.hid hnb
 have Hnsh:Hid (sh.length=ns):=Bl.hid (by rw [<-Hsl.out,List.length_map,hns])
 rw [<-hnp]at Hpl hc1 HLa⊢
 rw [<-hns]at Hsh hc2 HLa⊢
 rw [<-hnb]at Hbl hc3 HLa⊢
 clear hnp hns hnb
 obtain⟨qI,hqI⟩:∃q,q=wi id 0 1099511627776:=⟨_,rfl⟩
 obtain⟨qO,hqO⟩:∃q,q=wi oj 0 1099511627776:=⟨_,rfl⟩
 have HN:Hid (numOk ⟨6,id,oj,pl,sh,fr,ct,bl,cd⟩=(qI&&qO&&wi fr 0 511)):=Bl.hid (by rw [hqI,hqO];unfold numOk numT;rfl)
 have HS:Hid (sizOk ⟨6,id,oj,pl,sh,fr,ct,bl,cd⟩=(wi bl.length 1 512&& !bl.any badB)):=Bl.hid (by unfold sizOk;rfl)
 have HF:=Bl.hid (frm_iff ⟨6,id,oj,pl,sh,fr,ct,bl,cd⟩)
 have HqI:=Bl.hid hqI
 have HqO:=Bl.hid hqO
 clear hqI hqO
 obtain⟨W0,hW0⟩:∃W0,W0=w.alloc (.cells #[.int .i64 6,.int .i64 id,.int .i64 oj,.slice p1 np c1,.slice p2 ns c2,.int .i64 fr,.int .i64 ct,.slice p3 nb c3,.int .i64 cd] 43):=⟨_,rfl⟩
 have HE0:Hid (Ext w W0):=Bl.hid (by rw [hW0];exact ext_alloc _ _)
 obtain⟨CS,hCS⟩:∃CS,CS=cL ⟨6,id,oj,pl,sh,fr,ct,bl,cd⟩ (.slice p1 np c1) (.slice p2 ns c2) (.slice p3 nb c3):=⟨_,rfl⟩
 rw [<-hCS]at HLa
 have HB:Hid (BoxC W0 w.heap.size CS):=Bl.hid (by rw [hW0,hCS];exact BoxC.box w 43 (cs:=(cL ⟨6,id,oj,pl,sh,fr,ct,bl,cd⟩ (.slice p1 np c1) (.slice p2 ns c2) (.slice p3 nb c3))) (fun h=>by cases h))
 have HC:Hid (CS[0]? =some (.int .i64 6)/\CS[1]? =some (.int .i64 id)/\CS[2]? =some (.int .i64 oj)/\CS[3]? =some (.slice p1 np c1)/\CS[4]? =some (.slice p2 ns c2)/\CS[5]? =some (.int .i64 fr)/\CS[6]? =some (.int .i64 ct)/\CS[7]? =some (.slice p3 nb c3)/\CS[8]? =some (.int .i64 cd)/\CS.length=9):=Bl.hid (by rw [hCS];exact⟨rfl,rfl,rfl,rfl,rfl,rfl,rfl,rfl,rfl,rfl⟩)
 show Calls Tryz.prog 40 #[.agg #[.int .i64 6,.int .i64 id,.int .i64 oj,.slice p1 np c1,.slice p2 ns c2,.int .i64 fr,.int .i64 ct,.slice p3 nb c3,.int .i64 cd]] w _
 clear hCS
 go_enter Tryz.func40,Tryz.ntmps40
 go_wp2_with fail
 rw [<-hW0]
 clear hW0
 refine(out_any _ _ _ _).mono ?_
 rintro e w2 ⟨rfl,hw⟩
 subst hw
 have q0:=HB.out.cell HC.out.1
 have q1:=HB.out.cell HC.out.2.1
 have q2:=HB.out.cell HC.out.2.2.1
 rw [show(!wi 6 1 7)=false from rfl]
 go_wp2_with fail
 refine(out_any _ _ _ _).mono ?_
 rintro e w2 ⟨rfl,hw⟩
 subst hw
 rw [<-HqI.out]
 clear q1
 cases qI
 ·rw [Bool.not_false]
  have HV:=Bl.hid (chk1 (l:=⟨6,id,oj,pl,sh,fr,ct,bl,cd⟩) rfl (by rw [HN.out];rfl))
  go_wp2_with fail
  go_ret
  exact⟨by rw [HV.out];rfl,HE0.out⟩
 ·rw [Bool.not_true]
  go_wp2_with fail
  refine(out_any _ _ _ _).mono ?_
  rintro e w2 ⟨rfl,hw⟩
  subst hw
  rw [<-HqO.out]
  cases qO
  ·rw [Bool.not_false]
   have HV:=Bl.hid (chk1 (l:=⟨6,id,oj,pl,sh,fr,ct,bl,cd⟩) rfl (by rw [HN.out];rfl))
   go_wp2_with fail
   go_ret
   exact⟨by rw [HV.out];rfl,HE0.out⟩
  ·rw [Bool.not_true]
   have q0:=HB.out.cell HC.out.1
   have q1:=HB.out.cell HC.out.2.1
   have q2:=HB.out.cell HC.out.2.2.1
   have q3:=HB.out.cell HC.out.2.2.2.1
   have q4:=HB.out.cell HC.out.2.2.2.2.1
   have q5:=HB.out.cell HC.out.2.2.2.2.2.1
   have q6:=HB.out.cell HC.out.2.2.2.2.2.2.1
   have q7:=HB.out.cell HC.out.2.2.2.2.2.2.2.1
   have q8:=HB.out.cell HC.out.2.2.2.2.2.2.2.2.1
   obtain⟨qF,hqF⟩:∃q,q=wi fr 0 511:=⟨_,rfl⟩
   have HqF:=Bl.hid hqF
   clear hqF
   rw [<-HqF.out]at HN
   go_wp2_with fail
   refine(out_any _ _ _ _).mono ?_
   rintro e w2 ⟨rfl,hw⟩
   subst hw
   rw [<-HqF.out]
   cases qF
   ·rw [Bool.not_false]
    have HV:=Bl.hid (chk1 (l:=⟨6,id,oj,pl,sh,fr,ct,bl,cd⟩) rfl (by rw [HN.out];rfl))
    go_wp2_with fail
    go_ret
    exact⟨by rw [HV.out];rfl,HE0.out⟩
   rw [Bool.not_true]
   have Hn:Hid (numOk ⟨6,id,oj,pl,sh,fr,ct,bl,cd⟩=true):=Bl.hid (by rw [HN.out];rfl)
   obtain⟨qB,hqB⟩:∃q,q=wi (nb:Int) 1 512:=⟨_,rfl⟩
   rw [<-Hnb.out,<-hqB]at HS
   have HqB:=Bl.hid hqB
   clear hqB
   go_wp2_with fail
   refine(out_any _ _ _ _).mono ?_
   rintro e w2 ⟨rfl,hw⟩
   subst hw
   rw [<-HqB.out]
   go_wp2_with fail
   clear q0 q1 q2 q3 q4 q5 q6 q7 q8
   go_loopw [3,107] (fun o i wr=>∃(k:Nat) (b:Bool),k<=nb/\i= .int .i64 k/\o= .bool b/\Hid (b=(!qB||(bl.take k).any badB))/\Hid (BoxC wr w.heap.size CS)/\Hid (Ext w wr)) (fun _ i _=>nb - (intOf i).toNat)
   case atStart=>exact⟨0,_,Nat.zero_le _,rfl,rfl,Bl.hid (by rw [List.take_zero];simp),HB,HE0⟩
   case round=>
    obtain⟨k,b,hk,rfl,rfl,Hb,HBr,HEr⟩:=hrel
    by_cases hlt:k < nb
    ·have hla:k < bl.length:=by rw [<-Hnb.out];exact hlt
     obtain⟨vsb,hvb,hvl,hvs⟩:=Hbl.out.ext HEr.out
     obtain⟨gb,ob,hpb,hgb,hcell⟩:=Rdss.cell' hvb hvl k hla
     subst hpb
     have hrk:=hvs k hla
     have Htk:=Bl.hid (any_take1 badB bl [] hla)
     obtain⟨y,hy⟩:∃y,y=bl.getD k []:=⟨_,rfl⟩
     rw [<-hy]at hrk Htk
     obtain⟨g1,cc1,hf1,_,_⟩:=hrk.form
     rw [hf1]at hcell
     obtain⟨ny,hny⟩:∃ny,ny=y.length:=⟨_,rfl⟩
     rw [<-hny]at hcell
     have Hny:=Bl.hid hny
     have hb':Hid (badB y= !decide (ny=16)):=Bl.hid (by unfold badB;rw [hny])
     clear hvb hvl hvs hgb hrk hy hf1 hny
     cases b
     ·by_cases h16:ny=16
      ·subst h16
       go_wp2_with fail
       go_roundw
       case rel=>exact⟨k+1,false,by omega,by go_num,rfl,Bl.hid (by rw [Htk.out,hb'.out,<-Bool.or_assoc,<-Hb.out];rfl),HBr,HEr⟩
       case measure=>simp [intOf];omega
      ·have h16a:¬((ny:Int)=16):=by omega
       have h16b:((ny:Int)==16)=false:=by rw [beq_eq_false_iff_ne];exact h16a
       have h16c:((ny:Int) != 16)=true:=by rw [bne_iff_ne];exact h16a
       have Hd:Hid (decide (ny=16)=false):=Bl.hid (decide_eq_false h16)
       clear h16
       go_wp2_with fail
       go_roundw
       case rel=>exact⟨k+1,true,by omega,by go_num,(by first | rfl | exact congrArg Value.bool h16c),Bl.hid (by rw [Htk.out,hb'.out,Hd.out,<-Bool.or_assoc,<-Hb.out];rfl),HBr,HEr⟩
       case measure=>simp [intOf];omega
     ·go_wp2_with fail
      go_roundw
      case rel=>exact⟨k+1,true,by omega,by go_num,rfl,Bl.hid (by rw [Htk.out,<-Bool.or_assoc,<-Hb.out];rfl),HBr,HEr⟩
      case measure=>simp [intOf];omega
    ·obtain rfl:k=nb:=by omega
     rw [List.take_of_length_le (by rw [<-Hnb.out];exact Nat.le_refl _)]at Hb
     have q0:=HBr.out.cell HC.out.1
     have q1:=HBr.out.cell HC.out.2.1
     have q2:=HBr.out.cell HC.out.2.2.1
     have q3:=HBr.out.cell HC.out.2.2.2.1
     have q4:=HBr.out.cell HC.out.2.2.2.2.1
     have q5:=HBr.out.cell HC.out.2.2.2.2.2.1
     have q6:=HBr.out.cell HC.out.2.2.2.2.2.2.1
     have q7:=HBr.out.cell HC.out.2.2.2.2.2.2.2.1
     have q8:=HBr.out.cell HC.out.2.2.2.2.2.2.2.2.1
     cases b
     rotate_left
     ·have HV:=Bl.hid (chk8 (l:=⟨6,id,oj,pl,sh,fr,ct,bl,cd⟩) rfl Hn.out (by rw [HS.out];exact nob3 Hb.out))
      go_wp2_with fail
      go_ret
      exact⟨by rw [HV.out];rfl,HEr.out⟩
     have Hs:Hid (sizOk ⟨6,id,oj,pl,sh,fr,ct,bl,cd⟩=true):=Bl.hid (by rw [HS.out];obtain⟨z1,z2⟩:=nob0 Hb.out;rw [z1,z2];rfl)
     go_wp2_with (with_reducible refine stop_long ?_)
     refine go_on ?_
     iterate 28 (try (first | go_values | go_skip | go_guarded | go_step | go_upon | go_back | (simp only [Int.not_lt,Int.not_le]at*;go_simp) | (go_values<;>(try go_simp))))
     rw [app35]
     by_cases hgnp:(0:Int) < (np:Int)
     ·have HV:=Bl.hid (chk4 (l:=⟨6,id,oj,pl,sh,fr,ct,bl,cd⟩) rfl Hn.out Hs.out (fun q=>by obtain⟨a1,a2,a3,a4,a5,a6⟩:=HF.out.1 q;(try dsimp only at a1);(try dsimp only at a2);(try dsimp only at a3);(try dsimp only at a4);(try dsimp only at a5);(try dsimp only at a6);have:=Hnp.out;have:=Hnsh.out;have:=Hnb.out;omega))
      go_wp2_with fail
      go_ret
      exact⟨by rw [HV.out];rfl,HEr.out⟩
     by_cases hgns:(0:Int) < (ns:Int)
     ·have HV:=Bl.hid (chk4 (l:=⟨6,id,oj,pl,sh,fr,ct,bl,cd⟩) rfl Hn.out Hs.out (fun q=>by obtain⟨a1,a2,a3,a4,a5,a6⟩:=HF.out.1 q;(try dsimp only at a1);(try dsimp only at a2);(try dsimp only at a3);(try dsimp only at a4);(try dsimp only at a5);(try dsimp only at a6);have:=Hnp.out;have:=Hnsh.out;have:=Hnb.out;omega))
      go_wp2_with fail
      go_ret
      exact⟨by rw [HV.out];rfl,HEr.out⟩
     by_cases hgct:ct=0
     rotate_left
     ·have hhct:(ct==0)=false:=by rw [beq_eq_false_iff_ne];exact hgct
      have HV:=Bl.hid (chk4 (l:=⟨6,id,oj,pl,sh,fr,ct,bl,cd⟩) rfl Hn.out Hs.out (fun q=>by obtain⟨a1,a2,a3,a4,a5,a6⟩:=HF.out.1 q;(try dsimp only at a1);(try dsimp only at a2);(try dsimp only at a3);(try dsimp only at a4);(try dsimp only at a5);(try dsimp only at a6);have:=Hnp.out;have:=Hnsh.out;have:=Hnb.out;omega))
      go_wp2_with fail
      go_ret
      exact⟨by rw [HV.out];rfl,HEr.out⟩
     subst hgct
     by_cases hgcd:cd=0
     rotate_left
     ·have hhcd:(cd==0)=false:=by rw [beq_eq_false_iff_ne];exact hgcd
      have HV:=Bl.hid (chk4 (l:=⟨6,id,oj,pl,sh,fr,0,bl,cd⟩) rfl Hn.out Hs.out (fun q=>by obtain⟨a1,a2,a3,a4,a5,a6⟩:=HF.out.1 q;(try dsimp only at a1);(try dsimp only at a2);(try dsimp only at a3);(try dsimp only at a4);(try dsimp only at a5);(try dsimp only at a6);have:=Hnp.out;have:=Hnsh.out;have:=Hnb.out;omega))
      go_wp2_with fail
      go_ret
      exact⟨by rw [HV.out];rfl,HEr.out⟩
     subst hgcd
     have hf:frmOk ⟨6,id,oj,pl,sh,fr,0,bl,0⟩=true:=by
      refine HF.out.2 ⟨?_,?_,?_,?_,?_,?_⟩<;>(first | exact Or.inl rfl | exact Or.inl (Or.inl rfl) | exact Or.inl (Or.inr rfl) | exact Or.inl trivial | exact Or.inl (Or.inl trivial) | exact Or.inl (Or.inr trivial) | ((try dsimp only);have:=Hnp.out;have:=Hnsh.out;have:=Hnb.out;omega))
     have Hf:=Bl.hid hf
     clear hf
     have Hl:=Bl.hid (HBr.out.load (P:=Tryz.prog) Tryz.underlying43 rfl (by rw [HC.out.2.2.2.2.2.2.2.2.2];kernel_rfl))
     go_wp2_with (with_reducible refine stop_load (ty:=43) ?_)
     refine go_on ?_
     refine wpL_load rfl Hl.out ?_
     go_wp2_with fail
     refine(HLa.out _ HEr.out Hn.out Hs.out).mono ?_
     rintro e wz ⟨vz,rfl,hrz,hEz⟩
     obtain⟨pz,cz,hfz,_,_⟩:=hrz.form
     subst hfz
     have HEz:=Bl.hid (HEr.out.trans hEz)
     obtain⟨M,hM⟩:∃M,M=(bytL ⟨6,id,oj,pl,sh,fr,0,bl,0⟩).length:=⟨_,rfl⟩
     rw [<-hM]
     have HM:=Bl.hid hM
     clear hM hrz hEz Hl
     by_cases h8:8000 < M
     ·have h8i:(8000:Int) < (M:Int):=by omega
      have HV:=Bl.hid (chk3 (l:=⟨6,id,oj,pl,sh,fr,0,bl,0⟩) rfl Hn.out Hs.out Hf.out (by rw [<-HM.out];exact h8))
      clear h8
      go_wp2_with fail
      go_ret
      exact⟨by rw [HV.out];rfl,HEz.out⟩
     ·have h8i:¬((8000:Int) < (M:Int)):=by omega
      have HV:=Bl.hid (chk0 (l:=⟨6,id,oj,pl,sh,fr,0,bl,0⟩) rfl Hn.out Hs.out Hf.out (by rw [<-HM.out];exact h8))
      clear h8
      go_wp2_with fail
      go_ret
      exact⟨by rw [HV.out];rfl,HEz.out⟩
theorem rcheck0_any (v:Value) (l:Bl.LT) (w:World) (h:LtV w v l) (hk:wi l.kind 1 7=false):
  Calls Tryz.prog 40 #[v] w fun e w'=>e= .returned (.int .i64 (chkL l:Nat))/\Ext w w':=by
 obtain⟨cs,vp,vs,vb,L,rfl,hc⟩:=h
 obtain rfl:=hc.eq
 have HV:=Bl.hid (chk7 hk)
 have Hk:=Bl.hid hk
 clear hk
 obtain⟨W1,hW1⟩:∃W1,W1=w.alloc (.cells (cL l vp vs vb).toArray 43):=⟨_,rfl⟩
 have HE1:Hid (Ext w W1):=Bl.hid (by rw [hW1];exact ext_alloc _ _)
 unfold cL at hW1
 show Calls Tryz.prog 40 #[.agg #[.int .i64 l.kind,.int .i64 l.id,.int .i64 l.obj,vp,vs,.int .i64 l.frm,.int .i64 l.cnt,vb,.int .i64 l.code]] w _
 go_enter Tryz.func40,Tryz.ntmps40
 go_wp2_with fail
 rw [<-hW1]
 clear hW1
 refine(out_any _ _ _ _).mono ?_
 rintro e w2 ⟨rfl,hw⟩
 subst hw
 rw [Hk.out,Bool.not_false]
 go_wp2_with fail
 go_ret
 exact⟨by rw [HV.out];rfl,HE1.out⟩
theorem rcheck_any (v:Value) (l:Bl.LT) (w:World) (h:LtV w v l):
  Calls Tryz.prog 40 #[v] w fun e w'=>e= .returned (.int .i64 (chkL l:Nat))/\Ext w w':=by
 by_cases hk:wi l.kind 1 7=true
 ·rcases kinds7 (wi_iff.1 hk)with h1 | h1 | h1 | h1 | h1 | h1 | h1
  ·exact rcheck1_any v l w h h1
  ·exact rcheck2_any v l w h h1
  ·exact rcheck3_any v l w h h1
  ·exact rcheck4_any v l w h h1
  ·exact rcheck5_any v l w h h1
  ·exact rcheck6_any v l w h h1
  ·exact rcheck7_any v l w h h1
 ·exact rcheck0_any v l w h (by simpa using hk)
end Go.Proofs.YtglenbikdahgjaaGreatDoor
