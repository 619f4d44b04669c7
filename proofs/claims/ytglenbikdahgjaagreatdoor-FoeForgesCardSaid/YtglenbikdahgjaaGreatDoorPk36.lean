/- Walk of the document's Forge. -/
import Derived.Test.YtglenbikdahgjaaGreatDoorPk27
import Derived.Test.YtglenbikdahgjaaGreatDoorPk20
import Derived.Test.YtglenbikdahgjaaGreatDoorPk22
import Derived.Test.YtglenbikdahgjaaGreatDoorPk14
import Derived.Test.YtglenbikdahgjaaGreatDoorPk06
import Derived.Test.YtglenbikdahgjaaGreatDoorPk35
import Derived.Test.YtglenbikdahgjaaGreatDoorPk21
import Derived.Test.YtglenbikdahgjaaGreatDoorPk25
set_option maxRecDepth 100000
set_option maxHeartbeats 16000000
namespace Go.Proofs.YtglenbikdahgjaaGreatDoor
open Go Go.RowKit Go.Proofs Go.Proofs.Bl
theorem buildSh3G (p:Int) (q1 q2:Option Addr) (n1 c1 n2 c2:Nat) (w:World):(Instr.build 100 #[(0,.int .i64 p),(1,.slice q1 n1 c1),(2,.slice q2 n2 c2)]).run Tryz.prog w= .ok (.agg #[.int .i64 p,.slice q1 n1 c1,.slice q2 n2 c2]) w:=run_build w _ _ _ (by kernel_rfl)
theorem mforge_any (F:Nat->Prop) (b:Nat) (s:ShT) (v:Value) (l:Bl.LT) (vo:Value) (ot:List Int) (w:World) (hD:DvX F w b s) (hF:∀i,F i->i < w.heap.size) (hok:ShOk s) (hL:LtV w v l) (hO:Rd w .u8 vo ot) (hob:Byt ot) (hol:ot.length<=1000) (hg:GlobR w):
  Calls Tryz.prog 14 #[.pointer (some ⟨b,0,none⟩),v,vo] w fun e w'=>FgR s l ot w e w':=by
 have HLv:=Bl.hid hL
 obtain⟨cs0,vp,vs,vb,L,rfl,hLc⟩:=hL
 obtain rfl:=hLc.eq
 have HS:=Bl.hid (And.intro hD (And.intro hok hF))
 have HG:=Bl.hid hg
 obtain⟨pp,cp,hvp,hpp1,hpp2⟩:=hLc.pl.form
 obtain⟨ps,csn,hvs,_,_⟩:=hLc.sh.rd.form
 obtain⟨pb,cb,hvb,_,_⟩:=hLc.bl.form
 obtain⟨po,co,hvo,hpo1,hpo2⟩:=hO.form
 obtain⟨np,hnp⟩:∃z,z=l.places.length:=⟨_,rfl⟩
 obtain⟨ns,hns⟩:∃z,z=L.length:=⟨_,rfl⟩
 obtain⟨nb,hnbl⟩:∃z,z=l.blocks.length:=⟨_,rfl⟩
 obtain⟨no,hno⟩:∃z,z=ot.length:=⟨_,rfl⟩
 rw [<-hnp]at hvp hpp1
 rw [<-hns]at hvs
 rw [<-hnbl]at hvb
 rw [<-hno]at hvo hpo1
 subst hvp hvs hvb hvo
 have HN:Hid (np=l.places.length/\no=ot.length):=Bl.hid ⟨hnp,hno⟩
 have HLc:=Bl.hid hLc
 have HO:=Bl.hid hO
 have HOb:=Bl.hid (And.intro hob hol)
 obtain⟨W1,hW1⟩:∃W1,W1=(w.alloc (.cells (cL l (.slice pp np cp) (.slice ps ns csn) (.slice pb nb cb)).toArray 43)).alloc (.cells zL 43):=⟨_,rfl⟩
 have hE1:Ext w W1:=by rw [hW1];exact(ext_alloc _ _).trans (ext_alloc _ _)
 have hsz1:W1.heap.size=w.heap.size+1+1:=by rw [hW1,World.size_alloc,World.size_alloc]
 have hBl:BoxC W1 w.heap.size (cL l (.slice pp np cp) (.slice ps ns csn) (.slice pb nb cb)):=by rw [hW1];exact(BoxC.box w 43 (cL_ne _ _ _ _)).ext (ext_alloc _ _)
 have hBr:BoxC W1 (w.heap.size+1) zL.toList:=by rw [hW1];exact box2 w _ zL.toList _ _ (fun h=>by cases h)
 obtain⟨R0,hR0⟩:∃R0,R0=w.heap.size+1:=⟨_,rfl⟩
 obtain⟨P0,hP0⟩:∃P0,P0=w.heap.size:=⟨_,rfl⟩
 rw [<-hR0]at hBr
 rw [<-hP0]at hBl
 have HE1:=Bl.hid hE1
 have HBl:=Bl.hid hBl
 have HBr:=Bl.hid hBr
 have HPR:Hid (P0=w.heap.size/\R0=w.heap.size+1/\W1.heap.size=w.heap.size+1+1):=Bl.hid ⟨hP0,hR0,hsz1⟩
 have Hld:=Bl.hid (hBl.load (P:=Tryz.prog) Tryz.underlying43 rfl (by kernel_rfl))
 have HCk:=Bl.hid (rcheck_any _ l W1 (HLv.out.ext hE1))
 obtain⟨si,hsi⟩:∃z,z=(getO s l.obj).isSome:=⟨_,rfl⟩
 have HSt:=Bl.hid (fun w2 (h:Ext w w2)=>mstored_any F b s l.obj w2 (HS.out.1.ext h))
 rw [<-hsi]at HSt
 have Hsi:=Bl.hid hsi
 unfold cL at hW1
 clear hLc hO hob hol hnp hns hnbl hno hE1 hsz1 hBl hBr hR0 hP0 hD hok hF hg hsi
 show Calls Tryz.prog 14 #[.pointer (some ⟨b,0,none⟩),.agg #[.int .i64 l.kind,.int .i64 l.id,.int .i64 l.obj,.slice pp np cp,.slice ps ns csn,.int .i64 l.frm,.int .i64 l.cnt,.slice pb nb cb,.int .i64 l.code],.slice po no co] w _
 go_enter Tryz.func14,Tryz.ntmps14
 go_wp2_with (with_reducible refine stop_load (ty:=43) ?_)
 refine go_on ?_
 rw [<-hW1]
 rw [show w.heap.size+1=R0 from HPR.out.2.1.symm,show w.heap.size=P0 from HPR.out.1.symm]
 clear hW1
 refine wpL_load rfl Hld.out ?_
 go_wp2_with fail
 obtain⟨ck,hck⟩:∃ck,ck=chkL l:=⟨_,rfl⟩
 have Hckl:=Bl.hid hck
 rw [<-hck]at HCk
 clear hck
 refine HCk.out.mono ?_
 rintro e w2 ⟨rfl,hE2⟩
 have HE2:Hid (Ext w w2):=Bl.hid (HE1.out.trans hE2)
 have HBl2:=Bl.hid (HBl.out.ext hE2)
 have HBr2:=Bl.hid (HBr.out.ext hE2)
 have HW2:Hid (w.heap.size+2<=w2.heap.size):=Bl.hid (by have:=hE2.size;have:=HPR.out;omega)
 clear hE2 HCk HBl HBr Hld HE1
 by_cases hck:ck=0
 case neg=>
  have Hres:=Bl.hid (forL_no (s:=s) (l:=l) (ot:=ot) fun q=>hck (by rw [Hckl.out];exact q.2.1))
  have hc0:¬((ck:Int)=0):=by omega
  have Hst9:=Bl.hid (HBr2.out.store (P:=Tryz.prog) (cs':=cL lt0 nilV nilV nilV) rfl (cL_one ⟨_,_,_,rfl⟩ ⟨_,_,_,rfl⟩ ⟨_,_,_,rfl⟩) (ty:=43) (by kernel_rfl))
  have HBr9:=Bl.hid (HBr2.out.set (cs':=cL lt0 nilV nilV nilV) rfl)
  go_wp2_with (with_reducible refine stop_store (ty:=43) ?_)
  refine go_on ?_
  refine wpL_store0 rfl rfl Hst9.out ?_
  go_wp2_with fail
  refine bodyPost_ret (v:= .tuple #[.agg (cL lt0 nilV nilV nilV).toArray,.bool false]) (results_cell2 rfl rfl (HBr9.out.loadVar (P:=Tryz.prog) Tryz.underlying43 rfl (by kernel_rfl)) rfl) rfl ?_
  unfold FgR
  rw [Hres.out]
  exact⟨_,_,_,[],rfl,LtF.nil _ _ _ _ _ _ _ _,below_setCells _ _ _ _ HE2.out (by have:=HPR.out;omega)⟩
 subst hck
 have hx0:=HBl2.out.cell (i:=0) (v:= .int .i64 l.kind) rfl
 obtain⟨kd,hkd⟩:∃kd,kd=l.kind:=⟨_,rfl⟩
 rw [<-hkd]at hx0
 have Hkd:=Bl.hid hkd
 clear hkd
 by_cases hk3:kd=3
 case neg=>
  have Hres:=Bl.hid (forL_no (s:=s) (l:=l) (ot:=ot) fun q=>hk3 (by rw [Hkd.out];exact q.1))
  have hb3:(kd != 3)=true:=by rw [bne_iff_ne];exact hk3
  have Hst9:=Bl.hid (HBr2.out.store (P:=Tryz.prog) (cs':=cL lt0 nilV nilV nilV) rfl (cL_one ⟨_,_,_,rfl⟩ ⟨_,_,_,rfl⟩ ⟨_,_,_,rfl⟩) (ty:=43) (by kernel_rfl))
  have HBr9:=Bl.hid (HBr2.out.set (cs':=cL lt0 nilV nilV nilV) rfl)
  go_wp2_with (with_reducible refine stop_store (ty:=43) ?_)
  refine go_on ?_
  refine wpL_store0 rfl rfl Hst9.out ?_
  go_wp2_with fail
  refine bodyPost_ret (v:= .tuple #[.agg (cL lt0 nilV nilV nilV).toArray,.bool false]) (results_cell2 rfl rfl (HBr9.out.loadVar (P:=Tryz.prog) Tryz.underlying43 rfl (by kernel_rfl)) rfl) rfl ?_
  unfold FgR
  rw [Hres.out]
  exact⟨_,_,_,[],rfl,LtF.nil _ _ _ _ _ _ _ _,below_setCells _ _ _ _ HE2.out (by have:=HPR.out;omega)⟩
 subst hk3
 have Hk3:Hid (l.kind=3):=Bl.hid Hkd.out.symm
 have Hck:Hid (chkL l=0):=Bl.hid Hckl.out.symm
 by_cases h16:no=16
 case neg=>
  have Hres:=Bl.hid (forL_no (s:=s) (l:=l) (ot:=ot) fun q=>h16 (HN.out.2.trans q.2.2))
  have h16i:¬(no:Int)=16:=by omega
  have hb16:((no:Int) != 16)=true:=by rw [bne_iff_ne];exact h16i
  have Hst9:=Bl.hid (HBr2.out.store (P:=Tryz.prog) (cs':=cL lt0 nilV nilV nilV) rfl (cL_one ⟨_,_,_,rfl⟩ ⟨_,_,_,rfl⟩ ⟨_,_,_,rfl⟩) (ty:=43) (by kernel_rfl))
  have HBr9:=Bl.hid (HBr2.out.set (cs':=cL lt0 nilV nilV nilV) rfl)
  go_wp2_with (with_reducible refine stop_store (ty:=43) ?_)
  refine go_on ?_
  refine wpL_store0 rfl rfl Hst9.out ?_
  go_wp2_with fail
  refine bodyPost_ret (v:= .tuple #[.agg (cL lt0 nilV nilV nilV).toArray,.bool false]) (results_cell2 rfl rfl (HBr9.out.loadVar (P:=Tryz.prog) Tryz.underlying43 rfl (by kernel_rfl)) rfl) rfl ?_
  unfold FgR
  rw [Hres.out]
  exact⟨_,_,_,[],rfl,LtF.nil _ _ _ _ _ _ _ _,below_setCells _ _ _ _ HE2.out (by have:=HPR.out;omega)⟩
 subst h16
 have H16:Hid (ot.length=16):=Bl.hid HN.out.2.symm
 have hx2:=HBl2.out.cell (i:=2) (v:= .int .i64 l.obj) rfl
 go_wp2_with fail
 refine(HSt.out w2 HE2.out).mono ?_
 rintro e w3 ⟨⟨v3,st3,rfl,hrow,hgd⟩,hE3⟩
 have HE3:=Bl.hid (HE2.out.trans hE3)
 have HBl3:=Bl.hid (HBl2.out.ext hE3)
 have HBr3:=Bl.hid (HBr2.out.ext hE3)
 have HW3:Hid (w.heap.size+2<=w3.heap.size):=Bl.hid (by have:=hE3.size;have:=HW2.out;omega)
 clear hE3 hx2 hx0
 cases hg:getO s l.obj with
 | none=>
  have Hres:=Bl.hid (forL_none (s:=s) (l:=l) (ot:=ot) hg)
  obtain rfl:si=false:=by rw [Hsi.out,hg];rfl
  clear hg hgd hrow
  have Hst9:=Bl.hid (HBr3.out.store (P:=Tryz.prog) (cs':=cL lt0 nilV nilV nilV) rfl (cL_one ⟨_,_,_,rfl⟩ ⟨_,_,_,rfl⟩ ⟨_,_,_,rfl⟩) (ty:=43) (by kernel_rfl))
  have HBr9:=Bl.hid (HBr3.out.set (cs':=cL lt0 nilV nilV nilV) rfl)
  go_wp2_with (with_reducible refine stop_store (ty:=43) ?_)
  refine go_on ?_
  refine wpL_store0 rfl rfl Hst9.out ?_
  go_wp2_with fail
  refine bodyPost_ret (v:= .tuple #[.agg (cL lt0 nilV nilV nilV).toArray,.bool false]) (results_cell2 rfl rfl (HBr9.out.loadVar (P:=Tryz.prog) Tryz.underlying43 rfl (by kernel_rfl)) rfl) rfl ?_
  unfold FgR
  rw [Hres.out]
  exact⟨_,_,_,[],rfl,LtF.nil _ _ _ _ _ _ _ _,below_setCells _ _ _ _ HE3.out (by have:=HPR.out;omega)⟩
 | some all=>
  obtain rfl:si=true:=by rw [Hsi.out,hg];rfl
  have hgd:st3=all:=by rw [<-hgd,hg];rfl
  subst hgd
  have Hgo:=Bl.hid hg
  obtain⟨ho1,ho2,ho3⟩:=HS.out.2.1.get hg
  obtain⟨hq1,hq2,hq3⟩:=ask_pl Hck.out Hk3.out
  have Hp5:=Bl.hid hq3
  have Hnp:Hid (1<=np/\np<=12):=Bl.hid (by rw [HN.out.1];exact⟨hq1,hq2⟩)
  have Hst:=Bl.hid ho3
  obtain⟨m,hm⟩:∃m,m=st3.length:=⟨_,rfl⟩
  have Hm:Hid (1<=m/\m<=512/\m=st3.length):=Bl.hid ⟨by rw [hm];exact ho1,by rw [hm];exact ho2,hm⟩
  obtain⟨M0,hM1,hM2,hM3⟩:=hrow
  have hml:M0.length=m:=by rw [hm,<-hM3,List.length_map]
  rw [hml]at hM1
  obtain⟨q3,c3,hv3,hq31,hq32⟩:=hM1.rds.form
  subst hv3
  have HM3:=Bl.hid (And.intro hM1 (And.intro hM2 (And.intro hM3 hml)))
  obtain⟨bp,op,c2,hq,_,_,hbp,_,hcell⟩:=Rd.pos HLc.out.pl (by have:=Hnp.out;have:=HN.out;omega)
  injection hq with hq1 hq2 hq3
  subst hq1 hq3
  clear hq2
  have Hpc:=Bl.hid (And.intro hbp hcell)
  clear hg ho1 ho2 ho3 hM1 hM2 hM3 hml hm hbp hcell hq31 hq32
  have hx3:=HBl3.out.cell (i:=3) (v:= .slice (some ⟨bp,op,none⟩) np cp) rfl
  go_wp2_with fail
  clear hx3
  go_loopw [43] (fun x wr=>∃(k:Nat),k<=np/\x= .int .i64 k/\Hid (w3=wr)/\Hid (∀p∈l.places.take k,p < (m:Int))) (fun x _=>np - (intOf x).toNat)
  case atStart=>exact⟨0,Nat.zero_le _,rfl,Bl.hid rfl,Bl.hid fun p hp=>(by simp at hp)⟩
  case round=>
   obtain⟨k,hi,rfl,hw,HI⟩:=hrel
   have hw:=hw.out
   subst hw
   by_cases hlt:k < np
   ·have hil:k < l.places.length:=by rw [<-HN.out.1];exact hlt
    have hcl:=((bcell HE3.out).1 bp (op+k) Hpc.out.1).trans (Hpc.out.2 k hil)
    obtain⟨p,hp⟩:∃p,p=l.places.getD k 0:=⟨_,rfl⟩
    rw [<-hp]at hcl
    have Hp:=Bl.hid hp
    have hk0:(0:Int)<=(k:Int):=by omega
    have hk1:(k:Int) < (np:Int):=by omega
    have hk2:(k:Int)<=12:=by have:=Hnp.out;omega
    by_cases hpm:p < (m:Int)
    ·have hpm2:¬(m:Int)<=p:=by omega
     have Htk:Hid (∀x∈l.places.take (k+1),x < (m:Int)):=Bl.hid fun x hx=>by
      rw [take_succ_getDD 0 l.places k hil,<-hp]at hx
      rcases List.mem_append.1 hx with hx | hx
      ·exact HI.out x hx
      ·obtain rfl:x=p:=by simpa using hx
       exact hpm
     clear hp hil
     go_wp2_with fail
     go_roundw
     case rel=>exact⟨k+1,by omega,by go_num,trivial,Htk⟩
     case measure=>simp [intOf];omega
    ·have hpm2:(m:Int)<=p:=by omega
     have Hres:=Bl.hid (forL_out (ot:=ot) Hgo.out (k:=k) hil (by rw [<-Hp.out,<-Hm.out.2.2];exact hpm))
     clear hp hil
     have Hst9:=Bl.hid (HBr3.out.store (P:=Tryz.prog) (cs':=cL lt0 nilV nilV nilV) rfl (cL_one ⟨_,_,_,rfl⟩ ⟨_,_,_,rfl⟩ ⟨_,_,_,rfl⟩) (ty:=43) (by kernel_rfl))
     have HBr9:=Bl.hid (HBr3.out.set (cs':=cL lt0 nilV nilV nilV) rfl)
     go_wp2_with (with_reducible refine stop_store (ty:=43) ?_)
     refine go_on ?_
     refine wpL_store0 rfl rfl Hst9.out ?_
     go_wp2_with fail
     refine bodyPost_ret (v:= .tuple #[.agg (cL lt0 nilV nilV nilV).toArray,.bool false]) (results_cell2 rfl rfl (HBr9.out.loadVar (P:=Tryz.prog) Tryz.underlying43 rfl (by kernel_rfl)) rfl) rfl ?_
     unfold FgR
     rw [Hres.out]
     exact⟨_,_,_,[],rfl,LtF.nil _ _ _ _ _ _ _ _,below_setCells _ _ _ _ HE3.out (by have:=HPR.out;omega)⟩
   ·obtain rfl:np=k:=by omega
    have Hall:Hid (∀p∈l.places,p < (m:Int)):=Bl.hid (by
     have h:=HI.out
     rw [List.take_of_length_le (by rw [<-HN.out.1];exact Nat.le_refl _)]at h
     exact h)
    clear hlt hi HI
    obtain⟨p0,hp0⟩:∃p,p=l.places.getD 0 0:=⟨_,rfl⟩
    have hil0:0 < l.places.length:=by have:=Hnp.out;have:=HN.out;omega
    have hpb:=Hp5.out _ (getD_mem 0 hil0)
    have hpm:=Hall.out _ (getD_mem 0 hil0)
    rw [<-hp0]at hpb hpm
    obtain⟨hpb0,hpb1⟩:=hpb
    have Hp0:=Bl.hid hp0
    obtain⟨j0,rfl⟩:=Int.eq_ofNat_of_zero_le hpb0
    have hj0:j0 < m:=by omega
    have hj1:¬(m:Int)<=(j0:Int):=by omega
    have hj2:¬m<=j0:=by omega
    have hnp0:(0:Int) < (np:Int):=by have:=Hnp.out;omega
    have hnp0N:0 < np:=by have:=Hnp.out;omega
    obtain⟨all2,hall⟩:∃z,z=st3.set j0 ot:=⟨_,rfl⟩
    have Hal:Hid (all2.length=m/\∀q∈all2,q.length=16/\Byt q):=Bl.hid (by
     rw [hall]
     refine⟨by rw [List.length_set,Hm.out.2.2],fun q hq=> ?_⟩
     rcases List.mem_or_eq_of_mem_set hq with hq | rfl
     ·exact Hst.out q hq
     ·exact⟨H16.out,HOb.out.1⟩)
    have HfY:Hid ((∀p∈l.places,p < (m:Int))->forL s l ot=(ansL l all2,true)):=Bl.hid fun q=>by
     rw [forL_yes Hk3.out Hck.out H16.out Hgo.out (by rw [<-Hm.out.2.2];exact q),<-Hp0.out,Int.toNat_natCast,<-hall]
    clear hp0 hpb0 hpb1 hpm hil0
    go_wp2_with (with_reducible refine stop_append ?_)
    refine go_on ?_
    refine wpL_app tBB (owns_nil_lit w3 _ w3.heap.size (Nat.le_refl _) 1) (HM3.out.1.rds.ext (ext_alloc _ _)) rfl rfl (by rw [cellsB_len,HM3.out.2.2.2,Nat.mul_one]) (cellsB_one fun x hx=>(HM3.out.2.1 x hx).1) (by have:=Hm.out;unfold maxLen;omega) (by have:=Hm.out;omega) (by rw [World.size_alloc];omega) ?_
    intro p4 c4 w4 hown4 hg4 hB4 hK4 hn4 hc4
    rw [Nat.zero_add]at hown4⊢
    rw [List.nil_append]at hown4
    have hE4:Ext w3 w4:=Below.trans (ext_alloc _ _) hB4
    have hP4:=Pk.of_owns hown4
    obtain⟨g,cap,hv4,hg0,hg1,_,_,_⟩:=hP4.form (by have:=Hm.out;omega)
    injection hv4 with hv41 hv42 hv43
    subst hv41 hv43
    clear hv42 hown4 hg4 hB4 hK4 hn4 hc4
    have HP4:=Bl.hid hP4
    have HE4:=Bl.hid hE4
    have HE4w:=Bl.hid (HE3.out.trans hE4)
    have Hgs:Hid (w3.heap.size<=g/\g < w4.heap.size):=Bl.hid ⟨hg0,hg1⟩
    have HBl4:=Bl.hid (HBl3.out.ext hE4)
    have HBr4:=Bl.hid (HBr3.out.ext hE4)
    clear hP4 hE4 hg0 hg1
    have hx3:=HBl4.out.cell (i:=3) (v:= .slice (some ⟨bp,op,none⟩) np cp) rfl
    have hcl0:=((bcell HE4w.out).1 bp (op+0) Hpc.out.1).trans (Hpc.out.2 0 (by have:=Hnp.out;have:=HN.out;omega))
    rw [<-Hp0.out,Nat.add_zero]at hcl0
    have hjM:j0 < M0.length:=by rw [HM3.out.2.2.2];exact hj0
    have q9:=HP4.out.cell (cellB_at M0 j0 hjM)
    have f9:=HP4.out.fz (show j0 < (cellsR cB M0).length by rw [cellsB_len];exact hjM)
    have HRw:Hid (RowF (fun i=>i < w.heap.size\/w.heap.size+2<=i) (w4.setCell ⟨g,j0,none⟩ (.slice po 16 co)) (.slice (some ⟨g,0,none⟩) m c4) all2):=Bl.hid (by
     rw [hall]
     refine rowF_set (F:=fun i=>i < w.heap.size) (HP4.out.mono (Nat.zero_le _)) HM3.out.2.2.2.symm hjM (fun y hy=>stab_okB _ _ _ _ _ (HM3.out.2.1 y hy) fun i hi hl=>⟨HS.out.2.2 i hi,HE4.out.block i hl⟩) HM3.out.2.2.1 ⟨(RdsF.of_rds (F:=fun i=>i < w.heap.size) HO.out fun i _ hl=>hl).kept fun i hi hl=>⟨hi,HE4w.out.block i hl⟩,HOb.out.1⟩ (by have:=Hgs.out;have:=HW3.out;omega) (.inr (by have:=Hgs.out;have:=HW3.out;omega)) (fun i hi=> .inl hi))
    have HEB:Hid (Ext w (w4.setCell ⟨g,j0,none⟩ (.slice po 16 co))):=Bl.hid (Below.setCell HE4w.out (by have:=Hgs.out;have:=HW3.out;show w.heap.size<=g;omega) _)
    have hks:Kq (fun k=>k=g) w4 (w4.setCell ⟨g,j0,none⟩ (.slice po 16 co)):=(Kq.refl w4).setCell (Q:=fun k=>k=g) ⟨g,j0,none⟩ rfl _
    have HBlB:=Bl.hid (hks.box (fun q=>by have:=Hgs.out;have:=HW3.out;have:=HPR.out;omega) HBl4.out)
    have HBrB:=Bl.hid (hks.box (fun q=>by have:=Hgs.out;have:=HW3.out;have:=HPR.out;omega) HBr4.out)
    have HWB:Hid (w.heap.size+2<=(w4.setCell ⟨g,j0,none⟩ (.slice po 16 co)).heap.size):=Bl.hid (by have:=hks.size;have:=Hgs.out;have:=HW3.out;omega)
    have hx1:=HBlB.out.cell (i:=1) (v:= .int .i64 l.id) rfl
    have hx2:=HBlB.out.cell (i:=2) (v:= .int .i64 l.obj) rfl
    obtain⟨wB,hwB⟩:∃W,W=w4.setCell ⟨g,j0,none⟩ (.slice po 16 co):=⟨_,rfl⟩
    rw [<-hwB]at HRw HEB HBlB HBrB HWB
    have hws:=Bl.hid (show w4.heap.size=wB.heap.size by rw [hwB];exact(World.size_setCell _ _ _).symm)
    clear hks hall hjM HE4 HBl4 HBr4
    obtain⟨hHA5,hHE5a⟩:=BoxC.fresh (cs:=cL ⟨4,l.id,l.obj,[],[],0,0,[],0⟩ nilV nilV nilV) wB 43 zL rfl (cL_ne _ _ _ _)
    have Hstn:=Bl.hid (fresh_store (P:=Tryz.prog) (cs:=cL ⟨4,l.id,l.obj,[],[],0,0,[],0⟩ nilV nilV nilV) wB 43 zL rfl (cL_one ⟨_,_,_,rfl⟩ ⟨_,_,_,rfl⟩ ⟨_,_,_,rfl⟩) (ty:=43) (by kernel_rfl))
    go_wp2_with (with_reducible refine stop_store (ty:=43) ?_)
    refine go_on ?_
    rw [<-hwB]
    rw [hws.out]
    clear hwB q9 f9 hws
    refine wpL_store0 rfl rfl Hstn.out ?_
    obtain⟨W5,hW5⟩:∃W,W=(wB.alloc (.cells zL 43)).setCells wB.heap.size 0 (cL ⟨4,l.id,l.obj,[],[],0,0,[],0⟩ nilV nilV nilV):=⟨_,rfl⟩
    obtain⟨Y,hY⟩:∃W,W=wB.heap.size:=⟨_,rfl⟩
    rw [<-hW5]at hHA5 hHE5a⊢
    rw [<-hY]at hHA5⊢
    have HA5:=Bl.hid hHA5
    have HE5a:=Bl.hid hHE5a
    have HY:=Bl.hid hY
    clear hHA5 hHE5a hW5 hY Hstn
    obtain⟨B,hB⟩:∃B,B=W5.heap.size:=⟨_,rfl⟩
    have HBY:Hid (w.heap.size<=P0/\P0 < R0/\R0 < Y/\Y < B/\B=W5.heap.size/\Y=wB.heap.size/\w.heap.size<=B):=Bl.hid (by have:=HA5.out.lt;have:=HY.out;have:=HPR.out;have:=HWB.out;omega)
    have HE5:Hid (Ext w W5):=Bl.hid (HEB.out.trans HE5a.out)
    have HBl5:=Bl.hid (HBlB.out.ext HE5a.out)
    have HBr5:=Bl.hid (HBrB.out.ext HE5a.out)
    have hx3:=HBl5.out.cell (i:=3) (v:= .slice (some ⟨bp,op,none⟩) np cp) rfl
    clear hx1 hx2 hB
    go_wp2_with fail
    clear hx3
    go_loopw [71] (fun x wr=>∃(k:Nat) (vr:Value) (M:List Sv),k<=np/\x= .int .i64 k/\Hid (GQ cS 3 OkF (fun i=>(i < w.heap.size\/w.heap.size+2<=i)\/B<=i) B wr Y 4 ((cL ⟨4,l.id,l.obj,[],[],0,0,[],0⟩ nilV nilV nilV).set 4 vr) vr M/\M.map plS=ansS all2 (l.places.take k)/\∀p∈l.places.take k,p < (m:Int))/\Hid (Kq (fun k=>k=Y\/B<=k) W5 wr)) (fun x _=>np - (intOf x).toNat)
    case atStart=>exact⟨0,.slice none 0 0,[],Nat.zero_le _,rfl,Bl.hid ⟨GQ.start HA5.out rfl,rfl,fun p hp=>(by simp at hp)⟩,Bl.hid (Kq.refl _)⟩
    case round=>
     obtain⟨k,vr,M,hi,rfl,HI,HKr⟩:=hrel
     have HEr:Hid (Ext w wr):=Bl.hid (HE5.out.trans' (N:=w.heap.size) (HKr.out.mono fun j _ q=>by have:=HBY.out;omega) (Nat.le_refl _))
     have HEb:Hid (Ext wB wr):=Bl.hid (HE5a.out.trans' (N:=wB.heap.size) (HKr.out.mono fun j _ q=>by have:=HBY.out;omega) (Nat.le_refl _))
     have HBr4:=Bl.hid (HKr.out.box (fun q=>by have:=HBY.out;omega) HBr5.out)
     have HBw:Hid (B<=wr.heap.size):=Bl.hid (by have:=HKr.out.size;have:=HBY.out;omega)
     by_cases hlt:k < np
     ·have hil:k < l.places.length:=by rw [<-HN.out.1];exact hlt
      have hcl:=((bcell HEr.out).1 bp (op+k) Hpc.out.1).trans (Hpc.out.2 k hil)
      have hpr:=Hp5.out _ (getD_mem 0 hil)
      obtain⟨p,hp⟩:∃p,p=l.places.getD k 0:=⟨_,rfl⟩
      rw [<-hp]at hcl hpr
      have Hp:=Bl.hid hp
      have hk0:(0:Int)<=(k:Int):=by omega
      have hk1:(k:Int) < (np:Int):=by omega
      have hk2:(k:Int)<=12:=by have:=Hnp.out;omega
      have hp0:=hpr.1
      have hp1:=hpr.2
      have hps:p=l.places.getD k 0:=Hp.out
      have Hsn:Hid (∀st0 pth,st0=all2.getD p.toNat []->pth=pathD all2 p.toNat->ansS all2 (l.places.take (k+1))=ansS all2 (l.places.take k)++[(p,st0,pth)]):=Bl.hid fun st0 pth h1 h2=>by
       rw [ansS_push all2 l.places k hil,<-hps,h1,h2]
      have Htk:Hid (p < (m:Int)->∀x∈l.places.take (k+1),x < (m:Int)):=Bl.hid fun q x hx=>by
       rw [take_succ_getDD 0 l.places k hil,<-hps]at hx
       rcases List.mem_append.1 hx with hx | hx
       ·exact HI.out.2.2 x hx
       ·obtain rfl:x=p:=by simpa using hx
        exact q
      clear hp hpr hil hps
      have hpn:p < (m:Int):=by rw [Hp.out];exact Hall.out _ (getD_mem 0 (by rw [<-HN.out.1];exact hlt))
      obtain⟨pi,rfl⟩:=Int.eq_ofNat_of_zero_le hp0
      have hpi:pi < m:=by omega
      have hpm:¬(m:Int)<=(pi:Int):=by omega
      have hpmN:¬m<=pi:=by omega
      rw [Int.toNat_natCast]at Hsn
      have hpl:pi < all2.length:=by rw [Hal.out.1];exact hpi
      obtain⟨gb,ob,cc,p1,cs1,hv,_,_,hgb,hcell,hrds,hbyt⟩:=HRw.out.el hpl
      injection hv with hv1 hv2 hv3
      injection hv1 with hv1
      injection hv1 with hv1 hv4 hv5
      subst hv1 hv4
      clear hv2 hv3 hv5
      have hso:=(Hal.out.2 _ (getD_mem (L:=all2) [] hpl)).1
      obtain⟨st0,hst0⟩:∃z,z=all2.getD pi []:=⟨_,rfl⟩
      obtain⟨pth,hpth⟩:∃pth,pth=pathD all2 pi:=⟨_,rfl⟩
      have hdg:Dig pth:=by rw [hpth];exact dig_pathG all2 pi (by rw [Hal.out.1];exact Hm.out.2.1)
      rw [<-hst0]at hcell hrds hbyt hso
      have Hsn2:=Bl.hid (Hsn.out st0 pth hst0 hpth)
      have Hbd:=Bl.hid (And.intro hbyt hdg)
      have Hq5:Hid (∀w2,Kq (fun j=>B<=j) wr w2->w2.cell? ⟨Y,4,none⟩=some vr/\w2.cell? ⟨g,pi,none⟩=some (.slice p1 st0.length cs1)):=Bl.hid fun w2 hk=>⟨hk.cell (by have:=HBY.out;omega) HI.out.1.cell,hk.cell (by have:=HBY.out;omega) (((bcell HEb.out).1 g pi hgb).trans (by have h:=hcell;rw [Nat.zero_add]at h;exact h))⟩
      have HSt2:Hid (∀w2,Kq (fun j=>B<=j) wr w2->RdsF (fun j=>j≠Y/\vr.ownBlock≠some j/\((j < w.heap.size\/w.heap.size+2<=j)\/B<=j)) w2 (.slice p1 st0.length cs1) st0.length (ints .u8 st0)):=Bl.hid fun w2 hk=>hrds.kept fun j hj hl=>by
       refine⟨⟨by have:=HBY.out;omega,fun q=>by have:=(HI.out.1.own.block j q).1;have:=HBY.out;omega,.inl hj⟩,(hk.block j (by have:=HEb.out.size;omega) (by have:=HBY.out;omega)).trans (HEb.out.block j hl)⟩
      have HEg:Hid (∀w2,Kq (fun j=>B<=j) wr w2->Ext w w2):=Bl.hid fun w2 hk=>HEr.out.trans' (N:=w.heap.size) (hk.mono fun j _ q=>by have:=HBY.out;omega) (Nat.le_refl _)
      have HLf:Hid (∀w2,Kq (fun j=>B<=j) wr w2->Bl.A0 cS 3 OkF (fun i=>(i < w.heap.size\/w.heap.size+2<=i)\/B<=i) B Y 4 ((cL ⟨4,l.id,l.obj,[],[],0,0,[],0⟩ nilV nilV nilV).set 4 vr) vr M w2->Calls Tryz.prog 44 #[.slice (some ⟨g,0,none⟩) m c4] w2 fun e w'=>∃v',e= .returned v'/\(RdD w' v' (all2.map lfD)/\Bl.A0 cS 3 OkF (fun i=>(i < w.heap.size\/w.heap.size+2<=i)\/B<=i) B Y 4 ((cL ⟨4,l.id,l.obj,[],[],0,0,[],0⟩ nilV nilV nilV).set 4 vr) vr M w')/\Ext w2 w'):=Bl.hid fun w2 hk h0=>by
       have hrow:Rdss w2 (.slice (some ⟨g,0,none⟩) m c4) all2:=(RowF.kept (F':=fun _=>True) HRw.out fun j hj hl=>⟨trivial,(hk.block j (by have:=HEb.out.size;omega) (by have:=HBY.out;omega)).trans (HEb.out.block j hl)⟩).rdss
       refine(refleaves_any _ all2 w2 hrow (HG.out.ext (HEg.out w2 hk)) (fun q hq=>(Hal.out.2 q hq).2) (fun q hq=>by have:=(Hal.out.2 q hq).1;omega) (by rw [Hal.out.1];have:=Hm.out;omega)).mono ?_
       rintro e w' ⟨p',c',rfl,ho,hE⟩
       exact⟨_,rfl,⟨by have h:=Rds.of_owns ho;unfold RdD;rw [List.length_map];exact h,h0.ext stab_okF hE⟩,hE⟩
      have HMk:Hid (∀w2 v2,Kq (fun j=>B<=j) wr w2->(RdD w2 v2 (all2.map lfD)/\Bl.A0 cS 3 OkF (fun i=>(i < w.heap.size\/w.heap.size+2<=i)\/B<=i) B Y 4 ((cL ⟨4,l.id,l.obj,[],[],0,0,[],0⟩ nilV nilV nilV).set 4 vr) vr M w2)->Calls Tryz.prog 43 #[v2,.int .i64 pi] w2 fun e w'=>∃v',e= .returned v'/\P0a cS 3 OkF (fun i=>(i < w.heap.size\/w.heap.size+2<=i)\/B<=i) B Y 4 ((cL ⟨4,l.id,l.obj,[],[],0,0,[],0⟩ nilV nilV nilV).set 4 vr) vr M v' pth w'/\Ext w2 w'):=Bl.hid fun w2 v2 hk h1=>by
       refine(refmake_nat m (all2.map lfD) pi v2 w2 (by rw [List.length_map,Hal.out.1]) Hm.out.2.1 hpi (dig_leaves all2) h1.1 (HG.out.ext (HEg.out w2 hk))).mono ?_
       rintro e w' ⟨v',rfl,ho,hE⟩
       rw [show pathL ndD zD (all2.map lfD) pi=pth from hpth.symm]at ho
       refine⟨v',rfl,⟨h1.2.ext stab_okF hE,?_⟩,hE⟩
       obtain⟨p',c',hv',ho⟩:=ho
       rw [hv']
       refine RdsF.of_rds (Rds.of_owns ho) fun j hj _=> ?_
       have h2:=(ho.lt j hj).1
       have h3:=h1.2.1.box.lt
       exact⟨by omega,fun q=>by have:=(h1.2.1.own.block j q).2;omega,.inr (by have:=h1.2.2;omega)⟩
      have Hm2:Hid (M.length+1<=maxLen/\(M.length+1)*56<=140737488355328):=Bl.hid (by
       have h1:=congrArg List.length HI.out.2.1
       unfold ansS at h1
       rw [List.length_map,List.length_map,List.length_take]at h1
       have:=Hnp.out
       unfold maxLen
       omega)
      have HPa:Hid (Bl.A0 cS 3 OkF (fun i=>(i < w.heap.size\/w.heap.size+2<=i)\/B<=i) B Y 4 ((cL ⟨4,l.id,l.obj,[],[],0,0,[],0⟩ nilV nilV nilV).set 4 vr) vr M wr):=Bl.hid ⟨HI.out.1,HBw.out⟩
      have Htk2:=Bl.hid (Htk.out hpn)
      clear hrds hbyt hdg hso hst0 hpth hcell Hsn hgb hpl Htk
      have hpi0:(0:Int)<=(pi:Int):=by omega
      go_wp2_with fail
      apply wp_region_evK (Kq (fun k=>B<=k)) (ChN (Bl.A0 cS 3 OkF (fun i=>(i < w.heap.size\/w.heap.size+2<=i)\/B<=i) B Y 4 ((cL ⟨4,l.id,l.obj,[],[],0,0,[],0⟩ nilV nilV nilV).set 4 vr) vr M) [(8,83,fun v w2=>RdD w2 v (all2.map lfD)/\Bl.A0 cS 3 OkF (fun i=>(i < w.heap.size\/w.heap.size+2<=i)\/B<=i) B Y 4 ((cL ⟨4,l.id,l.obj,[],[],0,0,[],0⟩ nilV nilV nilV).set 4 vr) vr M w2),(10,85,fun v w2=>P0a cS 3 OkF (fun i=>(i < w.heap.size\/w.heap.size+2<=i)\/B<=i) B Y 4 ((cL ⟨4,l.id,l.obj,[],[],0,0,[],0⟩ nilV nilV nilV).set 4 vr) vr M v pth w2),(11,86,A1 cS 3 OkF (fun i=>(i < w.heap.size\/w.heap.size+2<=i)\/B<=i) B Y 4 ((cL ⟨4,l.id,l.obj,[],[],0,0,[],0⟩ nilV nilV nilV).set 4 vr) vr M (fun y=>plS y=((pi:Int),st0,pth))),(12,87,A2 cS 3 OkF (fun i=>(i < w.heap.size\/w.heap.size+2<=i)\/B<=i) B Y 4 ((cL ⟨4,l.id,l.obj,[],[],0,0,[],0⟩ nilV nilV nilV).set 4 vr) vr M (fun y=>plS y=((pi:Int),st0,pth))),(13,88,A3 cS 3 OkF (fun i=>(i < w.heap.size\/w.heap.size+2<=i)\/B<=i) B Y 4 ((cL ⟨4,l.id,l.obj,[],[],0,0,[],0⟩ nilV nilV nilV).set 4 vr) vr M (fun y=>plS y=((pi:Int),st0,pth)))]) 15 [75,76,77,78,79,80,81,82,83,84,85,86,87,88,89] [eqv _,eqv _,eqv _,eqv _,eqv _,eqv _,eqv _,eqv _,anyv,eqv _,anyv,anyv,anyv,anyv,eqv _] (fun w=>Kq.refl w) (fun a b c h k=>Kq.trans h k) (by kernel_rfl) (by kernel_rfl) (by kernel_rfl) (by kernel_rfl)
      case hsteps=>
       refine⟨?_,?_,?_,?_,?_,?_,?_,?_,?_,?_,?_,?_,?_,?_,?_,trivial⟩
       all_goals
        intro d ev w1 hext HJd Hanc Hdes hni hb hd
        replace Hanc:=Bl.hid Hanc
        replace HJd:=Bl.hid HJd
        replace Hdes:=Bl.hid Hdes
        replace hni:=Bl.hid hni
        have e12:=hb 12 (by decide)
        have e13:=hb 13 (by decide)
        have e15:=hb 15 (by decide)
        clear hb
        simp only [Qa,Qb,Q1,Bl.Q2,Qd]at e12 e13 e15
        simp only [DepsE2,Q1,Bl.Q2,Qc,Q3,Q4,eqv,and_true]at hd
        have q3:=Hq5.out _ hext
        have k4:=q3.1
        have k5:=q3.2
        clear q3
        rw [if_pos (rfl:Region.wanted _ _=true)]
        first
        | (have h2:=((HJd.out.2 (Hanc.out 8 (by kernel_rfl))).2 (Hanc.out 10 (by kernel_rfl))).1 hni.out;obtain⟨p9,c9,hb9,_,_⟩:=h2.2.rds.form;rw [hb9]at h2;(with_reducible refine goodX_bld3 ?_ ?_ ?_ ?_ (buildSh3G (pi:Int) p1 p9 st0.length cs1 pth.length c9 w1) ?_);exact fun w=>Kq.refl w;exact(by first | ((repeat(first | exact hd | exact hd.2 | replace hd:=hd.1));done) | (repeat(first | exact hd | exact hd.1 | replace hd:=hd.2)));exact(by first | ((repeat(first | exact hd | exact hd.2 | replace hd:=hd.1));done) | (repeat(first | exact hd | exact hd.1 | replace hd:=hd.2)));exact hb9;exact⟨trivial,ChN.s3 (P1a.a1 (p:=(pi:Int)) ⟨HSt2.out w1 hext,h2⟩ Hbd.out.1 Hbd.out.2) (Hanc.out 8 (by kernel_rfl)) (Hanc.out 10 (by kernel_rfl)) (Hdes.out 12 (by kernel_rfl)) rfl rfl⟩) | (have h3:=(((HJd.out.2 (Hanc.out 8 (by kernel_rfl))).2 (Hanc.out 10 (by kernel_rfl))).2 (Hanc.out 11 (by kernel_rfl))).1 hni.out;(with_reducible refine goodX_buildV (v:=ev 86) tShR (by decide) ?_ h3.size ?_);rfl;exact⟨Kq.of_ext (ext_alloc _ _),trivial,ChN.s4 (h3.a2 stab_okF _) (Hanc.out 8 (by kernel_rfl)) (Hanc.out 10 (by kernel_rfl)) (Hanc.out 11 (by kernel_rfl)) (Hdes.out 13 (by kernel_rfl)) rfl rfl⟩) | (have h4:=((((HJd.out.2 (Hanc.out 8 (by kernel_rfl))).2 (Hanc.out 10 (by kernel_rfl))).2 (Hanc.out 11 (by kernel_rfl))).2 (Hanc.out 12 (by kernel_rfl))).1 hni.out;(with_reducible refine goodX_a3 tShR stab_okF h4 ?_ ?_ Hm2.out.1 Hm2.out.2 ?_);rfl;exact(by first | ((repeat(first | exact hd | exact hd.2 | replace hd:=hd.1));done) | (repeat(first | exact hd | exact hd.1 | replace hd:=hd.2)));exact fun v' w' k1 k2=>⟨k1,trivial,ChN.s5 k2 (Hanc.out 8 (by kernel_rfl)) (Hanc.out 10 (by kernel_rfl)) (Hanc.out 11 (by kernel_rfl)) (Hanc.out 12 (by kernel_rfl)) trivial rfl rfl⟩)
        | (go_simp;first | exact⟨Kq.refl _,rfl,HJd.out.same rfl⟩ | (go_at_call 44;have h0:=HJd.out.1 hni.out;(with_reducible refine(HLf.out w1 hext h0).mono ?_);rintro e w2 ⟨v',rfl,k1,k2⟩;exact⟨_,rfl,Kq.of_ext k2,trivial,ChN.s1 k1 (Hdes.out 10 (by kernel_rfl)) rfl⟩) | (go_at_call 43;have h1:=(HJd.out.2 (Hanc.out 8 (by kernel_rfl))).1 hni.out;(with_reducible refine(HMk.out w1 _ hext h1).mono ?_);rintro e w2 ⟨v',rfl,k1,k2⟩;exact⟨_,rfl,Kq.of_ext k2,trivial,ChN.s2 k1 (Hanc.out 8 (by kernel_rfl)) (Hdes.out 11 (by kernel_rfl)) rfl rfl⟩) | exact⟨Below.refl _ _,rfl,Bl.HJ.same (by decide) HJd.out⟩)
      case hmono=>exact⟨monoR_eqv _,monoR_eqv _,monoR_eqv _,monoR_eqv _,monoR_eqv _,monoR_eqv _,monoR_eqv _,monoR_eqv _,monoR_anyv,monoR_eqv _,monoR_anyv,monoR_anyv,monoR_anyv,monoR_anyv,monoR_eqv _,trivial⟩
      case hR0=>exact Kq.drew _
      case hend=>
       intro u w1 hext hJ hend
       simp only [EndE,Q1,Bl.Q2,Qc,Q3,Q4,eqv,true_and]at hend
       simp only [fillAct,Q5,Q6,Q7,Q8,Q9,hend]
       obtain⟨y,p7,c7,hu,hpy,hcell,hfz,hG7⟩:=((((hJ.2 rfl).2 rfl).2 rfl).2 rfl).2 rfl
       have HG7:=Bl.hid hG7
       have HK7:=Bl.hid hext
       have Hpy:=Bl.hid hpy
       rw [hu]at HG7
       simp only [hu]
       clear hG7 hext hend hJ hu hpy
       go_wp2_with fail
       obtain⟨w8,hw8⟩:∃W,W=w1.setCell ⟨Y,4,none⟩ (.slice p7 (M.length+1) c7):=⟨_,rfl⟩
       have HK8:Hid (Kq (fun k=>k=Y\/B<=k) wr w8):=Bl.hid (by rw [hw8];exact(HK7.out.mono fun j _ q=> .inr q).setCell (Q:=fun k=>k=Y\/B<=k) ⟨Y,4,none⟩ (.inl rfl) _)
       rw [<-hw8]at HG7⊢
       clear hw8 hcell hfz
       go_roundw
       case rel=>exact⟨k+1,_,M++[y],by omega,by go_num,Bl.hid ⟨by have h:=HG7.out;rw [List.set_set]at h;exact h,by rw [List.map_append,HI.out.2.1,Hsn2.out,List.map_cons,List.map_nil,Hpy.out],Htk2.out⟩,Bl.hid (HKr.out.trans HK8.out)⟩
       case measure=>simp [intOf];omega
      case hJ0=>exact ChN.start (HPa.out.ext stab_okF (Below.refl _ _).drew)
     ·obtain rfl:k=np:=by omega
      have HTk:Hid (l.places.take k=l.places):=Bl.hid (List.take_of_length_le (by rw [<-HN.out.1];exact Nat.le_refl _))
      obtain⟨pv,cv,hvr⟩:=HI.out.1.form
      subst hvr
      have HG7:=Bl.hid HI.out.1
      have Hsl:Hid (M.map plS=ansS all2 l.places):=Bl.hid (by have h:=HI.out.2.1;rw [HTk.out]at h;exact h)
      have Hres:=Bl.hid (HfY.out (by have h:=HI.out.2.2;rw [HTk.out]at h;exact h))
      have HLt:Hid (LtF (fun i=>i≠R0) wr (ansL l all2) nilV (.slice pv M.length cv) nilV M):=Bl.hid ⟨RdsF.nil _,RdsF.of_rds HG7.out.own.rds fun j hj _=>by have:=(HG7.out.own.block j hj).1;have:=HBY.out;omega,fun x hx=>stab_okF _ _ _ _ _ (HG7.out.ok x hx) fun j hj hl=>⟨by rcases hj.2.2 with q | q;have:=HPR.out;omega;have:=HBY.out;omega,rfl⟩,Hsl.out,[],RdsF.nil _,fun x hx=>(by cases hx),rfl⟩
      have HBy:Hid (BoxC wr Y (cL (ansL l all2) nilV (.slice pv M.length cv) nilV)):=Bl.hid HG7.out.box
      have Hl9:=Bl.hid (HBy.out.load (P:=Tryz.prog) Tryz.underlying43 rfl (by kernel_rfl))
      have Hst9:=Bl.hid (HBr4.out.store (P:=Tryz.prog) (cs':=cL (ansL l all2) nilV (.slice pv M.length cv) nilV) rfl (cL_one ⟨_,_,_,rfl⟩ ⟨_,_,_,rfl⟩ ⟨_,_,_,rfl⟩) (ty:=43) (by kernel_rfl))
      have HBr9:=Bl.hid (HBr4.out.set (cs':=cL (ansL l all2) nilV (.slice pv M.length cv) nilV) rfl)
      clear HI hlt
      go_wp2_with (with_reducible refine stop_load (ty:=43) ?_)
      refine go_on ?_
      refine wpL_load rfl Hl9.out ?_
      go_wp2_with (with_reducible refine stop_store (ty:=43) ?_)
      refine go_on ?_
      refine wpL_store0 rfl rfl Hst9.out ?_
      go_wp2_with fail
      refine bodyPost_ret (v:= .tuple #[.agg (cL (ansL l all2) nilV (.slice pv M.length cv) nilV).toArray,.bool true]) (results_cell2 rfl rfl (HBr9.out.loadVar (P:=Tryz.prog) Tryz.underlying43 rfl (by kernel_rfl)) rfl) rfl ?_
      unfold FgR
      rw [Hres.out]
      exact⟨_,_,_,M,rfl,HLt.out.kept fun i hi hl=>⟨trivial,exc_setCells _ _ _ (Exc.refl _ _) i hi⟩,below_setCells _ _ _ _ HEr.out (by have:=HPR.out;omega)⟩
theorem mhan_bad (F:Nat->Prop) (b:Nat) (s:ShT) (l:Bl.LT) (vp vs vb:Value) (L:List Sv) (w:World) (hD:DvX F w b s) (hF:∀i,F i->i < w.heap.size) (hok:ShOk s) (hL:LtF F w l vp vs vb L) (hi:s.ids.length<=1048576) (hg:GlobR w) (hck:¬chkL l=0):
  Calls Tryz.prog 11 #[.pointer (some ⟨b,0,none⟩),.agg (cL l vp vs vb).toArray] w fun e w'=>DhR F b s l w e w':=by
 have Hres:Hid (hanL s l=(lt0,false)/\hanS s l=s):=Bl.hid (by unfold hanL hanS;rw [if_neg hck,if_neg (fun q=>hck q.1)];exact⟨rfl,rfl⟩)
 have Hcb:=Bl.hid hck
 clear hck
 obtain⟨vo,va,D,hR⟩:=hD
 have hnb:=hR.nb
 have hbw:=hR.bx.lt
 have hLc:=hL.ltc
 obtain⟨pp,cp,hvp,hp1,hp2⟩:=hLc.pl.form
 obtain⟨ps,csn,hvs,_,_⟩:=hLc.sh.rd.form
 obtain⟨pb,cb,hvb,_,_⟩:=hLc.bl.form
 obtain⟨po,co,hvo,hpo1,hpo2⟩:=hR.ro.rds.form
 obtain⟨np,hnp⟩:∃z,z=l.places.length:=⟨_,rfl⟩
 obtain⟨ns,hns⟩:∃z,z=L.length:=⟨_,rfl⟩
 obtain⟨nb,hnbl⟩:∃z,z=l.blocks.length:=⟨_,rfl⟩
 obtain⟨N,hN⟩:∃z,z=D.length:=⟨_,rfl⟩
 rw [<-hnp]at hvp hp1
 rw [<-hns]at hvs
 rw [<-hnbl]at hvb
 rw [<-hN]at hvo hpo1
 subst hvp hvs hvb hvo
 have HN:Hid (np=l.places.length/\ns=L.length/\nb=l.blocks.length/\N=D.length/\N=s.objs.length/\N<=4):=Bl.hid ⟨hnp,hns,hnbl,hN,hN.trans hR.len,by rw [hN,hR.len];exact hok.ln⟩
 have HL:=Bl.hid hL
 have HR:=Bl.hid hR
 have Hok:=Bl.hid hok
 have Hg:=Bl.hid hg
 have Hids:=Bl.hid hi
 have HF:Hid ((∀i,F i->i < w.heap.size)/\¬F b/\b < w.heap.size):=Bl.hid ⟨hF,hnb,hbw⟩
 obtain⟨W1,hW1⟩:∃W1,W1=(w.alloc (.cells (cL l (.slice pp np cp) (.slice ps ns csn) (.slice pb nb cb)).toArray 43)).alloc (.cells zL 43):=⟨_,rfl⟩
 have hE1:Ext w W1:=by rw [hW1];exact(ext_alloc _ _).trans (ext_alloc _ _)
 have hsz1:W1.heap.size=w.heap.size+1+1:=by rw [hW1,World.size_alloc,World.size_alloc]
 have hBl:BoxC W1 w.heap.size (cL l (.slice pp np cp) (.slice ps ns csn) (.slice pb nb cb)):=by rw [hW1];exact(BoxC.box w 43 (cL_ne _ _ _ _)).ext (ext_alloc _ _)
 have hBr:BoxC W1 (w.heap.size+1) zL.toList:=by rw [hW1];exact box2 w _ zL.toList _ _ (fun h=>by cases h)
 obtain⟨R0,hR0⟩:∃R0,R0=w.heap.size+1:=⟨_,rfl⟩
 obtain⟨P0,hP0⟩:∃P0,P0=w.heap.size:=⟨_,rfl⟩
 rw [<-hR0]at hBr
 rw [<-hP0]at hBl
 have HE1:=Bl.hid hE1
 have HBl:=Bl.hid hBl
 have HBr:=Bl.hid hBr
 have HPR:Hid (P0=w.heap.size/\R0=w.heap.size+1/\W1.heap.size=w.heap.size+1+1):=Bl.hid ⟨hP0,hR0,hsz1⟩
 have Hld:=Bl.hid (hBl.load (P:=Tryz.prog) Tryz.underlying43 rfl (by kernel_rfl))
 have HCk:=Bl.hid (rcheck_any _ l W1 (LtV.ext ⟨_,_,_,_,_,rfl,hLc⟩ hE1))
 unfold cL at hW1
 clear hR hnb hbw hLc hnp hns hnbl hN hL hok hg hi hF hE1 hsz1 hBl hBr hR0 hP0
 show Calls Tryz.prog 11 #[.pointer (some ⟨b,0,none⟩),.agg #[.int .i64 l.kind,.int .i64 l.id,.int .i64 l.obj,.slice pp np cp,.slice ps ns csn,.int .i64 l.frm,.int .i64 l.cnt,.slice pb nb cb,.int .i64 l.code]] w _
 go_enter Tryz.func11,Tryz.ntmps11
 go_wp2_with (with_reducible refine stop_load (ty:=43) ?_)
 rw [<-hW1]
 rw [show w.heap.size+1=R0 from HPR.out.2.1.symm,show w.heap.size=P0 from HPR.out.1.symm]
 clear hW1
 refine go_on ?_
 refine wpL_load rfl Hld.out ?_
 go_wp2_with fail
 obtain⟨ck,hck⟩:∃ck,ck=chkL l:=⟨_,rfl⟩
 rw [<-hck]at HCk Hcb
 have hc0:¬((ck:Int)=0):=by have:=Hcb.out;omega
 have hc1:¬(ck=0):=Hcb.out
 clear hck
 refine HCk.out.mono ?_
 rintro e w2 ⟨rfl,hE2⟩
 have HE2:Hid (Ext w w2):=Bl.hid (HE1.out.trans hE2)
 have HBr2:=Bl.hid (HBr.out.ext hE2)
 have HW2:Hid (w.heap.size+2<=w2.heap.size):=Bl.hid (by have:=hE2.size;have:=HPR.out;omega)
 have HD2:Hid (DvX (fun k=>F k\/w.heap.size+2<=k) w2 b s):=Bl.hid (DvX.mono ⟨_,_,_,HR.out.ext HE2.out⟩ (fun i q _=> .inl q) fun q=>q.elim HF.out.2.1 fun q=>by have:=HF.out.2.2;omega)
 clear hE2 HCk HBl HBr Hld
 have Hst9:=Bl.hid (HBr2.out.store (P:=Tryz.prog) (cs':=cL lt0 nilV nilV nilV) rfl (cL_one ⟨_,_,_,rfl⟩ ⟨_,_,_,rfl⟩ ⟨_,_,_,rfl⟩) (ty:=43) (by kernel_rfl))
 have HBr9:=Bl.hid (HBr2.out.set (cs':=cL lt0 nilV nilV nilV) rfl)
 go_wp2_with (with_reducible refine stop_store (ty:=43) ?_)
 refine go_on ?_
 refine wpL_store0 rfl rfl Hst9.out ?_
 go_wp2_with fail
 refine bodyPost_ret (v:= .tuple #[.agg (cL lt0 nilV nilV nilV).toArray,.bool false]) (results_cell2 rfl rfl (HBr9.out.loadVar (P:=Tryz.prog) Tryz.underlying43 rfl (by kernel_rfl)) rfl) rfl ?_
 unfold DhR
 rw [Hres.out.1,Hres.out.2]
 exact⟨_,_,_,_,rfl,Dh.fin HF.out (by have:=HPR.out;omega) (Kb.of_ext HE2.out) (LtF.nil _ _ _ _ _ _ _ _) HD2.out _⟩
end Go.Proofs.YtglenbikdahgjaaGreatDoor
