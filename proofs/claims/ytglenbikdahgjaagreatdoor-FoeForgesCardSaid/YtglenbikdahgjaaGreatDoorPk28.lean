/- Walk of foe.Forge. -/
import Derived.Test.YtglenbikdahgjaaGreatDoorPk27
import Derived.Test.YtglenbikdahgjaaGreatDoorPk20
import Derived.Test.YtglenbikdahgjaaGreatDoorPk16
import Derived.Test.YtglenbikdahgjaaGreatDoorPk22
import Derived.Test.YtglenbikdahgjaaGreatDoorPk25
set_option maxRecDepth 100000
set_option maxHeartbeats 16000000
namespace Go.Proofs.YtglenbikdahgjaaGreatDoor
open Go Go.RowKit Go.Proofs Go.Proofs.Bl
theorem buildSh3F (p:Int) (q1 q2:Option Addr) (n1 c1 n2 c2:Nat) (w:World):(Instr.build 57 #[(0,.int .i64 p),(1,.slice q1 n1 c1),(2,.slice q2 n2 c2)]).run Tryz.prog w= .ok (.agg #[.int .i64 p,.slice q1 n1 c1,.slice q2 n2 c2]) w:=run_build w _ _ _ (by kernel_rfl)
theorem fforge_any (b:Nat) (N Q:Nat->Prop) (s:ShT) (v:Value) (l:Bl.LT) (vo:Value) (ot:List Int) (w:World) (S:List Nat) (a:Nat->Addr) (hS:SvX N Q w b s) (hok:ShOk s) (hL:LtV w v l) (hO:Rd w .u8 vo ot) (hob:Byt ot) (hol:ot.length<=1000) (hg:Glob w) (he:Errs S a w) (s1:1∈S) (s3:3∈S) (s4:4∈S) (s7:7∈S) (s8:8∈S):
  Calls Tryz.prog 13 #[.pointer (some ⟨b,0,none⟩),v,vo] w fun e w'=>FgR s l ot w e w':=by
 have HLv:=Bl.hid hL
 obtain⟨cs0,vp,vs,vb,L,rfl,hLc⟩:=hL
 obtain rfl:=hLc.eq
 have HS:=Bl.hid (And.intro hS hok)
 have HG:=Bl.hid (And.intro hg (And.intro he (And.intro s1 (And.intro s3 (And.intro s4 (And.intro s7 s8))))))
 obtain⟨pp,cp,hvp,hpp1,hpp2⟩:=hLc.pl.form
 obtain⟨ps,csn,hvs,_,_⟩:=hLc.sh.rd.form
 obtain⟨pb,cb,hvb,_,_⟩:=hLc.bl.form
 obtain⟨po,co,hvo,hpo1,hpo2⟩:=hO.form
 obtain⟨np,hnp⟩:∃z,z=l.places.length:=⟨_,rfl⟩
 obtain⟨ns,hns⟩:∃z,z=L.length:=⟨_,rfl⟩
 obtain⟨nb,hnbl⟩:∃z,z=l.blocks.length:=⟨_,rfl⟩
 obtain⟨no,hno⟩:∃z,z=ot.length:=⟨_,rfl⟩
 rw [<-hnp]at hvp hpp1
 rw [<-hns]at hvs
 rw [<-hnbl]at hvb
 rw [<-hno]at hvo hpo1
 subst hvp hvs hvb hvo
 have HN:Hid (np=l.places.length/\no=ot.length):=Bl.hid ⟨hnp,hno⟩
 have HLc:=Bl.hid hLc
 have HO:=Bl.hid hO
 have HOb:=Bl.hid (And.intro hob hol)
 obtain⟨W1,hW1⟩:∃W1,W1=(w.alloc (.cells (cL l (.slice pp np cp) (.slice ps ns csn) (.slice pb nb cb)).toArray 26)).alloc (.cells zL 26):=⟨_,rfl⟩
 have hE1:Ext w W1:=by rw [hW1];exact(ext_alloc _ _).trans (ext_alloc _ _)
 have hsz1:W1.heap.size=w.heap.size+1+1:=by rw [hW1,World.size_alloc,World.size_alloc]
 have hBl:BoxC W1 w.heap.size (cL l (.slice pp np cp) (.slice ps ns csn) (.slice pb nb cb)):=by rw [hW1];exact(BoxC.box w 26 (cL_ne _ _ _ _)).ext (ext_alloc _ _)
 have hBr:BoxC W1 (w.heap.size+1) zL.toList:=by rw [hW1];exact box2 w _ zL.toList _ _ (fun h=>by cases h)
 obtain⟨R0,hR0⟩:∃R0,R0=w.heap.size+1:=⟨_,rfl⟩
 obtain⟨P0,hP0⟩:∃P0,P0=w.heap.size:=⟨_,rfl⟩
 rw [<-hR0]at hBr
 rw [<-hP0]at hBl
 have HE1:=Bl.hid hE1
 have HBl:=Bl.hid hBl
 have HBr:=Bl.hid hBr
 have HPR:Hid (P0=w.heap.size/\R0=w.heap.size+1/\W1.heap.size=w.heap.size+1+1):=Bl.hid ⟨hP0,hR0,hsz1⟩
 have Hld:=Bl.hid (hBl.load (P:=Tryz.prog) Tryz.underlying26 rfl (by kernel_rfl))
 have HCk:=Bl.hid (fun w2 (h:Ext w w2)=>lcheck_any _ l w2 S a (HLv.out.ext h) (he.ext h) s1 s3 s4 s7 s8)
 have hx0:=hBl.cell (i:=0) (v:= .int .i64 l.kind) rfl
 obtain⟨kd,hkd⟩:∃kd,kd=l.kind:=⟨_,rfl⟩
 rw [<-hkd]at hx0
 have Hkd:=Bl.hid hkd
 unfold cL at hW1
 clear hLc hO hob hol hnp hns hnbl hno hE1 hsz1 hBl hBr hR0 hP0 hS hok hg he s1 s3 s4 s7 s8 hkd
 show Calls Tryz.prog 13 #[.pointer (some ⟨b,0,none⟩),.agg #[.int .i64 l.kind,.int .i64 l.id,.int .i64 l.obj,.slice pp np cp,.slice ps ns csn,.int .i64 l.frm,.int .i64 l.cnt,.slice pb nb cb,.int .i64 l.code],.slice po no co] w _
 go_enter Tryz.func13,Tryz.ntmps13
 have hW1b:=hW1
 by_cases hk3:kd=3
 case neg=>
  have Hres:=Bl.hid (forL_no (s:=s) (l:=l) (ot:=ot) fun q=>hk3 (by rw [Hkd.out];exact q.1))
  have hb3:(kd != 3)=true:=by rw [bne_iff_ne];exact hk3
  have hx0':((w.alloc (.cells #[.int .i64 l.kind,.int .i64 l.id,.int .i64 l.obj,.slice pp np cp,.slice ps ns csn,.int .i64 l.frm,.int .i64 l.cnt,.slice pb nb cb,.int .i64 l.code] 26)).alloc (.cells zL 26)).cell? ⟨w.heap.size,0,none⟩=some (.int .i64 kd):=by rw [<-hW1b,<-HPR.out.1];exact hx0
  clear hW1b
  have Hst9:=Bl.hid (HBr.out.store (P:=Tryz.prog) (cs':=cL lt0 nilV nilV nilV) rfl (cL_one ⟨_,_,_,rfl⟩ ⟨_,_,_,rfl⟩ ⟨_,_,_,rfl⟩) (ty:=26) (by kernel_rfl))
  have HBr9:=Bl.hid (HBr.out.set (cs':=cL lt0 nilV nilV nilV) rfl)
  go_wp2_with (with_reducible refine stop_store (ty:=26) ?_)
  refine go_on ?_
  rw [<-hW1]
  rw [show w.heap.size+1=R0 from HPR.out.2.1.symm,show w.heap.size=P0 from HPR.out.1.symm]
  clear hW1
  refine wpL_store0 rfl rfl Hst9.out ?_
  go_wp2_with fail
  refine bodyPost_ret (v:= .tuple #[.agg (cL lt0 nilV nilV nilV).toArray,.bool false]) (results_cell2 rfl rfl (HBr9.out.loadVar (P:=Tryz.prog) Tryz.underlying26 rfl (by kernel_rfl)) rfl) rfl ?_
  unfold FgR
  rw [Hres.out]
  exact⟨_,_,_,[],rfl,LtF.nil _ _ _ _ _ _ _ _,below_setCells _ _ _ _ HE1.out (by have:=HPR.out;omega)⟩
 have hx0':((w.alloc (.cells #[.int .i64 l.kind,.int .i64 l.id,.int .i64 l.obj,.slice pp np cp,.slice ps ns csn,.int .i64 l.frm,.int .i64 l.cnt,.slice pb nb cb,.int .i64 l.code] 26)).alloc (.cells zL 26)).cell? ⟨w.heap.size,0,none⟩=some (.int .i64 3):=by rw [<-hW1b,<-HPR.out.1,<-hk3];exact hx0
 clear hW1b
 have Hk3:Hid (l.kind=3):=Bl.hid (by rw [<-Hkd.out];exact hk3)
 go_wp2_with (with_reducible refine stop_loadg (ty:=26) ?_)
 refine go_on ?_
 rw [<-hW1]
 rw [show w.heap.size+1=R0 from HPR.out.2.1.symm,show w.heap.size=P0 from HPR.out.1.symm]
 clear hW1
 clear hx0 hx0' hk3
 refine wpL_loadg rfl rfl Hld.out ?_
 go_wp2_with fail
 refine(HCk.out W1 HE1.out).mono ?_
 rintro e w2 ⟨rfl,hE2⟩
 have HE2:Hid (Ext w w2):=Bl.hid (HE1.out.trans hE2)
 have HBl2:=Bl.hid (HBl.out.ext hE2)
 have HBr2:=Bl.hid (HBr.out.ext hE2)
 have HW2:Hid (w.heap.size+2<=w2.heap.size):=Bl.hid (by have:=hE2.size;have:=HPR.out;omega)
 clear hE2 HCk HBl HBr Hld HE1
 by_cases hck:chkL l=0
 case neg=>
  have Hres:=Bl.hid (forL_no (s:=s) (l:=l) (ot:=ot) fun q=>hck q.2.1)
  obtain⟨er,her⟩:∃er,errN a (chkL l)= .iface 233 (.pointer (some er)):=⟨_,errN_pos a _ hck⟩
  rw [her]
  clear hck her
  have Hst9:=Bl.hid (HBr2.out.store (P:=Tryz.prog) (cs':=cL lt0 nilV nilV nilV) rfl (cL_one ⟨_,_,_,rfl⟩ ⟨_,_,_,rfl⟩ ⟨_,_,_,rfl⟩) (ty:=26) (by kernel_rfl))
  have HBr9:=Bl.hid (HBr2.out.set (cs':=cL lt0 nilV nilV nilV) rfl)
  go_wp2_with (with_reducible refine stop_store (ty:=26) ?_)
  refine go_on ?_
  refine wpL_store0 rfl rfl Hst9.out ?_
  go_wp2_with fail
  refine bodyPost_ret (v:= .tuple #[.agg (cL lt0 nilV nilV nilV).toArray,.bool false]) (results_cell2 rfl rfl (HBr9.out.loadVar (P:=Tryz.prog) Tryz.underlying26 rfl (by kernel_rfl)) rfl) rfl ?_
  unfold FgR
  rw [Hres.out]
  exact⟨_,_,_,[],rfl,LtF.nil _ _ _ _ _ _ _ _,below_setCells _ _ _ _ HE2.out (by have:=HPR.out;omega)⟩
 rw [hck,errN_zero]
 have Hck:=Bl.hid hck
 clear hck
 by_cases h16:no=16
 case neg=>
  have Hres:=Bl.hid (forL_no (s:=s) (l:=l) (ot:=ot) fun q=>h16 (HN.out.2.trans q.2.2))
  have h16i:¬(no:Int)=16:=by omega
  have hb16:((no:Int) != 16)=true:=by rw [bne_iff_ne];exact h16i
  have Hst9:=Bl.hid (HBr2.out.store (P:=Tryz.prog) (cs':=cL lt0 nilV nilV nilV) rfl (cL_one ⟨_,_,_,rfl⟩ ⟨_,_,_,rfl⟩ ⟨_,_,_,rfl⟩) (ty:=26) (by kernel_rfl))
  have HBr9:=Bl.hid (HBr2.out.set (cs':=cL lt0 nilV nilV nilV) rfl)
  go_wp2_with (with_reducible refine stop_store (ty:=26) ?_)
  refine go_on ?_
  refine wpL_store0 rfl rfl Hst9.out ?_
  go_wp2_with fail
  refine bodyPost_ret (v:= .tuple #[.agg (cL lt0 nilV nilV nilV).toArray,.bool false]) (results_cell2 rfl rfl (HBr9.out.loadVar (P:=Tryz.prog) Tryz.underlying26 rfl (by kernel_rfl)) rfl) rfl ?_
  unfold FgR
  rw [Hres.out]
  exact⟨_,_,_,[],rfl,LtF.nil _ _ _ _ _ _ _ _,below_setCells _ _ _ _ HE2.out (by have:=HPR.out;omega)⟩
 subst h16
 have H16:Hid (ot.length=16):=Bl.hid HN.out.2.symm
 have hx2:=HBl2.out.cell (i:=2) (v:= .int .i64 l.obj) rfl
 cases hg:getO s l.obj with
 | none=>
  have Hres:=Bl.hid (forL_none (s:=s) (l:=l) (ot:=ot) hg)
  have Hgn:=Bl.hid hg
  clear hg
  go_wp2_with fail
  refine(sstored_none b N Q s l.obj w2 (HS.out.1.ext HE2.out) Hgn.out).mono ?_
  rintro e w3 ⟨rfl,hE3⟩
  have HE3:=Bl.hid (HE2.out.trans hE3)
  have HBr3:=Bl.hid (HBr2.out.ext hE3)
  clear hE3 hx2
  have Hst9:=Bl.hid (HBr3.out.store (P:=Tryz.prog) (cs':=cL lt0 nilV nilV nilV) rfl (cL_one ⟨_,_,_,rfl⟩ ⟨_,_,_,rfl⟩ ⟨_,_,_,rfl⟩) (ty:=26) (by kernel_rfl))
  have HBr9:=Bl.hid (HBr3.out.set (cs':=cL lt0 nilV nilV nilV) rfl)
  go_wp2_with (with_reducible refine stop_store (ty:=26) ?_)
  refine go_on ?_
  refine wpL_store0 rfl rfl Hst9.out ?_
  go_wp2_with fail
  refine bodyPost_ret (v:= .tuple #[.agg (cL lt0 nilV nilV nilV).toArray,.bool false]) (results_cell2 rfl rfl (HBr9.out.loadVar (P:=Tryz.prog) Tryz.underlying26 rfl (by kernel_rfl)) rfl) rfl ?_
  unfold FgR
  rw [Hres.out]
  exact⟨_,_,_,[],rfl,LtF.nil _ _ _ _ _ _ _ _,below_setCells _ _ _ _ HE3.out (by have:=HPR.out;omega)⟩
 | some all=>
  have Hgo:=Bl.hid hg
  obtain⟨ho1,ho2,ho3⟩:=HS.out.2.get hg
  obtain⟨hq1,hq2,hq3⟩:=ask_pl Hck.out Hk3.out
  have Hp5:=Bl.hid hq3
  have Hnp:Hid (1<=np/\np<=12):=Bl.hid (by rw [HN.out.1];exact⟨hq1,hq2⟩)
  have Hst:=Bl.hid ho3
  obtain⟨m,hm⟩:∃m,m=all.length:=⟨_,rfl⟩
  have Hm:Hid (1<=m/\m<=512/\m=all.length):=Bl.hid ⟨by rw [hm];exact ho1,by rw [hm];exact ho2,hm⟩
  clear hg ho1 ho2 ho3 hq1 hq2 hq3
  go_wp2_with fail
  refine(sstored_some b N Q s l.obj all w2 (HS.out.1.ext HE2.out) HS.out.2 Hgo.out).mono ?_
  rintro e w3 ⟨g,M0,rfl,hg0,hP3,hM3,hMm,hE3⟩
  rw [<-hm]at hP3⊢
  have HE3:=Bl.hid (HE2.out.trans hE3)
  have HBl3:=Bl.hid (HBl2.out.ext hE3)
  have HBr3:=Bl.hid (HBr2.out.ext hE3)
  have hml:M0.length=m:=by rw [hm,<-hMm,List.length_map]
  have HM3:=Bl.hid (And.intro hP3 (And.intro hM3 (And.intro hMm hml)))
  have Hgs:Hid (w2.heap.size<=g/\g < w3.heap.size):=Bl.hid ⟨hg0,(hP3.block g rfl).2⟩
  obtain⟨bp,op,c2,hq,_,_,hbp,_,hcell⟩:=Rd.pos HLc.out.pl (by have:=Hnp.out;have:=HN.out;omega)
  injection hq with hq1 hq2 hq3
  subst hq1 hq3
  clear hq2
  have Hpc:=Bl.hid (And.intro hbp hcell)
  clear hE3 hg0 hP3 hM3 hMm hml hm hx2 hbp hcell
  obtain⟨p0,hp0⟩:∃p,p=l.places.getD 0 0:=⟨_,rfl⟩
  have hcl0:=((bcell HE3.out).1 bp (op+0) Hpc.out.1).trans (Hpc.out.2 0 (by have:=Hnp.out;have:=HN.out;omega))
  rw [<-hp0,Nat.add_zero]at hcl0
  have hpb:=Hp5.out _ (getD_mem 0 (show 0 < l.places.length by have:=Hnp.out;have:=HN.out;omega))
  rw [<-hp0]at hpb
  obtain⟨hpb0,hpb1⟩:=hpb
  have Hp0:=Bl.hid hp0
  clear hp0
  have hx3:=HBl3.out.cell (i:=3) (v:= .slice (some ⟨bp,op,none⟩) np cp) rfl
  have hnp0:(0:Int) < (np:Int):=by have:=Hnp.out;omega
  have hnp0N:0 < np:=by have:=Hnp.out;omega
  by_cases hpm:p0 < (m:Int)
  case neg=>
   have Hres:=Bl.hid (forL_out (ot:=ot) Hgo.out (k:=0) (by have:=Hnp.out;have:=HN.out;omega) (by rw [<-Hp0.out,<-Hm.out.2.2];exact hpm))
   have hpm2:(m:Int)<=p0:=by omega
   have Hst9:=Bl.hid (HBr3.out.store (P:=Tryz.prog) (cs':=cL lt0 nilV nilV nilV) rfl (cL_one ⟨_,_,_,rfl⟩ ⟨_,_,_,rfl⟩ ⟨_,_,_,rfl⟩) (ty:=26) (by kernel_rfl))
   have HBr9:=Bl.hid (HBr3.out.set (cs':=cL lt0 nilV nilV nilV) rfl)
   go_wp2_with (with_reducible refine stop_store (ty:=26) ?_)
   refine go_on ?_
   refine wpL_store0 rfl rfl Hst9.out ?_
   go_wp2_with fail
   refine bodyPost_ret (v:= .tuple #[.agg (cL lt0 nilV nilV nilV).toArray,.bool false]) (results_cell2 rfl rfl (HBr9.out.loadVar (P:=Tryz.prog) Tryz.underlying26 rfl (by kernel_rfl)) rfl) rfl ?_
   unfold FgR
   rw [Hres.out]
   exact⟨_,_,_,[],rfl,LtF.nil _ _ _ _ _ _ _ _,below_setCells _ _ _ _ HE3.out (by have:=HPR.out;omega)⟩
  obtain⟨j0,rfl⟩:=Int.eq_ofNat_of_zero_le hpb0
  have hj0:j0 < m:=by omega
  have hj1:¬(m:Int)<=(j0:Int):=by omega
  have hj2:¬m<=j0:=by omega
  have hj3:(0:Int)<=(j0:Int):=by omega
  have hj4:(j0:Int) < (m:Int):=by omega
  obtain⟨all2,hall⟩:∃z,z=all.set j0 ot:=⟨_,rfl⟩
  have Hal:Hid (all2.length=m/\∀q∈all2,q.length=16/\Byt q):=Bl.hid (by
   rw [hall]
   refine⟨by rw [List.length_set,Hm.out.2.2],fun q hq=> ?_⟩
   rcases List.mem_or_eq_of_mem_set hq with hq | rfl
   ·exact Hst.out q hq
   ·exact⟨H16.out,HOb.out.1⟩)
  have HfY:Hid ((∀p∈l.places,p < (m:Int))->forL s l ot=(ansL l all2,true)):=Bl.hid fun q=>by
   rw [forL_yes Hk3.out Hck.out H16.out Hgo.out (by rw [<-Hm.out.2.2];exact q),<-Hp0.out,Int.toNat_natCast,<-hall]
  have HfN:Hid (∀k,k < np->¬l.places.getD k 0 < (m:Int)->forL s l ot=(lt0,false)):=Bl.hid fun k hk q=>forL_out Hgo.out (by rw [<-HN.out.1];exact hk) (by rw [<-Hm.out.2.2];exact q)
  have HCl:Hid (∀w2,Ext w3 w2->Calls Tryz.prog 45 #[.slice po 16 co] w2 fun e w'=>∃v',e= .returned v'/\OkB (fun k=>w3.heap.size<=k) w' (v',ot)/\Ext w2 w'):=Bl.hid fun w2 h2=>by
   have hr:=HO.out.ext (HE3.out.trans h2)
   refine(cloneB_any _ ot w2 hr (by have:=H16.out;omega)).mono ?_
   rintro e w' ⟨v',rfl,ho,hE⟩
   exact⟨v',rfl,⟨RdsF.of_rds (Rds.of_owns ho) fun b hb _=>Nat.le_trans h2.size (ho.lt b hb).1,HOb.out.1⟩,hE⟩
  have hbl3:=HBl3.out.lt
  have hbp3:bp < w3.heap.size:=World.block_lt_of_cell? _ _ hcl0
  go_wp2_with fail
  apply wp_region_evK (Ext) (fun _ _ _=>True) 8 [48,49,50,51,52,53,54,55] [eqv _,eqv _,eqv _,eqv _,eqv _,eqv _,(fun v w2=>OkB (fun k=>w3.heap.size<=k) w2 (v,ot)),eqv _] (fun w=>Below.refl _ w) (fun a b c h k=>Ext.trans h k) (by kernel_rfl) (by kernel_rfl) (by kernel_rfl) (by kernel_rfl)
  case hsteps=>
   refine⟨?_,?_,?_,?_,?_,?_,?_,?_,trivial⟩
   all_goals
    intro d ev w1 hext HJd Hanc Hdes hni hb hd
    replace Hanc:=Bl.hid Hanc
    replace HJd:=Bl.hid HJd
    replace Hdes:=Bl.hid Hdes
    replace hni:=Bl.hid hni
    have e2:=hb 2 (by decide)
    have e4:=hb 4 (by decide)
    have e8:=hb 8 (by decide)
    clear hb
    simp only [Qa,Qb,Q1,Bl.Q2,Qd]at e2 e4 e8
    simp only [DepsE2,Q1,Bl.Q2,Qc,Q3,Q4,eqv,and_true]at hd
    have hc:=(bcell hext).1
    have k0:=(hc _ 3 hbl3).trans hx3
    have k1:=(hc _ op hbp3).trans hcl0
    simp only [Region.wanted,if_true]
    go_simp
    first | exact⟨Below.refl _ _,rfl⟩ | (go_at_call 45;(with_reducible refine(HCl.out _ hext).mono ?_);rintro e w2 ⟨v',rfl,h1,h2⟩;exact⟨_,rfl,h2,h1⟩) | exact⟨Below.refl _ _,rfl⟩ | exact Below.refl _ _
  case hmono=>exact⟨monoR_eqv _,monoR_eqv _,monoR_eqv _,monoR_eqv _,monoR_eqv _,monoR_eqv _,(fun _ _ _ h k=>stab_okB _ _ _ _ _ h fun b hb hl=>⟨hb,k.block b hl⟩),monoR_eqv _,trivial⟩
  case hR0=>exact(Below.refl _ _).drew
  case hend=>
   intro u w1 hext hJ hend
   simp only [EndE,Q1,Bl.Q2,Qc,Q3,Q4,eqv,true_and]at hend
   simp only [fillAct,Q5,Q6,Q7,Q8,Q9,hend]
   have hv54:OkB (fun k=>w3.heap.size<=k) w1 (u 54,ot):=(by first | ((repeat(first | exact hend | exact hend.2 | replace hend:=hend.1));done) | (repeat(first | exact hend | exact hend.1 | replace hend:=hend.2)))
   obtain⟨p9,c9,hv9,_,_⟩:=hv54.1.rds.form
   have hv9:u 54= .slice p9 ot.length c9:=hv9
   rw [hv9]at hv54
   simp only [hv9]
   have HE4a:=Bl.hid hext
   have HP4:Hid (Pk w1 0 1 (.slice (some ⟨g,0,none⟩) m m) m (cellsR cB M0)):=Bl.hid (by have h:=HM3.out.1.ext hext;rw [HM3.out.2.2.2]at h;exact h.mono (Nat.zero_le _))
   have hjM:j0 < M0.length:=by rw [HM3.out.2.2.2];exact hj0
   have q9:=HP4.out.cell (cellB_at M0 j0 hjM)
   have f9:=HP4.out.fz (show j0 < (cellsR cB M0).length by rw [cellsB_len];exact hjM)
   have HRw:Hid (RowF (fun i=>w.heap.size+2<=i) (w1.setCell ⟨g,j0,none⟩ (.slice p9 ot.length c9)) (.slice (some ⟨g,0,none⟩) m m) all2):=Bl.hid (by
    rw [hall]
    refine rowF_set (F:=fun k=>g < k) HP4.out HM3.out.2.2.2.symm hjM (fun y hy=>stab_okB _ _ _ _ _ (HM3.out.2.1 y hy) fun b hb hl=>⟨hb,hext.block b hl⟩) HM3.out.2.2.1 (stab_okB _ _ _ _ _ hv54 fun b hb hl=>⟨by have:=Hgs.out;omega,rfl⟩) (Nat.lt_irrefl _) (by have:=Hgs.out;have:=HW2.out;omega) (fun i hi=>by have:=Hgs.out;have:=HW2.out;omega))
   have HE4:Hid (Ext w (w1.setCell ⟨g,j0,none⟩ (.slice p9 ot.length c9))):=Bl.hid (Below.setCell (HE3.out.trans hext) (by have:=Hgs.out;have:=HW2.out;show w.heap.size<=g;omega) _)
   have hks:Kq (fun k=>k=g) w1 (w1.setCell ⟨g,j0,none⟩ (.slice p9 ot.length c9)):=(Kq.refl w1).setCell (Q:=fun k=>k=g) ⟨g,j0,none⟩ rfl _
   have HBlB:=Bl.hid (hks.box (fun q=>by have:=Hgs.out;have:=HW2.out;have:=HPR.out;omega) (HBl3.out.ext hext))
   have HBrB:=Bl.hid (hks.box (fun q=>by have:=Hgs.out;have:=HW2.out;have:=HPR.out;omega) (HBr3.out.ext hext))
   have HWB:Hid (w.heap.size+2<=(w1.setCell ⟨g,j0,none⟩ (.slice p9 ot.length c9)).heap.size):=Bl.hid (by have:=hks.size;have:=hext.size;have:=Hgs.out;have:=HW2.out;omega)
   have hx1:=HBlB.out.cell (i:=1) (v:= .int .i64 l.id) rfl
   have hx2:=HBlB.out.cell (i:=2) (v:= .int .i64 l.obj) rfl
   rw [H16.out]at hx1 hx2
   obtain⟨wB,hwB⟩:∃W,W=w1.setCell ⟨g,j0,none⟩ (.slice p9 ot.length c9):=⟨_,rfl⟩
   rw [<-hwB]at HRw HE4 HBlB HBrB HWB
   have hws:=Bl.hid (show w1.heap.size=wB.heap.size by rw [hwB];exact(World.size_setCell _ _ _).symm)
   have HEB:=HE4
   rw [H16.out]at hwB
   rw [H16.out]
   clear hext hend hJ hks hv54 hv9 hx3 hcl0 HCl hall hbl3 hbp3 HP4 hjM
   obtain⟨hHA5,hHE5a⟩:=BoxC.fresh (cs:=cL ⟨4,l.id,l.obj,[],[],0,0,[],0⟩ nilV nilV nilV) wB 26 zL rfl (cL_ne _ _ _ _)
   have Hstn:=Bl.hid (fresh_store (P:=Tryz.prog) (cs:=cL ⟨4,l.id,l.obj,[],[],0,0,[],0⟩ nilV nilV nilV) wB 26 zL rfl (cL_one ⟨_,_,_,rfl⟩ ⟨_,_,_,rfl⟩ ⟨_,_,_,rfl⟩) (ty:=26) (by kernel_rfl))
   go_wp2_with (with_reducible refine stop_store (ty:=26) ?_)
   refine go_on ?_
   rw [<-hwB]
   rw [hws.out]
   clear hwB q9 f9 hws
   refine wpL_store0 rfl rfl Hstn.out ?_
   obtain⟨W5,hW5⟩:∃W,W=(wB.alloc (.cells zL 26)).setCells wB.heap.size 0 (cL ⟨4,l.id,l.obj,[],[],0,0,[],0⟩ nilV nilV nilV):=⟨_,rfl⟩
   obtain⟨Y,hY⟩:∃W,W=wB.heap.size:=⟨_,rfl⟩
   rw [<-hW5]at hHA5 hHE5a⊢
   rw [<-hY]at hHA5⊢
   have HA5:=Bl.hid hHA5
   have HE5a:=Bl.hid hHE5a
   have HY:=Bl.hid hY
   clear hHA5 hHE5a hW5 hY Hstn
   obtain⟨B,hB⟩:∃B,B=W5.heap.size:=⟨_,rfl⟩
   have HBY:Hid (w.heap.size<=P0/\P0 < R0/\R0 < Y/\Y < B/\B=W5.heap.size/\Y=wB.heap.size/\w.heap.size<=B):=Bl.hid (by have:=HA5.out.lt;have:=HY.out;have:=HPR.out;have:=HWB.out;omega)
   have HE5:Hid (Ext w W5):=Bl.hid (HEB.out.trans HE5a.out)
   have HBl5:=Bl.hid (HBlB.out.ext HE5a.out)
   have HBr5:=Bl.hid (HBrB.out.ext HE5a.out)
   have hx3:=HBl5.out.cell (i:=3) (v:= .slice (some ⟨bp,op,none⟩) np cp) rfl
   clear hx1 hx2 hB
   go_wp2_with fail
   clear hx3
   go_loopw [64] (fun x wr=>∃(k:Nat) (vr:Value) (M:List Sv),k<=np/\x= .int .i64 k/\Hid (GQ cS 3 OkF (fun i=>w.heap.size+2<=i\/B<=i) B wr Y 4 ((cL ⟨4,l.id,l.obj,[],[],0,0,[],0⟩ nilV nilV nilV).set 4 vr) vr M/\M.map plS=ansS all2 (l.places.take k)/\∀p∈l.places.take k,p < (m:Int))/\Hid (Kq (fun k=>k=Y\/B<=k) W5 wr)) (fun x _=>np - (intOf x).toNat)
   case atStart=>exact⟨0,.slice none 0 0,[],Nat.zero_le _,rfl,Bl.hid ⟨GQ.start HA5.out rfl,rfl,fun p hp=>(by simp at hp)⟩,Bl.hid (Kq.refl _)⟩
   case round=>
    obtain⟨k,vr,M,hi,rfl,HI,HKr⟩:=hrel
    have HEr:Hid (Ext w wr):=Bl.hid (HE5.out.trans' (N:=w.heap.size) (HKr.out.mono fun j _ q=>by have:=HBY.out;omega) (Nat.le_refl _))
    have HEb:Hid (Ext wB wr):=Bl.hid (HE5a.out.trans' (N:=wB.heap.size) (HKr.out.mono fun j _ q=>by have:=HBY.out;omega) (Nat.le_refl _))
    have HBr4:=Bl.hid (HKr.out.box (fun q=>by have:=HBY.out;omega) HBr5.out)
    have HBw:Hid (B<=wr.heap.size):=Bl.hid (by have:=HKr.out.size;have:=HBY.out;omega)
    by_cases hlt:k < np
    ·have hil:k < l.places.length:=by rw [<-HN.out.1];exact hlt
     have hcl:=((bcell HEr.out).1 bp (op+k) Hpc.out.1).trans (Hpc.out.2 k hil)
     have hpr:=Hp5.out _ (getD_mem 0 hil)
     obtain⟨p,hp⟩:∃p,p=l.places.getD k 0:=⟨_,rfl⟩
     rw [<-hp]at hcl hpr
     have Hp:=Bl.hid hp
     have hk0:(0:Int)<=(k:Int):=by omega
     have hk1:(k:Int) < (np:Int):=by omega
     have hk2:(k:Int)<=12:=by have:=Hnp.out;omega
     have hp0:=hpr.1
     have hp1:=hpr.2
     have hps:p=l.places.getD k 0:=Hp.out
     have Hsn:Hid (∀st0 pth,st0=all2.getD p.toNat []->pth=pathD all2 p.toNat->ansS all2 (l.places.take (k+1))=ansS all2 (l.places.take k)++[(p,st0,pth)]):=Bl.hid fun st0 pth h1 h2=>by
      rw [ansS_push all2 l.places k hil,<-hps,h1,h2]
     have Htk:Hid (p < (m:Int)->∀x∈l.places.take (k+1),x < (m:Int)):=Bl.hid fun q x hx=>by
      rw [take_succ_getDD 0 l.places k hil,<-hps]at hx
      rcases List.mem_append.1 hx with hx | hx
      ·exact HI.out.2.2 x hx
      ·obtain rfl:x=p:=by simpa using hx
       exact q
     clear hp hpr hil hps
     by_cases hpn:p < (m:Int)
     ·obtain⟨pi,rfl⟩:=Int.eq_ofNat_of_zero_le hp0
      have hpi:pi < m:=by omega
      rw [Int.toNat_natCast]at Hsn
      have hpl:pi < all2.length:=by rw [Hal.out.1];exact hpi
      obtain⟨gb,ob,cc,p1,cs1,hv,_,_,hgb,hcell,hrds,hbyt⟩:=HRw.out.el hpl
      injection hv with hv1 hv2 hv3
      injection hv1 with hv1
      injection hv1 with hv1 hv4 hv5
      subst hv1 hv4
      clear hv2 hv3 hv5
      have hrr:=HRw.out.rdss.ext HEb.out
      have hso:=(Hal.out.2 _ (getD_mem (L:=all2) [] hpl)).1
      obtain⟨st0,hst0⟩:∃z,z=all2.getD pi []:=⟨_,rfl⟩
      obtain⟨pth,hpth⟩:∃pth,pth=pathD all2 pi:=⟨_,rfl⟩
      have hdg:Dig pth:=by rw [hpth];exact dig_pathG all2 pi (by rw [Hal.out.1];exact Hm.out.2.1)
      rw [<-hst0]at hcell hrds hbyt hso
      have Hsn2:=Bl.hid (Hsn.out st0 pth hst0 hpth)
      have Hbd:=Bl.hid (And.intro hso (And.intro hbyt hdg))
      have HstF:=Bl.hid hrds
      have Hcl2:=Bl.hid (And.intro hgb hcell)
      have HMk:=Bl.hid (pmake_own (.slice (some ⟨g,0,none⟩) m m) all2 pi wr hrr (HG.out.1.ext HEr.out) (fun x hx=>(Hal.out.2 x hx).2) (fun x hx=>by have:=(Hal.out.2 x hx).1;omega) (by rw [Hal.out.1];exact Hm.out.2.1) hpl)
      rw [<-hpth]at HMk
      clear hrr hcell hrds hbyt hdg hso hst0 hpth Hsn hgb hpl
      go_wp2_with fail
      refine HMk.out.mono ?_
      rintro e w5 ⟨v9,rfl,hrd9,hloc9,hE9⟩
      obtain⟨p9',c9',hv9,_,_⟩:=hrd9.form
      subst hv9
      have HGQ:=Bl.hid (HI.out.1.ext stab_okF hE9)
      have HFr:Hid (∀j,wr.heap.size<=j->j≠Y/\vr.ownBlock≠some j/\(w.heap.size+2<=j\/B<=j)):=Bl.hid fun j hj=>⟨fun q=>by have:=HBw.out;have:=HBY.out;omega,fun q=>by have:=(HI.out.1.own.block j q).2;omega,by have:=HBw.out;omega⟩
      have HPa:Hid (P0a cS 3 OkF (fun i=>w.heap.size+2<=i\/B<=i) B Y 4 ((cL ⟨4,l.id,l.obj,[],[],0,0,[],0⟩ nilV nilV nilV).set 4 vr) vr M (.slice p9' pth.length c9') pth w5):=Bl.hid ⟨⟨HGQ.out,by have:=HBw.out;have:=hE9.size;omega⟩,RdsF.of_rds hrd9 fun j hj _=>HFr.out j (hloc9 j hj)⟩
      have HE5':=Bl.hid hE9
      have HB5:Hid (B<=w5.heap.size):=Bl.hid (by have:=HBw.out;have:=hE9.size;omega)
      have Hq5:Hid (∀w2,Kq (fun k=>B<=k) w5 w2->w2.cell? ⟨Y,4,none⟩=some vr/\w2.cell? ⟨g,pi,none⟩=some (.slice p1 st0.length cs1)):=Bl.hid fun w2 hk=>⟨hk.cell (by have:=HBY.out;omega) HGQ.out.cell,hk.cell (by have:=Hcl2.out.1;have:=HBY.out;omega) (((bcell (HEb.out.trans hE9)).1 g pi Hcl2.out.1).trans (by have h:=Hcl2.out.2;rw [Nat.zero_add]at h;exact h))⟩
      have HCb:Hid (∀w2,Kq (fun k=>B<=k) w5 w2->P0a cS 3 OkF (fun i=>w.heap.size+2<=i\/B<=i) B Y 4 ((cL ⟨4,l.id,l.obj,[],[],0,0,[],0⟩ nilV nilV nilV).set 4 vr) vr M (.slice p9' pth.length c9') pth w2->Calls Tryz.prog 45 #[.slice p1 st0.length cs1] w2 fun e w'=>∃v',e= .returned v'/\P1a cS 3 OkF (fun i=>w.heap.size+2<=i\/B<=i) B Y 4 ((cL ⟨4,l.id,l.obj,[],[],0,0,[],0⟩ nilV nilV nilV).set 4 vr) vr M (.slice p9' pth.length c9') pth st0 v' w'/\Ext w2 w'):=Bl.hid fun w2 hk hp=>by
       have hrd:=(HstF.out.kept (F':=fun _=>True) (w':=w2) fun j hj hl=>⟨trivial,(hk.block j (by have:=HEb.out.size;have:=HE5'.out.size;omega) (by have:=HBY.out;omega)).trans ((HEb.out.trans HE5'.out).block j hl)⟩).rds
       refine(cloneB_any _ st0 w2 hrd (by have:=Hbd.out.1;omega)).mono ?_
       rintro e w' ⟨v',rfl,ho,hE⟩
       refine⟨v',rfl,⟨RdsF.of_rds (Rds.of_owns ho) fun j hj _=> ?_,hp.ext stab_okF hE⟩,hE⟩
       have h1:=(ho.lt j hj).1
       have h2:=hp.1.1.box.lt
       refine⟨by omega,fun q=> ?_,by have:=hp.1.2;omega⟩
       have:=(hp.1.1.own.block j q).2
       omega
      have Hm2:Hid (M.length+1<=maxLen/\(M.length+1)*56<=140737488355328):=Bl.hid (by
       have h1:=congrArg List.length HI.out.2.1
       unfold ansS at h1
       rw [List.length_map,List.length_map,List.length_take]at h1
       have:=Hnp.out
       unfold maxLen
       omega)
      have hpi0:(0:Int)<=(pi:Int):=by omega
      clear hrd9 hloc9 hE9 HMk hcl
      go_wp2_with fail
      apply wp_region_evK (Kq (fun k=>B<=k)) (ChN (P0a cS 3 OkF (fun i=>w.heap.size+2<=i\/B<=i) B Y 4 ((cL ⟨4,l.id,l.obj,[],[],0,0,[],0⟩ nilV nilV nilV).set 4 vr) vr M (.slice p9' pth.length c9') pth) [(7,84,P1a cS 3 OkF (fun i=>w.heap.size+2<=i\/B<=i) B Y 4 ((cL ⟨4,l.id,l.obj,[],[],0,0,[],0⟩ nilV nilV nilV).set 4 vr) vr M (.slice p9' pth.length c9') pth st0),(9,86,A1 cS 3 OkF (fun i=>w.heap.size+2<=i\/B<=i) B Y 4 ((cL ⟨4,l.id,l.obj,[],[],0,0,[],0⟩ nilV nilV nilV).set 4 vr) vr M (fun y=>plS y=((pi:Int),st0,pth))),(10,87,A2 cS 3 OkF (fun i=>w.heap.size+2<=i\/B<=i) B Y 4 ((cL ⟨4,l.id,l.obj,[],[],0,0,[],0⟩ nilV nilV nilV).set 4 vr) vr M (fun y=>plS y=((pi:Int),st0,pth))),(11,88,A3 cS 3 OkF (fun i=>w.heap.size+2<=i\/B<=i) B Y 4 ((cL ⟨4,l.id,l.obj,[],[],0,0,[],0⟩ nilV nilV nilV).set 4 vr) vr M (fun y=>plS y=((pi:Int),st0,pth)))]) 13 [77,78,79,80,81,82,83,84,85,86,87,88,89] [eqv _,eqv _,eqv _,eqv _,eqv _,eqv _,eqv _,anyv,eqv _,anyv,anyv,anyv,eqv _] (fun w=>Kq.refl w) (fun a b c h k=>Kq.trans h k) (by kernel_rfl) (by kernel_rfl) (by kernel_rfl) (by kernel_rfl)
      case hsteps=>
       refine⟨?_,?_,?_,?_,?_,?_,?_,?_,?_,?_,?_,?_,?_,trivial⟩
       all_goals
        intro d ev w1 hext HJd Hanc Hdes hni hb hd
        replace Hanc:=Bl.hid Hanc
        replace HJd:=Bl.hid HJd
        replace Hdes:=Bl.hid Hdes
        replace hni:=Bl.hid hni
        have e8:=hb 8 (by decide)
        have e10:=hb 10 (by decide)
        have e12:=hb 12 (by decide)
        have e13:=hb 13 (by decide)
        clear hb
        simp only [Qa,Qb,Q1,Bl.Q2,Qd]at e8 e10 e12 e13
        simp only [DepsE2,Q1,Bl.Q2,Qc,Q3,Q4,eqv,and_true]at hd
        have q3:=Hq5.out _ hext
        have k1:=q3.1
        have k2:=q3.2
        clear q3
        rw [if_pos (rfl:Region.wanted _ _=true)]
        first
        | (have h1:=(HJd.out.2 (Hanc.out 7 (by kernel_rfl))).1 hni.out;obtain⟨pb',cb',hb9,_,_⟩:=h1.1.rds.form;(with_reducible refine goodX_bld3 ?_ ?_ ?_ ?_ (buildSh3F (pi:Int) pb' p9' st0.length cb' pth.length c9' w1) ?_);exact fun w=>Kq.refl w;exact(by first | ((repeat(first | exact hd | exact hd.2 | replace hd:=hd.1));done) | (repeat(first | exact hd | exact hd.1 | replace hd:=hd.2)));exact hb9;exact(by first | ((repeat(first | exact hd | exact hd.2 | replace hd:=hd.1));done) | (repeat(first | exact hd | exact hd.1 | replace hd:=hd.2)));exact⟨trivial,ChN.s2 (P1a.a1' h1 hb9 Hbd.out.2.1 Hbd.out.2.2) (Hanc.out 7 (by kernel_rfl)) (Hdes.out 10 (by kernel_rfl)) rfl rfl⟩) | (have h2:=((HJd.out.2 (Hanc.out 7 (by kernel_rfl))).2 (Hanc.out 9 (by kernel_rfl))).1 hni.out;(with_reducible refine goodX_buildV (v:=ev 86) tShL (by decide) ?_ h2.size ?_);rfl;exact⟨Kq.of_ext (ext_alloc _ _),trivial,ChN.s3 (h2.a2 stab_okF _) (Hanc.out 7 (by kernel_rfl)) (Hanc.out 9 (by kernel_rfl)) (Hdes.out 11 (by kernel_rfl)) rfl rfl⟩) | (have h3:=(((HJd.out.2 (Hanc.out 7 (by kernel_rfl))).2 (Hanc.out 9 (by kernel_rfl))).2 (Hanc.out 10 (by kernel_rfl))).1 hni.out;(with_reducible refine goodX_a3 tShL stab_okF h3 ?_ ?_ Hm2.out.1 Hm2.out.2 ?_);rfl;exact(by first | ((repeat(first | exact hd | exact hd.2 | replace hd:=hd.1));done) | (repeat(first | exact hd | exact hd.1 | replace hd:=hd.2)));exact fun v' w' k1 k2=>⟨k1,trivial,ChN.s4 k2 (Hanc.out 7 (by kernel_rfl)) (Hanc.out 9 (by kernel_rfl)) (Hanc.out 10 (by kernel_rfl)) trivial rfl rfl⟩)
        | (go_simp;first | exact⟨Kq.refl _,rfl,HJd.out.same rfl⟩ | (go_at_call 45;have h0:=HJd.out.1 hni.out;(with_reducible refine(HCb.out w1 hext h0).mono ?_);rintro e w2 ⟨v',rfl,k1,k2⟩;exact⟨_,rfl,Kq.of_ext k2,trivial,ChN.s1 k1 (Hdes.out 9 (by kernel_rfl)) rfl⟩) | exact⟨Below.refl _ _,rfl,Bl.HJ.same (by decide) HJd.out⟩)
      case hmono=>exact⟨monoR_eqv _,monoR_eqv _,monoR_eqv _,monoR_eqv _,monoR_eqv _,monoR_eqv _,monoR_eqv _,monoR_anyv,monoR_eqv _,monoR_anyv,monoR_anyv,monoR_anyv,monoR_eqv _,trivial⟩
      case hR0=>exact Kq.drew _
      case hend=>
       intro u w1 hext hJ hend
       simp only [EndE,Q1,Bl.Q2,Qc,Q3,Q4,eqv,true_and]at hend
       simp only [fillAct,Q5,Q6,Q7,Q8,Q9,hend]
       obtain⟨y,p7,c7,hu,hpy,hcell,hfz,hG7⟩:=(((hJ.2 rfl).2 rfl).2 rfl).2 rfl
       have HG7:=Bl.hid hG7
       have HK7:=Bl.hid hext
       have Hpy:=Bl.hid hpy
       rw [hu]at HG7
       simp only [hu]
       clear hG7 hext hend hJ hu hpy
       go_wp2_with fail
       obtain⟨w8,hw8⟩:∃W,W=w1.setCell ⟨Y,4,none⟩ (.slice p7 (M.length+1) c7):=⟨_,rfl⟩
       have HK8:Hid (Kq (fun k=>k=Y\/B<=k) wr w8):=Bl.hid (by rw [hw8];exact((Kq.of_ext HE5'.out).trans (HK7.out.mono fun j _ q=> .inr q)).setCell (Q:=fun k=>k=Y\/B<=k) ⟨Y,4,none⟩ (.inl rfl) _)
       rw [<-hw8]at HG7⊢
       clear hw8 hcell hfz
       go_roundw
       case rel=>exact⟨k+1,_,M++[y],by omega,by go_num,Bl.hid ⟨by have h:=HG7.out;rw [List.set_set]at h;exact h,by rw [List.map_append,HI.out.2.1,Hsn2.out,List.map_cons,List.map_nil,Hpy.out],Htk.out hpn⟩,Bl.hid (HKr.out.trans HK8.out)⟩
       case measure=>simp [intOf];omega
      case hJ0=>exact ChN.start (HPa.out.ext stab_okF (Below.refl _ _).drew)
     ·have Hres:=Bl.hid (HfN.out k hlt (by have h:=Hp.out;omega))
      have HmkN:=Bl.hid (pmake_no (.slice (some ⟨g,0,none⟩) m m) all2 p wr (a 1) (HRw.out.rdss.ext HEb.out) ((HG.out.2.1.ext HEr.out).cell 1 HG.out.2.2.1) (fun q=>hpn (by rw [<-Hal.out.1];exact q.2.2)))
      clear Hsn Htk
      go_wp2_with fail
      clear hcl
      refine HmkN.out.mono ?_
      rintro e w5 ⟨rfl,hE5⟩
      have HBr5':=Bl.hid (HBr4.out.ext hE5)
      have HE5w:Hid (Ext w w5):=Bl.hid (HEr.out.trans hE5)
      clear hE5 HmkN
      have Hst9:=Bl.hid (HBr5'.out.store (P:=Tryz.prog) (cs':=cL lt0 nilV nilV nilV) rfl (cL_one ⟨_,_,_,rfl⟩ ⟨_,_,_,rfl⟩ ⟨_,_,_,rfl⟩) (ty:=26) (by kernel_rfl))
      have HBr9:=Bl.hid (HBr5'.out.set (cs':=cL lt0 nilV nilV nilV) rfl)
      go_wp2_with (with_reducible refine stop_store (ty:=26) ?_)
      refine go_on ?_
      refine wpL_store0 rfl rfl Hst9.out ?_
      go_wp2_with fail
      refine bodyPost_ret (v:= .tuple #[.agg (cL lt0 nilV nilV nilV).toArray,.bool false]) (results_cell2 rfl rfl (HBr9.out.loadVar (P:=Tryz.prog) Tryz.underlying26 rfl (by kernel_rfl)) rfl) rfl ?_
      unfold FgR
      rw [Hres.out]
      exact⟨_,_,_,[],rfl,LtF.nil _ _ _ _ _ _ _ _,below_setCells _ _ _ _ HE5w.out (by have:=HPR.out;omega)⟩
    ·obtain rfl:k=np:=by omega
     have HTk:Hid (l.places.take k=l.places):=Bl.hid (List.take_of_length_le (by rw [<-HN.out.1];exact Nat.le_refl _))
     obtain⟨pv,cv,hvr⟩:=HI.out.1.form
     subst hvr
     have HG7:=Bl.hid HI.out.1
     have Hsl:Hid (M.map plS=ansS all2 l.places):=Bl.hid (by have h:=HI.out.2.1;rw [HTk.out]at h;exact h)
     have Hres:=Bl.hid (HfY.out (by have h:=HI.out.2.2;rw [HTk.out]at h;exact h))
     have HLt:Hid (LtF (fun i=>i≠R0) wr (ansL l all2) nilV (.slice pv M.length cv) nilV M):=Bl.hid ⟨RdsF.nil _,RdsF.of_rds HG7.out.own.rds fun j hj _=>by have:=(HG7.out.own.block j hj).1;have:=HBY.out;omega,fun x hx=>stab_okF _ _ _ _ _ (HG7.out.ok x hx) fun j hj hl=>⟨by rcases hj.2.2 with q | q;have:=HPR.out;omega;have:=HBY.out;omega,rfl⟩,Hsl.out,[],RdsF.nil _,fun x hx=>(by cases hx),rfl⟩
     have HBy:Hid (BoxC wr Y (cL (ansL l all2) nilV (.slice pv M.length cv) nilV)):=Bl.hid HG7.out.box
     have Hl9:=Bl.hid (HBy.out.load (P:=Tryz.prog) Tryz.underlying26 rfl (by kernel_rfl))
     have Hst9:=Bl.hid (HBr4.out.store (P:=Tryz.prog) (cs':=cL (ansL l all2) nilV (.slice pv M.length cv) nilV) rfl (cL_one ⟨_,_,_,rfl⟩ ⟨_,_,_,rfl⟩ ⟨_,_,_,rfl⟩) (ty:=26) (by kernel_rfl))
     have HBr9:=Bl.hid (HBr4.out.set (cs':=cL (ansL l all2) nilV (.slice pv M.length cv) nilV) rfl)
     clear HI hlt
     go_wp2_with (with_reducible refine stop_load (ty:=26) ?_)
     refine go_on ?_
     refine wpL_load rfl Hl9.out ?_
     go_wp2_with (with_reducible refine stop_store (ty:=26) ?_)
     refine go_on ?_
     refine wpL_store0 rfl rfl Hst9.out ?_
     go_wp2_with fail
     refine bodyPost_ret (v:= .tuple #[.agg (cL (ansL l all2) nilV (.slice pv M.length cv) nilV).toArray,.bool true]) (results_cell2 rfl rfl (HBr9.out.loadVar (P:=Tryz.prog) Tryz.underlying26 rfl (by kernel_rfl)) rfl) rfl ?_
     unfold FgR
     rw [Hres.out]
     exact⟨_,_,_,M,rfl,HLt.out.kept fun i hi hl=>⟨trivial,exc_setCells _ _ _ (Exc.refl _ _) i hi⟩,below_setCells _ _ _ _ HEr.out (by have:=HPR.out;omega)⟩
  case hJ0=>trivial
end Go.Proofs.YtglenbikdahgjaaGreatDoor
