/- Walk of the document's Handle of a Put. -/
import Derived.Test.YtglenbikdahgjaaGreatDoorPk36
import Derived.Test.YtglenbikdahgjaaGreatDoorPk23
import Derived.Test.YtglenbikdahgjaaGreatDoorPk20
import Derived.Test.YtglenbikdahgjaaGreatDoorPk18
set_option maxRecDepth 100000
set_option maxHeartbeats 16000000
namespace Go.Proofs.YtglenbikdahgjaaGreatDoor
open Go Go.RowKit Go.Proofs Go.Proofs.Bl
theorem tObR:SlT Tryz.prog 34 95 (.agg #[.int .i64 0,.slice none 0 0]) 2 32:=⟨Tryz.underlying34,by kernel_rfl,rfl,by decide⟩
theorem buildOb (x:Int) (q:Option Addr) (n c:Nat) (w:World):(Instr.build 95 #[(0,.int .i64 x),(1,.slice q n c)]).run Tryz.prog w= .ok (.agg #[.int .i64 x,.slice q n c]) w:=run_build w _ _ _ (by kernel_rfl)
theorem mhan_put (F:Nat->Prop) (b:Nat) (s:ShT) (l:Bl.LT) (vp vs vb:Value) (L:List Sv) (w:World) (hD:DvX F w b s) (hF:∀i,F i->i < w.heap.size) (hok:ShOk s) (hL:LtF F w l vp vs vb L) (hi:s.ids.length<=1048576) (hg:GlobR w) (hck:chkL l=0) (hk:l.kind=1):
  Calls Tryz.prog 11 #[.pointer (some ⟨b,0,none⟩),.agg (cL l vp vs vb).toArray] w fun e w'=>DhR F b s l w e w':=by
 have Hck:=Bl.hid hck
 have Hk:=Bl.hid hk
 clear hck hk
 obtain⟨vo,va,D,hR⟩:=hD
 have hnb:=hR.nb
 have hbw:=hR.bx.lt
 have hLc:=hL.ltc
 obtain⟨pp,cp,hvp,hp1,hp2⟩:=hLc.pl.form
 obtain⟨ps,csn,hvs,_,_⟩:=hLc.sh.rd.form
 obtain⟨pb,cb,hvb,_,_⟩:=hLc.bl.form
 obtain⟨po,co,hvo,hpo1,hpo2⟩:=hR.ro.rds.form
 obtain⟨np,hnp⟩:∃z,z=l.places.length:=⟨_,rfl⟩
 obtain⟨ns,hns⟩:∃z,z=L.length:=⟨_,rfl⟩
 obtain⟨nb,hnbl⟩:∃z,z=l.blocks.length:=⟨_,rfl⟩
 obtain⟨N,hN⟩:∃z,z=D.length:=⟨_,rfl⟩
 rw [<-hnp]at hvp hp1
 rw [<-hns]at hvs
 rw [<-hnbl]at hvb
 rw [<-hN]at hvo hpo1
 subst hvp hvs hvb hvo
 have HN:Hid (np=l.places.length/\ns=L.length/\nb=l.blocks.length/\N=D.length/\N=s.objs.length/\N<=4):=Bl.hid ⟨hnp,hns,hnbl,hN,hN.trans hR.len,by rw [hN,hR.len];exact hok.ln⟩
 have HL:=Bl.hid hL
 have HR:=Bl.hid hR
 have Hok:=Bl.hid hok
 have Hg:=Bl.hid hg
 have Hids:=Bl.hid hi
 have HF:Hid ((∀i,F i->i < w.heap.size)/\¬F b/\b < w.heap.size):=Bl.hid ⟨hF,hnb,hbw⟩
 obtain⟨W1,hW1⟩:∃W1,W1=(w.alloc (.cells (cL l (.slice pp np cp) (.slice ps ns csn) (.slice pb nb cb)).toArray 43)).alloc (.cells zL 43):=⟨_,rfl⟩
 have hE1:Ext w W1:=by rw [hW1];exact(ext_alloc _ _).trans (ext_alloc _ _)
 have hsz1:W1.heap.size=w.heap.size+1+1:=by rw [hW1,World.size_alloc,World.size_alloc]
 have hBl:BoxC W1 w.heap.size (cL l (.slice pp np cp) (.slice ps ns csn) (.slice pb nb cb)):=by rw [hW1];exact(BoxC.box w 43 (cL_ne _ _ _ _)).ext (ext_alloc _ _)
 have hBr:BoxC W1 (w.heap.size+1) zL.toList:=by rw [hW1];exact box2 w _ zL.toList _ _ (fun h=>by cases h)
 obtain⟨R0,hR0⟩:∃R0,R0=w.heap.size+1:=⟨_,rfl⟩
 obtain⟨P0,hP0⟩:∃P0,P0=w.heap.size:=⟨_,rfl⟩
 rw [<-hR0]at hBr
 rw [<-hP0]at hBl
 have HE1:=Bl.hid hE1
 have HBl:=Bl.hid hBl
 have HBr:=Bl.hid hBr
 have HPR:Hid (P0=w.heap.size/\R0=w.heap.size+1/\W1.heap.size=w.heap.size+1+1):=Bl.hid ⟨hP0,hR0,hsz1⟩
 have Hld:=Bl.hid (hBl.load (P:=Tryz.prog) Tryz.underlying43 rfl (by kernel_rfl))
 have HCk:=Bl.hid (rcheck_any _ l W1 (LtV.ext ⟨_,_,_,_,_,rfl,hLc⟩ hE1))
 unfold cL at hW1
 clear hR hnb hbw hLc hnp hns hnbl hN hL hok hg hi hF hE1 hsz1 hBl hBr hR0 hP0
 show Calls Tryz.prog 11 #[.pointer (some ⟨b,0,none⟩),.agg #[.int .i64 l.kind,.int .i64 l.id,.int .i64 l.obj,.slice pp np cp,.slice ps ns csn,.int .i64 l.frm,.int .i64 l.cnt,.slice pb nb cb,.int .i64 l.code]] w _
 go_enter Tryz.func11,Tryz.ntmps11
 go_wp2_with (with_reducible refine stop_load (ty:=43) ?_)
 rw [<-hW1]
 rw [show w.heap.size+1=R0 from HPR.out.2.1.symm,show w.heap.size=P0 from HPR.out.1.symm]
 clear hW1
 refine go_on ?_
 refine wpL_load rfl Hld.out ?_
 go_wp2_with fail
 rw [Hck.out]at HCk
 refine HCk.out.mono ?_
 rintro e w2 ⟨rfl,hE2⟩
 have HE2:Hid (Ext w w2):=Bl.hid (HE1.out.trans hE2)
 have HBl2:=Bl.hid (HBl.out.ext hE2)
 have HBr2:=Bl.hid (HBr.out.ext hE2)
 have HW2:Hid (w.heap.size+2<=w2.heap.size):=Bl.hid (by have:=hE2.size;have:=HPR.out;omega)
 have hx0:w2.cell? ⟨P0,0,none⟩=some (.int .i64 1):=by have h:=HBl2.out.cell (i:=0) (v:= .int .i64 l.kind) rfl;rw [Hk.out]at h;exact h
 have hx1:=HBl2.out.cell (i:=1) (v:= .int .i64 l.id) rfl
 have hx2:=HBl2.out.cell (i:=2) (v:= .int .i64 l.obj) rfl
 clear hE2 HCk HBl HBr Hld HE1
 obtain⟨hHNo3,hHE3a⟩:=BoxC.fresh (cs:=cL ⟨7,l.id,l.obj,[],[],0,0,[],0⟩ nilV nilV nilV) w2 43 zL rfl (cL_ne _ _ _ _)
 have Hstn:=Bl.hid (fresh_store (P:=Tryz.prog) (cs:=cL ⟨7,l.id,l.obj,[],[],0,0,[],0⟩ nilV nilV nilV) w2 43 zL rfl (cL_one ⟨_,_,_,rfl⟩ ⟨_,_,_,rfl⟩ ⟨_,_,_,rfl⟩) (ty:=43) (by kernel_rfl))
 go_wp2_with (with_reducible refine stop_store (ty:=43) ?_)
 refine go_on ?_
 refine wpL_store0 rfl rfl Hstn.out ?_
 obtain⟨W3,hW3⟩:∃W,W=(w2.alloc (.cells zL 43)).setCells w2.heap.size 0 (cL ⟨7,l.id,l.obj,[],[],0,0,[],0⟩ nilV nilV nilV):=⟨_,rfl⟩
 obtain⟨N0,hN0⟩:∃W,W=w2.heap.size:=⟨_,rfl⟩
 rw [<-hW3]at hHNo3 hHE3a⊢
 rw [<-hN0]at hHNo3⊢
 have HNo3:=Bl.hid hHNo3
 have HE3a:=Bl.hid hHE3a
 have HN0:=Bl.hid hN0
 clear hHNo3 hHE3a hW3 hN0 Hstn
 have HE3:Hid (Ext w W3):=Bl.hid (HE2.out.trans HE3a.out)
 have HBl3:=Bl.hid (HBl2.out.ext HE3a.out)
 have HBr3:=Bl.hid (HBr2.out.ext HE3a.out)
 have HNo:Hid (w.heap.size+2<=N0/\N0 < W3.heap.size):=Bl.hid ⟨by have:=HN0.out;have:=HW2.out;omega,HNo3.out.lt⟩
 clear hx0 hx1 hx2 HE3a HBl2 HBr2 HE2 HN0
 have hx2:=HBl3.out.cell (i:=2) (v:= .int .i64 l.obj) rfl
 go_wp2_with fail
 refine(mfind_any F b (.slice po N co) va D s l.obj W3 (HR.out.ext HE3.out)).mono ?_
 rintro e w4 ⟨⟨r,rfl,hr⟩,hE4⟩
 have HE4:Hid (Ext w w4):=Bl.hid (HE3.out.trans hE4)
 have HBl4:=Bl.hid (HBl3.out.ext hE4)
 have HBr4:=Bl.hid (HBr3.out.ext hE4)
 have HNo4:=Bl.hid (HNo3.out.ext hE4)
 have HW4:Hid (W3.heap.size<=w4.heap.size):=Bl.hid hE4.size
 have Hr:=Bl.hid hr
 have hx0:w4.cell? ⟨P0,0,none⟩=some (.int .i64 1):=by have h:=HBl4.out.cell (i:=0) (v:= .int .i64 l.kind) rfl;rw [Hk.out]at h;exact h
 clear hx2 hE4 HBl3 HBr3 HNo3 HE3 hr
 have hx1:=HBl4.out.cell (i:=1) (v:= .int .i64 l.id) rfl
 have hx2:=HBl4.out.cell (i:=2) (v:= .int .i64 l.obj) rfl
 obtain⟨hHA5,hHE5a⟩:=BoxC.fresh (cs:=cL ⟨2,l.id,l.obj,[],[],0,0,[],0⟩ nilV nilV nilV) w4 43 zL rfl (cL_ne _ _ _ _)
 have Hstn:=Bl.hid (fresh_store (P:=Tryz.prog) (cs:=cL ⟨2,l.id,l.obj,[],[],0,0,[],0⟩ nilV nilV nilV) w4 43 zL rfl (cL_one ⟨_,_,_,rfl⟩ ⟨_,_,_,rfl⟩ ⟨_,_,_,rfl⟩) (ty:=43) (by kernel_rfl))
 go_wp2_with (with_reducible refine stop_store (ty:=43) ?_)
 refine go_on ?_
 refine wpL_store0 rfl rfl Hstn.out ?_
 obtain⟨W5,hW5⟩:∃W,W=(w4.alloc (.cells zL 43)).setCells w4.heap.size 0 (cL ⟨2,l.id,l.obj,[],[],0,0,[],0⟩ nilV nilV nilV):=⟨_,rfl⟩
 obtain⟨A0,hA0⟩:∃W,W=w4.heap.size:=⟨_,rfl⟩
 rw [<-hW5]at hHA5 hHE5a⊢
 rw [<-hA0]at hHA5⊢
 have HA5:=Bl.hid hHA5
 have HE5a:=Bl.hid hHE5a
 have HA0:=Bl.hid hA0
 clear hHA5 hHE5a hW5 hA0 Hstn
 have HE5:Hid (Ext w W5):=Bl.hid (HE4.out.trans HE5a.out)
 have HBl5:=Bl.hid (HBl4.out.ext HE5a.out)
 have HBr5:=Bl.hid (HBr4.out.ext HE5a.out)
 have HNo5:=Bl.hid (HNo4.out.ext HE5a.out)
 obtain⟨BB,hBB⟩:∃BB,BB=W5.heap.size:=⟨_,rfl⟩
 have HAo:Hid (w.heap.size<=P0/\P0 < R0/\R0 < N0/\N0 < A0/\A0 < BB/\w.heap.size<=BB/\BB=W5.heap.size/\b < P0):=Bl.hid (by have:=HA0.out;have:=HNo.out;have:=HW4.out;have:=HPR.out;have:=HA5.out.lt;have:=HF.out.2.2;omega)
 clear hx0 hx1 hx2 HE5a HBl4 HBr4 HNo4 HA0 hBB
 have hx1:=HBl5.out.cell (i:=1) (v:= .int .i64 l.id) rfl
 obtain⟨fr,hfr⟩:∃fr,fr=freI s.ids l.id:=⟨_,rfl⟩
 have Hfr:=Bl.hid hfr
 have HDs:Hid (∀w2,Ext W5 w2->Calls Tryz.prog 42 #[.pointer (some ⟨b,1,none⟩),.int .i64 l.id] w2 fun e w'=>e= .returned (.bool fr)/\(∃va',DvR (fun i=>F i\/BB<=i) w' b (.slice po N co) va' D ⟨s.objs,idsL s l⟩)/\Kq (fun i=>i=b) w2 w'/\KC2 b w2 w'):=Bl.hid fun w2 h2=>by
  refine(mfresh_any F b (.slice po N co) va D s l.id w2 (HR.out.ext (HE5.out.trans h2)) Hids.out).mono ?_
  rintro e w' ⟨h1,⟨va',h3⟩,h4,h5⟩
  refine⟨by rw [hfr];exact h1,⟨va',h3.mono (fun i q _=>q.imp id fun q=>by have:=h2.size;have:=HAo.out;omega) fun q=> ?_⟩,h4,h5⟩
  rcases q with q | q
  ·exact HF.out.2.1 q
  ·have:=HAo.out;omega
 have Hq5:Hid (∀w2,Kq (fun i=>i=b) W5 w2->w2.cell? ⟨P0,1,none⟩=some (.int .i64 l.id)):=Bl.hid fun w2 hk=>hk.cell (fun q=>by have:=HAo.out;omega) hx1
 clear hfr hx1
 go_wp2_with fail
 apply wp_region_evK (Kq (fun i=>i=b)) (ChN (fun w2=>Ext W5 w2) [(5,57,fun v w2=>v= .bool fr/\(∃va',DvR (fun i=>F i\/BB<=i) w2 b (.slice po N co) va' D ⟨s.objs,idsL s l⟩)/\KC2 b W5 w2)]) 6 [52,53,54,55,56,57] [eqv _,eqv _,eqv _,eqv _,eqv _,eqv _] (fun w=>Kq.refl w) (fun a b c h k=>Kq.trans h k) (by kernel_rfl) (by kernel_rfl) (by kernel_rfl) (by kernel_rfl)
 case hsteps=>
  refine⟨?_,?_,?_,?_,?_,?_,trivial⟩
  all_goals
   intro d ev w1 hext HJd Hanc Hdes hni hb hd
   replace Hanc:=Bl.hid Hanc
   replace HJd:=Bl.hid HJd
   replace Hdes:=Bl.hid Hdes
   replace hni:=Bl.hid hni
   have e0:=hb 0 (by decide)
   have e3:=hb 3 (by decide)
   clear hb
   simp only [Qa,Qb,Q1,Bl.Q2,Qd]at e0 e3
   simp only [DepsE2,Q1,Bl.Q2,Qc,Q3,Q4,eqv,and_true]at hd
   have c1:=Hq5.out _ hext
   rw [if_pos (rfl:Region.wanted _ _=true)]
   go_simp
   first | exact⟨Kq.refl _,rfl,HJd.out.same rfl⟩ | (go_at_call 42;have h0:=HJd.out.1 hni.out;(with_reducible refine(HDs.out w1 h0).mono ?_);rintro e w2 ⟨rfl,h1,h2,h3⟩;exact⟨_,rfl,h2,rfl,ChN.s1 (And.intro rfl (And.intro h1 ((KC2.of_ext h0).trans h3))) trivial rfl⟩) | exact⟨Below.refl _ _,rfl,Bl.HJ.same (by decide) HJd.out⟩
 case hmono=>exact⟨monoR_eqv _,monoR_eqv _,monoR_eqv _,monoR_eqv _,monoR_eqv _,monoR_eqv _,trivial⟩
 case hR0=>exact Kq.drew _
 case hend=>
  intro u w1 hext hJ hend
  simp only [EndE,Q1,Bl.Q2,Qc,Q3,Q4,eqv,true_and]at hend
  simp only [fillAct,Q5,Q6,Q7,Q8,Q9,hend]
  obtain⟨_,⟨va2,hR6⟩,hC6⟩:=hJ.2 rfl
  obtain⟨w6,hw6⟩:∃W,W=w1:=⟨_,rfl⟩
  rw [<-hw6]at hext hR6 hC6⊢
  have HR6:=Bl.hid hR6
  have HK6:=Bl.hid hext
  have HKw:Hid (Kb b w w6):=Bl.hid ((Kb.of_ext HE5.out).own hext hC6)
  have HBl6:=Bl.hid (hext.box (fun q=>by have:=HAo.out;omega) HBl5.out)
  have HBr6:=Bl.hid (hext.box (fun q=>by have:=HAo.out;omega) HBr5.out)
  have HNo6:=Bl.hid (hext.box (fun q=>by have:=HAo.out;omega) HNo5.out)
  have HA6:=Bl.hid (hext.box (fun q=>by have:=HAo.out;omega) HA5.out)
  have HLb:Hid (RowF (fun i=>F i\/BB<=i) w6 (.slice pb nb cb) l.blocks):=Bl.hid (RowF.kept HL.out.rowF fun i hi hl=>⟨.inl hi,((Kq.of_ext HE5.out).trans (hext.mono (Q':=fun i=>i=b) fun i _ q=>q)).block i hl fun q=>HF.out.2.1 (by rw [<-show i=b from q];exact hi)⟩)
  have HBw:Hid (BB<=w6.heap.size):=Bl.hid (by have:=hext.size;have:=HAo.out;omega)
  have Hput:Hid (hanL s l=(putL s l,true)/\hanS s l=putS s l):=Bl.hid (by unfold hanL hanS;rw [if_pos Hck.out,if_pos Hk.out,if_pos ⟨Hck.out,Hk.out⟩];exact⟨rfl,rfl⟩)
  clear hend hJ hext hR6 hC6 hw6 HDs Hq5 HBl5 HBr5 HNo5 HA5
  have hx7:=HBl6.out.cell (i:=7) (v:= .slice pb nb cb) rfl
  have hx2:=HBl6.out.cell (i:=2) (v:= .int .i64 l.obj) rfl
  have hxl:=HBl6.out.lt
  have hr:=Hr.out
  rcases hr with ⟨i,hi,rfl,h1,h2⟩ | ⟨rfl,h2⟩
  ·have Hg1:=Bl.hid (HR.out.some hi h1 h2)
   obtain⟨g,o,c,hvo,_,_,hgl,hel⟩:=HR6.out.pos (Nat.lt_of_le_of_lt (Nat.zero_le _) hi)
   rw [<-HN.out.2.2.2.1]at hvo
   injection hvo with hvo1 _ hvo3
   subst hvo1 hvo3
   have hrg:=hel i hi
   have Hok6:Hid (RowF (fun i=>F i\/BB<=i) w6 (D.getD i o0).2.1 (D.getD i o0).2.2):=Bl.hid (HR6.out.ok _ (getD_mem o0 hi))
   obtain⟨q1,c1,hf1,_,_⟩:=Hok6.out.form
   have hc1:w6.cell? ⟨g,o+i*2+1,none⟩=some (.slice q1 (D.getD i o0).2.2.length c1):=by rw [hrg 1 _ rfl,hf1]
   rw [hf1]at Hok6
   have hc0:=HR6.out.bx.cell (i:=0) (v:= .slice (some ⟨g,o,none⟩) N co) rfl
   have hbl:=HR6.out.bx.lt
   obtain⟨st,hst⟩:∃st,st=(D.getD i o0).2.2:=⟨_,rfl⟩
   rw [<-hst]at Hok6 hc1 Hg1
   obtain⟨m,hm⟩:∃m,m=st.length:=⟨_,rfl⟩
   rw [<-hm]at Hok6 hc1
   obtain⟨eq,heq⟩:∃eq,eq=decide (st=l.blocks):=⟨_,rfl⟩
   have HSl:Hid (∀w2,Ext w6 w2->Calls Tryz.prog 31 #[.slice q1 m c1,.slice pb nb cb] w2 fun e w'=>e= .returned (.bool eq)/\Ext w2 w'):=Bl.hid fun w2 hE=>by
    have h:=samelists_any (.slice q1 m c1) (.slice pb nb cb) st l.blocks w2 (Rdss.ext Hok6.out.rdss hE) (Rdss.ext HLb.out.rdss hE) Hok6.out.byt HLb.out.byt
    rw [<-heq]at h
    exact h
   have Heq:=Bl.hid heq
   have hi0:(0:Int)<=(i:Int):=by omega
   have hiN:i < N:=by rw [HN.out.2.2.2.1];exact hi
   have hi1:(i:Int) < (N:Int):=by omega
   have hi2:¬(i:Int) < 0:=by omega
   have HpS:Hid (putS s l=⟨s.objs,idsL s l⟩):=Bl.hid (by unfold putS;rw [Hg1.out])
   have HpA:Hid ((fr=false\/eq=true)->hanL s l=(⟨2,l.id,l.obj,[],[],0,0,[],0⟩,true)):=Bl.hid fun q=>by
    rw [Hput.out.1]
    unfold putL
    rw [Hg1.out]
    simp only
    rw [if_pos (q.imp (fun q=>by rw [<-Hfr.out];exact q) fun q=>by rw [Heq.out]at q;exact of_decide_eq_true q)]
    rfl
   have HpN:Hid (fr=true->eq=false->hanL s l=(⟨7,l.id,l.obj,[],[],0,0,[],10⟩,true)):=Bl.hid fun q q2=>by
    rw [Hput.out.1]
    unfold putL
    rw [Hg1.out]
    simp only
    rw [if_neg (fun z=>by
     rcases z with z | z
     ·rw [<-Hfr.out,q]at z;cases z
     ·rw [Heq.out]at q2;exact of_decide_eq_false q2 z)]
    rfl
   have HsS:Hid (hanS s l=⟨s.objs,idsL s l⟩):=Bl.hid (Hput.out.2.trans HpS.out)
   clear h1 h2 hel hrg hf1 hst hm heq hi HpS Hput
   cases fr with
   | false=>
    have Hres:Hid (hanL s l=(⟨2,l.id,l.obj,[],[],0,0,[],0⟩,true)/\hanS s l=⟨s.objs,idsL s l⟩):=Bl.hid ⟨HpA.out (.inl rfl),HsS.out⟩
    clear hx2
    go_wp2_with fail
    apply wp_region_ev 14 [60,61,62,63,64,65,66,67,68,69,70,71,72,73] [eqv _,eqv _,eqv _,eqv _,eqv _,eqv _,eqv _,eqv _,eqv _,eqv _,eqv _,eqv _,eqv _,eqv _] (by kernel_rfl) (by kernel_rfl) (by kernel_rfl) (by kernel_rfl)
    case hsteps=>
     refine⟨?_,?_,?_,?_,?_,?_,?_,?_,?_,?_,?_,?_,?_,?_,trivial⟩
     all_goals
      intro ev w1 hext hb hd
      have e0:=hb 0 (by decide)
      have e3:=hb 3 (by decide)
      have e7:=hb 7 (by decide)
      have e9:=hb 9 (by decide)
      clear hb
      simp only [Qa,Qb,Q1,Bl.Q2,Qd]at e0 e3 e7 e9
      simp only [DepsE,Q1,Bl.Q2,Qc,Q3,Q4,eqv,and_true]at hd
      have hc:=(bcell hext).1
      have k0:=(hc _ 0 hbl).trans hc0
      have k1:=(hc _ (o+i*2+1) hgl).trans hc1
      have k7:=(hc _ 7 hxl).trans hx7
      simp only [Bl.Good,Region.wanted,yieldE,List.getElem?_cons_succ,List.getElem?_cons_zero,Option.bind_some,hd,if_true]
      go_simp
      first | (go_at_call 31;(with_reducible refine(HSl.out _ hext).mono ?_);rintro e w2 ⟨rfl,hE2⟩;exact⟨_,rfl,hE2,rfl⟩) | exact rfl | exact⟨Below.refl _ _,rfl⟩ | exact⟨Below.refl _ _,rfl⟩
    case hmono=>exact⟨mono_eqv _,mono_eqv _,mono_eqv _,mono_eqv _,mono_eqv _,mono_eqv _,mono_eqv _,mono_eqv _,mono_eqv _,mono_eqv _,mono_eqv _,mono_eqv _,mono_eqv _,mono_eqv _,trivial⟩
    case hend=>
     intro u w1 hext hend
     simp only [EndE,Q1,Bl.Q2,Qc,Q3,Q4,eqv,true_and]at hend
     simp only [fillAct,Q5,Q6,Q7,Q8,Q9,hend]
     obtain⟨w7,hw7⟩:∃W,W=w1:=⟨_,rfl⟩
     rw [<-hw7]at hext⊢
     have HE7:=Bl.hid hext
     have HKw7:Hid (Kb b w w7):=Bl.hid (HKw.out.ext hext)
     have HBr7:=Bl.hid (HBr6.out.ext hext)
     have HNo7:=Bl.hid (HNo6.out.ext hext)
     have HA7:=Bl.hid (HA6.out.ext hext)
     have HR7:=Bl.hid (HR6.out.ext hext)
     clear hext hend hw7
     have Hl9:=Bl.hid (HA7.out.load (P:=Tryz.prog) Tryz.underlying43 rfl (by kernel_rfl))
     have Hst9:=Bl.hid (HBr7.out.store (P:=Tryz.prog) (cs':=cL ⟨2,l.id,l.obj,[],[],0,0,[],0⟩ nilV nilV nilV) rfl (cL_one ⟨_,_,_,rfl⟩ ⟨_,_,_,rfl⟩ ⟨_,_,_,rfl⟩) (ty:=43) (by kernel_rfl))
     have HBr9:=Bl.hid (HBr7.out.set (cs':=cL ⟨2,l.id,l.obj,[],[],0,0,[],0⟩ nilV nilV nilV) rfl)
     go_wp2_with (with_reducible refine stop_load (ty:=43) ?_)
     refine go_on ?_
     refine wpL_load rfl Hl9.out ?_
     go_wp2_with (with_reducible refine stop_store (ty:=43) ?_)
     refine go_on ?_
     refine wpL_store0 rfl rfl Hst9.out ?_
     go_wp2_with fail
     refine bodyPost_ret (v:= .tuple #[.agg (cL ⟨2,l.id,l.obj,[],[],0,0,[],0⟩ nilV nilV nilV).toArray,.bool true]) (results_cell2 rfl rfl (HBr9.out.loadVar (P:=Tryz.prog) Tryz.underlying43 rfl (by kernel_rfl)) rfl) rfl ?_
     unfold DhR
     rw [Hres.out.1,Hres.out.2]
     exact⟨_,_,_,_,rfl,Dh.fin HF.out (by have:=HAo.out;omega) HKw7.out (LtF.nil _ _ _ _ _ _ _ _) ⟨_,_,_,HR7.out⟩ _⟩
   | true=>
    cases eq with
    | true=>
     have Hres:Hid (hanL s l=(⟨2,l.id,l.obj,[],[],0,0,[],0⟩,true)/\hanS s l=⟨s.objs,idsL s l⟩):=Bl.hid ⟨HpA.out (.inr rfl),HsS.out⟩
     clear hx2
     go_wp2_with fail
     apply wp_region_ev 14 [60,61,62,63,64,65,66,67,68,69,70,71,72,73] [eqv _,eqv _,eqv _,eqv _,eqv _,eqv _,eqv _,eqv _,eqv _,eqv _,eqv _,eqv _,eqv _,eqv _] (by kernel_rfl) (by kernel_rfl) (by kernel_rfl) (by kernel_rfl)
     case hsteps=>
      refine⟨?_,?_,?_,?_,?_,?_,?_,?_,?_,?_,?_,?_,?_,?_,trivial⟩
      all_goals
       intro ev w1 hext hb hd
       have e0:=hb 0 (by decide)
       have e3:=hb 3 (by decide)
       have e7:=hb 7 (by decide)
       have e9:=hb 9 (by decide)
       clear hb
       simp only [Qa,Qb,Q1,Bl.Q2,Qd]at e0 e3 e7 e9
       simp only [DepsE,Q1,Bl.Q2,Qc,Q3,Q4,eqv,and_true]at hd
       have hc:=(bcell hext).1
       have k0:=(hc _ 0 hbl).trans hc0
       have k1:=(hc _ (o+i*2+1) hgl).trans hc1
       have k7:=(hc _ 7 hxl).trans hx7
       simp only [Bl.Good,Region.wanted,yieldE,List.getElem?_cons_succ,List.getElem?_cons_zero,Option.bind_some,hd,beq_self_eq_true,if_true]
       go_simp
       first | (go_at_call 31;(with_reducible refine(HSl.out _ hext).mono ?_);rintro e w2 ⟨rfl,hE2⟩;exact⟨_,rfl,hE2,rfl⟩) | exact rfl | exact⟨Below.refl _ _,rfl⟩ | exact⟨Below.refl _ _,rfl⟩
     case hmono=>exact⟨mono_eqv _,mono_eqv _,mono_eqv _,mono_eqv _,mono_eqv _,mono_eqv _,mono_eqv _,mono_eqv _,mono_eqv _,mono_eqv _,mono_eqv _,mono_eqv _,mono_eqv _,mono_eqv _,trivial⟩
     case hend=>
      intro u w1 hext hend
      simp only [EndE,Q1,Bl.Q2,Qc,Q3,Q4,eqv,true_and]at hend
      simp only [fillAct,Q5,Q6,Q7,Q8,Q9,hend]
      obtain⟨w7,hw7⟩:∃W,W=w1:=⟨_,rfl⟩
      rw [<-hw7]at hext⊢
      have HE7:=Bl.hid hext
      have HKw7:Hid (Kb b w w7):=Bl.hid (HKw.out.ext hext)
      have HBr7:=Bl.hid (HBr6.out.ext hext)
      have HNo7:=Bl.hid (HNo6.out.ext hext)
      have HA7:=Bl.hid (HA6.out.ext hext)
      have HR7:=Bl.hid (HR6.out.ext hext)
      clear hext hend hw7
      have Hl9:=Bl.hid (HA7.out.load (P:=Tryz.prog) Tryz.underlying43 rfl (by kernel_rfl))
      have Hst9:=Bl.hid (HBr7.out.store (P:=Tryz.prog) (cs':=cL ⟨2,l.id,l.obj,[],[],0,0,[],0⟩ nilV nilV nilV) rfl (cL_one ⟨_,_,_,rfl⟩ ⟨_,_,_,rfl⟩ ⟨_,_,_,rfl⟩) (ty:=43) (by kernel_rfl))
      have HBr9:=Bl.hid (HBr7.out.set (cs':=cL ⟨2,l.id,l.obj,[],[],0,0,[],0⟩ nilV nilV nilV) rfl)
      go_wp2_with (with_reducible refine stop_load (ty:=43) ?_)
      refine go_on ?_
      refine wpL_load rfl Hl9.out ?_
      go_wp2_with (with_reducible refine stop_store (ty:=43) ?_)
      refine go_on ?_
      refine wpL_store0 rfl rfl Hst9.out ?_
      go_wp2_with fail
      refine bodyPost_ret (v:= .tuple #[.agg (cL ⟨2,l.id,l.obj,[],[],0,0,[],0⟩ nilV nilV nilV).toArray,.bool true]) (results_cell2 rfl rfl (HBr9.out.loadVar (P:=Tryz.prog) Tryz.underlying43 rfl (by kernel_rfl)) rfl) rfl ?_
      unfold DhR
      rw [Hres.out.1,Hres.out.2]
      exact⟨_,_,_,_,rfl,Dh.fin HF.out (by have:=HAo.out;omega) HKw7.out (LtF.nil _ _ _ _ _ _ _ _) ⟨_,_,_,HR7.out⟩ _⟩
    | false=>
     have Hres:Hid (hanL s l=(⟨7,l.id,l.obj,[],[],0,0,[],10⟩,true)/\hanS s l=⟨s.objs,idsL s l⟩):=Bl.hid ⟨HpN.out rfl rfl,HsS.out⟩
     clear hx2
     go_wp2_with fail
     apply wp_region_ev 14 [60,61,62,63,64,65,66,67,68,69,70,71,72,73] [eqv _,eqv _,eqv _,eqv _,eqv _,eqv _,eqv _,eqv _,eqv _,eqv _,eqv _,eqv _,eqv _,eqv _] (by kernel_rfl) (by kernel_rfl) (by kernel_rfl) (by kernel_rfl)
     case hsteps=>
      refine⟨?_,?_,?_,?_,?_,?_,?_,?_,?_,?_,?_,?_,?_,?_,trivial⟩
      all_goals
       intro ev w1 hext hb hd
       have e0:=hb 0 (by decide)
       have e3:=hb 3 (by decide)
       have e7:=hb 7 (by decide)
       have e9:=hb 9 (by decide)
       clear hb
       simp only [Qa,Qb,Q1,Bl.Q2,Qd]at e0 e3 e7 e9
       simp only [DepsE,Q1,Bl.Q2,Qc,Q3,Q4,eqv,and_true]at hd
       have hc:=(bcell hext).1
       have k0:=(hc _ 0 hbl).trans hc0
       have k1:=(hc _ (o+i*2+1) hgl).trans hc1
       have k7:=(hc _ 7 hxl).trans hx7
       simp only [Bl.Good,Region.wanted,yieldE,List.getElem?_cons_succ,List.getElem?_cons_zero,Option.bind_some,hd,beq_self_eq_true,if_true]
       go_simp
       first | (go_at_call 31;(with_reducible refine(HSl.out _ hext).mono ?_);rintro e w2 ⟨rfl,hE2⟩;exact⟨_,rfl,hE2,rfl⟩) | exact rfl | exact⟨Below.refl _ _,rfl⟩ | exact⟨Below.refl _ _,rfl⟩
     case hmono=>exact⟨mono_eqv _,mono_eqv _,mono_eqv _,mono_eqv _,mono_eqv _,mono_eqv _,mono_eqv _,mono_eqv _,mono_eqv _,mono_eqv _,mono_eqv _,mono_eqv _,mono_eqv _,mono_eqv _,trivial⟩
     case hend=>
      intro u w1 hext hend
      simp only [EndE,Q1,Bl.Q2,Qc,Q3,Q4,eqv,true_and]at hend
      simp only [fillAct,Q5,Q6,Q7,Q8,Q9,hend]
      obtain⟨w7,hw7⟩:∃W,W=w1:=⟨_,rfl⟩
      rw [<-hw7]at hext⊢
      have HE7:=Bl.hid hext
      have HKw7:Hid (Kb b w w7):=Bl.hid (HKw.out.ext hext)
      have HBr7:=Bl.hid (HBr6.out.ext hext)
      have HNo7:=Bl.hid (HNo6.out.ext hext)
      have HA7:=Bl.hid (HA6.out.ext hext)
      have HR7:=Bl.hid (HR6.out.ext hext)
      clear hext hend hw7
      have q8:=HNo7.out.cell (i:=8) (v:= .int .i64 0) rfl
      have f8:=HNo7.out.fz (i:=8) (show 8 < 9 by decide)
      have HNz:Hid (BoxC (w7.setCell ⟨N0,8,none⟩ (.int .i64 10)) N0 (cL ⟨7,l.id,l.obj,[],[],0,0,[],10⟩ nilV nilV nilV)):=Bl.hid (HNo7.out.put (i:=8) (show 8 < 9 by decide) (.int .i64 10))
      have HKz:Hid (Kq (fun k=>k=N0) w7 (w7.setCell ⟨N0,8,none⟩ (.int .i64 10))):=Bl.hid ((Kq.refl w7).setCell (Q:=fun k=>k=N0) ⟨N0,8,none⟩ rfl _)
      have HBrz:=Bl.hid (HKz.out.box (Q:=fun k=>k=N0) (fun q=>by have:=HAo.out;omega) HBr7.out)
      have HDz:=Bl.hid (DvX.kept ⟨_,_,_,HR7.out⟩ HKz.out (F':=fun i=>F i\/BB<=i) (fun i q=>⟨fun r=>by rcases r with r | r;exact absurd (HF.out.1 i r) (by have:=HAo.out;omega);have:=HAo.out;omega,by have:=HAo.out;omega⟩) (fun i q _=>q) HR7.out.nb)
      have HKy:Hid (Kb b w (w7.setCell ⟨N0,8,none⟩ (.int .i64 10))):=Bl.hid (HKw7.out.kq HKz.out (fun i q=>by have:=HAo.out;omega))
      have Hl9:=Bl.hid (HNz.out.load (P:=Tryz.prog) Tryz.underlying43 rfl (by kernel_rfl))
      have Hst9:=Bl.hid (HBrz.out.store (P:=Tryz.prog) (cs':=cL ⟨7,l.id,l.obj,[],[],0,0,[],10⟩ nilV nilV nilV) rfl (cL_one ⟨_,_,_,rfl⟩ ⟨_,_,_,rfl⟩ ⟨_,_,_,rfl⟩) (ty:=43) (by kernel_rfl))
      have HBr9:=Bl.hid (HBrz.out.set (cs':=cL ⟨7,l.id,l.obj,[],[],0,0,[],10⟩ nilV nilV nilV) rfl)
      go_wp2_with (with_reducible refine stop_load (ty:=43) ?_)
      refine go_on ?_
      refine wpL_load rfl Hl9.out ?_
      go_wp2_with (with_reducible refine stop_store (ty:=43) ?_)
      refine go_on ?_
      refine wpL_store0 rfl rfl Hst9.out ?_
      go_wp2_with fail
      refine bodyPost_ret (v:= .tuple #[.agg (cL ⟨7,l.id,l.obj,[],[],0,0,[],10⟩ nilV nilV nilV).toArray,.bool true]) (results_cell2 rfl rfl (HBr9.out.loadVar (P:=Tryz.prog) Tryz.underlying43 rfl (by kernel_rfl)) rfl) rfl ?_
      unfold DhR
      rw [Hres.out.1,Hres.out.2]
      exact⟨_,_,_,_,rfl,Dh.fin HF.out (by have:=HPR.out;have:=HAo.out;omega) HKy.out (LtF.nil _ _ _ _ _ _ _ _) HDz.out _⟩
  ·have Hg1:=Bl.hid (HR.out.none h2)
   have hc0:=HR6.out.bx.cell (i:=0) (v:= .slice po N co) rfl
   have hbl:=HR6.out.bx.lt
   have HpF:Hid (4<=N->hanL s l=(⟨7,l.id,l.obj,[],[],0,0,[],12⟩,true)/\hanS s l=⟨s.objs,idsL s l⟩):=Bl.hid fun q=>by
    rw [Hput.out.1,Hput.out.2]
    unfold putL putS
    rw [Hg1.out]
    simp only
    rw [if_pos (by rw [<-HN.out.2.2.2.2.1];exact q),if_pos (by rw [<-HN.out.2.2.2.2.1];exact q)]
    exact⟨rfl,rfl⟩
   have HpA:Hid (¬4<=N->hanL s l=(⟨2,l.id,l.obj,[],[],0,0,[],0⟩,true)/\hanS s l=⟨s.objs++[(l.obj,l.blocks)],idsL s l⟩):=Bl.hid fun q=>by
    rw [Hput.out.1,Hput.out.2]
    unfold putL putS
    rw [Hg1.out]
    simp only
    rw [if_neg (by rw [<-HN.out.2.2.2.2.1];exact q),if_neg (by rw [<-HN.out.2.2.2.2.1];exact q)]
    exact⟨rfl,rfl⟩
   clear h2 hx7 hpo2
   by_cases h4:4<=N
   ·have Hres:=Bl.hid (HpF.out h4)
    have h4i:(4:Int)<=(N:Int):=by omega
    clear hx2
    have HKw7:=HKw
    have HR7:=HR6
    have q8:=HNo6.out.cell (i:=8) (v:= .int .i64 0) rfl
    have f8:=HNo6.out.fz (i:=8) (show 8 < 9 by decide)
    have HNz:Hid (BoxC (w6.setCell ⟨N0,8,none⟩ (.int .i64 12)) N0 (cL ⟨7,l.id,l.obj,[],[],0,0,[],12⟩ nilV nilV nilV)):=Bl.hid (HNo6.out.put (i:=8) (show 8 < 9 by decide) (.int .i64 12))
    have HKz:Hid (Kq (fun k=>k=N0) w6 (w6.setCell ⟨N0,8,none⟩ (.int .i64 12))):=Bl.hid ((Kq.refl w6).setCell (Q:=fun k=>k=N0) ⟨N0,8,none⟩ rfl _)
    have HBrz:=Bl.hid (HKz.out.box (Q:=fun k=>k=N0) (fun q=>by have:=HAo.out;omega) HBr6.out)
    have HDz:=Bl.hid (DvX.kept ⟨_,_,_,HR7.out⟩ HKz.out (F':=fun i=>F i\/BB<=i) (fun i q=>⟨fun r=>by rcases r with r | r;exact absurd (HF.out.1 i r) (by have:=HAo.out;omega);have:=HAo.out;omega,by have:=HAo.out;omega⟩) (fun i q _=>q) HR7.out.nb)
    have HKy:Hid (Kb b w (w6.setCell ⟨N0,8,none⟩ (.int .i64 12))):=Bl.hid (HKw7.out.kq HKz.out (fun i q=>by have:=HAo.out;omega))
    have Hl9:=Bl.hid (HNz.out.load (P:=Tryz.prog) Tryz.underlying43 rfl (by kernel_rfl))
    have Hst9:=Bl.hid (HBrz.out.store (P:=Tryz.prog) (cs':=cL ⟨7,l.id,l.obj,[],[],0,0,[],12⟩ nilV nilV nilV) rfl (cL_one ⟨_,_,_,rfl⟩ ⟨_,_,_,rfl⟩ ⟨_,_,_,rfl⟩) (ty:=43) (by kernel_rfl))
    have HBr9:=Bl.hid (HBrz.out.set (cs':=cL ⟨7,l.id,l.obj,[],[],0,0,[],12⟩ nilV nilV nilV) rfl)
    go_wp2_with (with_reducible refine stop_load (ty:=43) ?_)
    refine go_on ?_
    refine wpL_load rfl Hl9.out ?_
    go_wp2_with (with_reducible refine stop_store (ty:=43) ?_)
    refine go_on ?_
    refine wpL_store0 rfl rfl Hst9.out ?_
    go_wp2_with fail
    refine bodyPost_ret (v:= .tuple #[.agg (cL ⟨7,l.id,l.obj,[],[],0,0,[],12⟩ nilV nilV nilV).toArray,.bool true]) (results_cell2 rfl rfl (HBr9.out.loadVar (P:=Tryz.prog) Tryz.underlying43 rfl (by kernel_rfl)) rfl) rfl ?_
    unfold DhR
    rw [Hres.out.1,Hres.out.2]
    exact⟨_,_,_,_,rfl,Dh.fin HF.out (by have:=HPR.out;have:=HAo.out;omega) HKy.out (LtF.nil _ _ _ _ _ _ _ _) HDz.out _⟩
   ·have Hres:=Bl.hid (HpA.out h4)
    have h4i:¬(4:Int)<=(N:Int):=by omega
    obtain⟨BB2,hBB2⟩:∃z,z=w6.heap.size:=⟨_,rfl⟩
    have HBB:=Bl.hid hBB2
    have hbl2:b < BB2:=by rw [hBB2];exact hbl
    have hxl2:P0 < BB2:=by rw [hBB2];exact hxl
    have HRo:Hid (∀w2,Ext w6 w2->Rds w2 (.slice po N co) N (cellsR cO D)):=Bl.hid fun w2 h2=>by have h:=HR6.out.ro.rds.ext h2;rw [<-HN.out.2.2.2.1]at h;exact h
    have HRl:Hid ((cellsR cO D).length=N*2):=Bl.hid (by rw [cellsR_length (s:=2) (fun x _=>cO_len x),<-HN.out.2.2.2.1])
    have HR1:Hid (∀c∈cellsR cO D,c.oneCell'=true):=Bl.hid (cO_one HR6.out.ok)
    have HNm:Hid (N+1<=maxLen/\(N+1)*32<=140737488355328/\0+N<=maxLen/\(0+N)*32<=140737488355328):=Bl.hid (by have:=HN.out;unfold maxLen;omega)
    have hx7:=HBl6.out.cell (i:=7) (v:= .slice pb nb cb) rfl
    obtain⟨oj,hoj⟩:∃oj,oj=l.obj:=⟨_,rfl⟩
    rw [<-hoj]at hx2
    have Hoj:=Bl.hid hoj
    clear hBB2 hoj HpF HpA
    go_wp2_with fail
    apply wp_region_evK (fun a b=>Below BB2 a b) (JP BB2 95 N (cellsR cO D) [.int .i64 oj,.slice pb nb cb]) 16 [86,87,88,89,90,91,92,93,94,95,96,97,98,99,100,101] [eqv _,anyv,eqv _,eqv _,eqv _,eqv _,anyv,eqv _,eqv _,eqv _,eqv _,eqv _,anyv,anyv,eqv _,eqv _] (fun w=>Below.refl _ w) (fun a b c h k=>Below.trans h k) (by kernel_rfl) (by kernel_rfl) (by kernel_rfl) (by kernel_rfl)
    case hsteps=>
     refine⟨?_,?_,?_,?_,?_,?_,?_,?_,?_,?_,?_,?_,?_,?_,?_,?_,trivial⟩
     all_goals
      intro d ev w1 hext HJd Hanc Hdes hni hb hd
      replace Hanc:=Bl.hid Hanc
      replace HJd:=Bl.hid HJd
      replace Hdes:=Bl.hid Hdes
      replace hni:=Bl.hid hni
      have e0:=hb 0 (by decide)
      have e3:=hb 3 (by decide)
      clear hb
      simp only [Qa,Qb,Q1,Bl.Q2,Qd]at e0 e3
      simp only [DepsE2,Q1,Bl.Q2,Qc,Q3,Q4,eqv,and_true]at hd
      have hc:=(bcell hext).1
      have hE:Ext w6 w1:=by rw [Ext,<-HBB.out];exact hext
      have k0:=(hc _ 0 hbl2).trans hc0
      have k2:=(hc _ 2 hxl2).trans hx2
      have k7:=(hc _ 7 hxl2).trans hx7
      simp only [Region.wanted,if_true]
      first
      | (have hp:=HJd.out.a (Hanc.out 1 (by kernel_rfl)) hni.out;(with_reducible refine goodX_append_rds tObR hp (HRo.out w1 hE) HRl.out HR1.out HNm.out.2.2.1 HNm.out.2.2.2 HJd.out.le ?_ ?_ ?_);rfl;exact(by first | ((repeat(first | exact hd | exact hd.2 | replace hd:=hd.1));done) | (repeat(first | exact hd | exact hd.1 | replace hd:=hd.2)));exact fun v' w' k1 k2 k3=>(HJd.out.app1 (List.cons_ne_nil _ _) (Hanc.out 1 (by kernel_rfl)) hni.out (Hdes.out 13 (by kernel_rfl)) k1 k2 k3).imp id fun h=>⟨trivial,h⟩) | ((with_reducible refine goodX_bld2 ?_ ?_ ?_ (buildOb oj pb nb cb w1) ?_);exact fun w=>Below.refl _ w;exact(by first | ((repeat(first | exact hd | exact hd.2 | replace hd:=hd.1));done) | (repeat(first | exact hd | exact hd.1 | replace hd:=hd.2)));exact(by first | ((repeat(first | exact hd | exact hd.2 | replace hd:=hd.1));done) | (repeat(first | exact hd | exact hd.1 | replace hd:=hd.2)));exact⟨rfl,HJd.out.same (by decide)⟩) | ((with_reducible refine goodX_buildV (v:= .agg #[.int .i64 oj,.slice pb nb cb]) tObR (by decide) ?_ rfl ?_);exact(by first | ((repeat(first | exact hd | exact hd.2 | replace hd:=hd.1));done) | (repeat(first | exact hd | exact hd.1 | replace hd:=hd.2)));exact⟨below_alloc _ _ HJd.out.le,trivial,HJd.out.bld (Hdes.out 13 (by kernel_rfl))⟩) | (have hp:=HJd.out.b (Hanc.out 6 (by kernel_rfl)) hni.out;obtain⟨g9,hg9,hr9,_,_⟩:=HJd.out.l (Hanc.out 12 (by kernel_rfl)) hni.out;have hrd9:Rds w1 (.slice (some ⟨g9,0,none⟩) 1 1) 1 [.int .i64 oj,.slice pb nb cb]:= .inr ⟨g9,0,1,rfl,Nat.le_refl _,by decide,hr9⟩;have hln9:([.int .i64 oj,.slice pb nb cb]:List Value).length=1*2:=rfl;(with_reducible refine goodX_append_rds tObR hp hrd9 hln9 (one2 _ _ _ _) HNm.out.1 HNm.out.2.1 HJd.out.le ?_ ?_ ?_);rfl;exact hg9;exact fun v' w' k1 k2 k3=>(HJd.out.app2 (Hanc.out 6 (by kernel_rfl)) hni.out k1 k2).imp id fun h=>⟨trivial,h⟩)
      | (go_simp;first | exact⟨Below.refl _ _,rfl,HJd.out.same (by decide)⟩ | exact⟨below_alloc _ _ HJd.out.le,trivial,HJd.out.new (List.cons_ne_nil _ _) (Hdes.out 6 (by kernel_rfl)) (Hdes.out 13 (by kernel_rfl))⟩ | exact⟨Below.refl _ _,rfl,Bl.HJ.same (by decide) HJd.out⟩)
    case hmono=>exact⟨monoR_eqv _,monoR_anyv,monoR_eqv _,monoR_eqv _,monoR_eqv _,monoR_eqv _,monoR_anyv,monoR_eqv _,monoR_eqv _,monoR_eqv _,monoR_eqv _,monoR_eqv _,monoR_anyv,monoR_anyv,monoR_eqv _,monoR_eqv _,trivial⟩
    case hR0=>exact(Below.refl _ _).drew
    case hend=>
     intro u w1 hext hJ hend
     simp only [EndE,Q1,Bl.Q2,Qc,Q3,Q4,eqv,true_and]at hend
     simp only [fillAct,Q5,Q6,Q7,Q8,Q9,hend]
     have ho:=hJ.c rfl
     obtain⟨p9,c9,h9,_,_⟩:=(Rds.of_owns ho).form
     rw [h9]at ho⊢
     obtain⟨w7,hw7⟩:∃W,W=w1:=⟨_,rfl⟩
     rw [<-hw7]at hext ho⊢
     have hE:Ext w6 w7:=by rw [Ext,<-HBB.out];exact hext
     have hR7:=HR6.out.ext hE
     have hq0:=hR7.bx.cell (i:=0) (v:= .slice po N co) rfl
     have hf0:=hR7.bx.fz (i:=0) (show 0 < 2 by decide)
     have HR8:Hid (DvR (fun i=>F i\/BB<=i) (w7.setCell ⟨b,0,none⟩ (.slice p9 (N+1) c9)) b (.slice p9 (N+1) c9) va2 (D++[(l.obj,.slice pb nb cb,l.blocks)]) ⟨s.objs++[(l.obj,l.blocks)],idsL s l⟩):=Bl.hid (hR7.push (BB:=BB2) (fun i q=> .inr (by have:=HBw.out;have:=HBB.out;omega)) (e:=95) (by rw [<-HN.out.2.2.2.1];have h:=ho;rw [Hoj.out]at h;exact h) (HLb.out.kept fun i hi hl=>⟨hi,hE.block i hl⟩))
     have HK8:Hid (Kq (fun i=>i=b) w6 (w7.setCell ⟨b,0,none⟩ (.slice p9 (N+1) c9))):=Bl.hid ((Kq.of_ext hE).setCell (Q:=fun i=>i=b) ⟨b,0,none⟩ rfl _)
     have HKw8:Hid (Kb b w (w7.setCell ⟨b,0,none⟩ (.slice p9 (N+1) c9))):=Bl.hid (HKw.out.own HK8.out ((KC2.of_ext hE).set (i:=0) (by decide) _))
     have HBr8:=Bl.hid (HK8.out.box (fun q=>by have:=HAo.out;omega) HBr6.out)
     have HA8:=Bl.hid (HK8.out.box (fun q=>by have:=HAo.out;omega) HA6.out)
     clear hJ hend hext ho hw7 hE hR7
     have Hl9:=Bl.hid (HA8.out.load (P:=Tryz.prog) Tryz.underlying43 rfl (by kernel_rfl))
     have Hst9:=Bl.hid (HBr8.out.store (P:=Tryz.prog) (cs':=cL ⟨2,l.id,l.obj,[],[],0,0,[],0⟩ nilV nilV nilV) rfl (cL_one ⟨_,_,_,rfl⟩ ⟨_,_,_,rfl⟩ ⟨_,_,_,rfl⟩) (ty:=43) (by kernel_rfl))
     have HBr9:=Bl.hid (HBr8.out.set (cs':=cL ⟨2,l.id,l.obj,[],[],0,0,[],0⟩ nilV nilV nilV) rfl)
     go_wp2_with (with_reducible refine stop_load (ty:=43) ?_)
     refine go_on ?_
     refine wpL_load rfl Hl9.out ?_
     go_wp2_with (with_reducible refine stop_store (ty:=43) ?_)
     refine go_on ?_
     refine wpL_store0 rfl rfl Hst9.out ?_
     go_wp2_with fail
     refine bodyPost_ret (v:= .tuple #[.agg (cL ⟨2,l.id,l.obj,[],[],0,0,[],0⟩ nilV nilV nilV).toArray,.bool true]) (results_cell2 rfl rfl (HBr9.out.loadVar (P:=Tryz.prog) Tryz.underlying43 rfl (by kernel_rfl)) rfl) rfl ?_
     unfold DhR
     rw [Hres.out.1,Hres.out.2]
     exact⟨_,_,_,_,rfl,Dh.fin HF.out (by have:=HAo.out;omega) HKw8.out (LtF.nil _ _ _ _ _ _ _ _) ⟨_,_,_,HR8.out⟩ _⟩
    case hJ0=>exact JP.start (Nat.le_of_eq HBB.out)
 case hJ0=>exact ChN.start (Below.refl _ _).drew
theorem mhan_one (F:Nat->Prop) (b:Nat) (s:ShT) (l:Bl.LT) (vp vs vb:Value) (L:List Sv) (w:World) (hD:DvX F w b s) (hok:ShOk s) (hL:LtF F w l vp vs vb L) (hi:s.ids.length<=1048576) (hg:GlobR w) (h1:l.kind=1):
  Calls Tryz.prog 11 #[.pointer (some ⟨b,0,none⟩),.agg (cL l vp vs vb).toArray] w fun e w'=>DhR F b s l w e w':=by
 have hL':LtF (fun i=>F i/\i < w.heap.size) w l vp vs vb L:=hL.kept fun i hi hl=>⟨⟨hi,hl⟩,rfl⟩
 have hD':DvX (fun i=>F i/\i < w.heap.size) w b s:=by
  obtain⟨vo,va,D,h⟩:=hD;exact⟨vo,va,D,h.bound⟩
 have key:Calls Tryz.prog 11 #[.pointer (some ⟨b,0,none⟩),.agg (cL l vp vs vb).toArray] w fun e w'=>DhR (fun i=>F i/\i < w.heap.size) b s l w e w':=by
  by_cases hck:chkL l=0
  ·exact mhan_put _ b s l vp vs vb L w hD' (fun i q=>q.2) hok hL' hi hg hck h1
  ·exact mhan_bad _ b s l vp vs vb L w hD' (fun i q=>q.2) hok hL' hi hg hck
 refine key.mono fun e w' h=> ?_
 obtain⟨xp,xs,xb,X,h1,h2,h3,h4⟩:=h
 have hm:∀i,((F i/\i < w.heap.size)\/w.heap.size<=i)->(F i\/w.heap.size<=i):=fun i q=>q.imp (fun q=>q.1) id
 exact⟨xp,xs,xb,X,h1,h2.kept fun i q _=>⟨hm i q,rfl⟩,h3.mono (fun i q _=>hm i q) (fun q=>by
  rcases q with q | q
  ·exact hD.nb q
  ·have:=hD.lt;omega),h4⟩
end Go.Proofs.YtglenbikdahgjaaGreatDoor
namespace Go.Proofs.Bl
open Go Go.RowKit
end Go.Proofs.Bl
namespace Go.Proofs.YtglenbikdahgjaaGreatDoor
open Go Go.RowKit Go.Proofs Go.Proofs.Bl
end Go.Proofs.YtglenbikdahgjaaGreatDoor
