/- Walks of shelf.put. -/
import Derived.Test.YtglenbikdahgjaaGreatDoorPk25
import Derived.Test.YtglenbikdahgjaaGreatDoorPk19
import Derived.Test.YtglenbikdahgjaaGreatDoorPk24
import Derived.Test.YtglenbikdahgjaaGreatDoorPk17
import Derived.Test.YtglenbikdahgjaaGreatDoorPk20
set_option maxRecDepth 100000
set_option maxHeartbeats 16000000
namespace Go.Proofs.Bl
open Go Go.RowKit
theorem SvR.wide {N Q:Nat->Prop} {w:World} {b m sb:Nat} {mp:List (Int × Value)} {s:ShT} (h:SvR N Q w b m sb mp s):SvR (fun i=>N i\/w.heap.size<=i) Q w b m sb mp s:=
 h.kept (Q2:=fun _=>False) (Kq.refl w) (fun _ q=>q.elim) fun _ q=>q
theorem SvR.fin {N Q:Nat->Prop} {w w1 w':World} {b m sb:Nat} {mp:List (Int × Value)} {s:ShT} {X:Nat} (h:SvR (fun i=>N i\/w.heap.size<=i) Q w1 b m sb mp s) (hNQ:∀i,Q i->N i) (hNl:∀i,N i->i < w.heap.size) (hk:Kq Q w w1) (k:Kq (fun i=>i=X) w1 w') (hX:w.heap.size<=X) (hlow:∀i,(Q i\/i=b)->i < w.heap.size):SvGo N Q w w' b s:=by
 have hk2:Kq Q w w':=by
  have h1:Kq (fun i=>Q i\/i=X) w w':=(hk.mono fun i _ q=> .inl q).trans (k.mono fun i _ q=> .inr q)
  exact h1.mono fun i hi q=>by
   rcases q with q | q
   ·exact q
   ·omega
 exact⟨hk2,N,Q,⟨m,sb,mp,h.kept k (fun i q=>⟨.inr (by omega),fun r=>by have:=hlow i (.inl r);omega,fun r=>by have:=hlow i (.inr r);omega⟩) fun i q=> .inl (.inl q)⟩,fun i q=> .inl q,fun i q=>q,fun i q=>q,hNQ,fun i q=> .inl q,fun i q=>Nat.lt_of_lt_of_le (hNl i q) hk2.size⟩
def ApV2 (ps:List (List Int)) (B:Nat) (v:Value) (w':World):Prop:=∃(g:Nat) (M:List Bv),v= .slice (some ⟨g,0,none⟩) ps.length ps.length/\B<=g/\Pk w' g 1 v M.length (cellsR cB M)/\(∀y∈M,OkB (fun k=>g < k) w' y)/\M.map (·.2)=ps/\g < w'.heap.size
def LtW (N:Nat->Prop) (w:World) (v:Value) (l:LT):Prop:=∃vp vs vb L,v= .agg (cL l vp vs vb).toArray/\LtF (fun k=>¬N k) w l vp vs vb L
theorem LtW.ltv {N:Nat->Prop} {w:World} {v:Value} {l:LT} (h:LtW N w v l):LtV w v l:=by
 obtain⟨vp,vs,vb,L,rfl,hF⟩:=h
 exact⟨_,vp,vs,vb,L,rfl,hF.ltc⟩
theorem LtW.kept {N N':Nat->Prop} {w w':World} {v:Value} {l:LT} (h:LtW N w v l) (hk:∀k,¬N k->k < w.heap.size->¬N' k/\w'.heap[k]? =w.heap[k]?):LtW N' w' v l:=by
 obtain⟨vp,vs,vb,L,rfl,hF⟩:=h
 exact⟨vp,vs,vb,L,rfl,hF.kept hk⟩
end Go.Proofs.Bl
namespace Go.Proofs.YtglenbikdahgjaaGreatDoor
open Go Go.RowKit Go.Proofs Go.Proofs.Bl
theorem sput_some (b:Nat) (N Q:Nat->Prop) (s:ShT) (v:Value) (l:Bl.LT) (w:World) (hS:SvX N Q w b s) (hNQ:∀i,Q i->N i) (hNl:∀i,N i->i < w.heap.size) (hL:LtW N w v l) (hc:chkL l=0) (hk:l.kind=1) (st:List (List Int)) (hg:getO s l.obj=some st):
  Calls Tryz.prog 37 #[.pointer (some ⟨b,0,none⟩),v] w fun e w'=>e= .returned (.agg (cL (putL s l) nilV nilV nilV).toArray)/\SvGo N Q w w' b (putS s l):=by
 obtain⟨vp,vs,vb,L,rfl,hLf⟩:=hL
 have hcc:=hLf.ltc
 obtain⟨m,sb,mp,hRw⟩:=hS
 have hR:=hRw.wide
 have hbl:=hcc.bl
 have hbb:=hcc.by'
 obtain⟨pb,cb,hvb,_,_⟩:=Rdss.form hbl
 subst hvb
 obtain⟨W1,hW1⟩:∃W1,W1=(w.alloc (.cells (cL l vp vs (.slice pb l.blocks.length cb)).toArray 26)).alloc (.cells zL 26):=⟨_,rfl⟩
 have hE0:=ext_alloc w (.cells (cL l vp vs (.slice pb l.blocks.length cb)).toArray 26)
 have hE1:=hE0.trans (ext_alloc (w.alloc (.cells (cL l vp vs (.slice pb l.blocks.length cb)).toArray 26)) (.cells zL 26))
 have hBl:BoxC W1 w.heap.size (cL l vp vs (.slice pb l.blocks.length cb)):=by rw [hW1];exact(BoxC.box w 26 (cL_ne _ _ _ _)).ext (ext_alloc _ _)
 have hBr:BoxC W1 (w.heap.size+1) zL.toList:=by rw [hW1];exact box2 w _ zL.toList _ _ (fun h=>by cases h)
 rw [<-hW1]at hE1
 obtain⟨hBk,hEk⟩:=BoxC.fresh (cs:=cL (ackL l) nilV nilV nilV) W1 26 zL rfl (cL_ne _ _ _ _)
 have Hstk:=Bl.hid (fresh_store (P:=Tryz.prog) (cs:=cL (ackL l) nilV nilV nilV) W1 26 zL rfl (cL_one ⟨_,_,_,rfl⟩ ⟨_,_,_,rfl⟩ ⟨_,_,_,rfl⟩) (ty:=26) (by kernel_rfl))
 obtain⟨W2,hW2⟩:∃W2,W2=(W1.alloc (.cells zL 26)).setCells W1.heap.size 0 (cL (ackL l) nilV nilV nilV):=⟨_,rfl⟩
 rw [<-hW2]at hBk hEk
 have hsz1:W1.heap.size=w.heap.size+1+1:=by rw [hW1,World.size_alloc,World.size_alloc]
 obtain⟨A0,hA0⟩:∃A0,A0=w.heap.size+1+1:=⟨_,rfl⟩
 rw [hsz1,<-hA0]at hW2 hBk Hstk
 have hs1:=hBr.lt
 obtain⟨R0,hR0⟩:∃R0,R0=w.heap.size+1:=⟨_,rfl⟩
 obtain⟨P0,hP0⟩:∃P0,P0=w.heap.size:=⟨_,rfl⟩
 rw [<-hR0]at hBr hs1
 rw [<-hP0]at hBl
 have HE2:Hid (Ext w W2):=Bl.hid (hE1.trans hEk)
 have HBk:=Bl.hid hBk
 have HBl:=Bl.hid (hBl.ext hEk)
 have HBr:=Bl.hid (hBr.ext hEk)
 have HR:=Bl.hid (hR.ext HE2.out)
 have HA0:=Bl.hid hA0
 have Hn:Hid (P0=w.heap.size/\R0=w.heap.size+1/\R0 < A0/\w.heap.size<=A0):=Bl.hid ⟨hP0,hR0,by omega,by omega⟩
 have Hlow:Hid (∀i,(Q i\/i=b)->i < w.heap.size):=Bl.hid fun i hi=>by
  rcases hi with q | q
  ·exact hR.sz i q
  ·rw [q];exact hR.bx.lt
 have HNQ:=Bl.hid hNQ
 have HNl:=Bl.hid hNl
 have HNQ1:Hid (∀i,Q i->(N i\/w.heap.size<=i)):=Bl.hid fun i q=> .inl (hNQ i q)
 have HLf:Hid (LtF (fun k=>¬(N k\/w.heap.size<=k)) W2 l vp vs (.slice pb l.blocks.length cb) L):=Bl.hid (hLf.kept fun b hb hl=>⟨fun q=>by
  rcases q with q | q
  ·exact hb q
  ·omega,HE2.out.block b hl⟩)
 have Hbl:=Bl.hid (And.intro hbl hbb)
 have Hbo:=Bl.hid (put_st hc hk hbb)
 obtain⟨v0,hgm,hrow⟩:=hR.some hg
 obtain⟨p0,c0,hv0,_,_⟩:=Rdss.form hrow.rdss
 subst hv0
 have HrS:Hid (∀w2,SvR (fun i=>N i\/w.heap.size<=i) Q w2 b m sb mp ⟨s.objs,idsL s l⟩->Rdss w2 (.slice p0 st.length c0) st/\∀x∈st,Byt x):=Bl.hid fun w2 h2=>by
  obtain⟨st',h3,h4⟩:=h2.row hgm
  have:st'=st:=by
   have h5:getO s l.obj=some st':=h3
   rw [hg]at h5;exact(Option.some.inj h5).symm
  subst this
  exact⟨h4.rdss,h4.byt⟩
 have HpS:Hid (putS s l=⟨s.objs,idsL s l⟩):=Bl.hid (by unfold putS;rw [hg])
 have HpA:Hid ((freI s.ids l.id=false\/st=l.blocks)->putL s l=ackL l):=Bl.hid fun q=>by
  unfold putL;rw [hg];simp only;rw [if_pos q]
 have HpR:Hid (freI s.ids l.id=true->¬st=l.blocks->putL s l=refL l 10):=Bl.hid fun q1 q2=>by
  unfold putL;rw [hg];simp only;rw [if_neg (by rw [q1];simp [q2])];rfl
 have hb0:=HR.out.bx.cell (i:=0) (v:= .map (some m)) rfl
 have hbl0:=HR.out.bx.lt
 have hx2:=HBl.out.cell (i:=2) (v:= .int .i64 l.obj) rfl
 have hxl:=HBl.out.lt
 have Hlk:Hid (∀w2,Ext W2 w2->(Instr.lookup 84 (.map (some m)) (.int .i64 l.obj) true).run Tryz.prog w2= .ok (.tuple #[.slice p0 st.length c0,.bool true]) w2):=Bl.hid fun w2 h2=>by
  have hz:(zeroValue 22).run Tryz.prog w2= .ok (.slice none 0 0) w2:=by first | rfl | kernel_rfl | (simp [go_sem];done)
  have h:=(HR.out.mt.ext h2).lookup (P:=Tryz.prog) Tryz.underlying84 Tryz.underlying3 hz l.obj
  rw [hgm]at h
  exact h
 have Hsn:=Bl.hid HR.out.sn
 obtain⟨any,g,c,hsB,hsS⟩:=Hsn.out
 have HsB:=Bl.hid (And.intro hsB hsS)
 have Hq2:Hid (∀w2,Kq (fun k=>k=sb) W2 w2->w2.cell? ⟨b,1,none⟩=some (.pointer (some ⟨sb,0,none⟩))/\w2.cell? ⟨P0,1,none⟩=some (.int .i64 l.id)):=Bl.hid fun w2 hK=>by
  have h1:=hK.box (X:=b) (fun q=>HR.out.qb (q▸HR.out.qs)) HR.out.bx
  have h2:=hK.box (X:=P0) (fun q=>by have:=Hlow.out sb (.inl HR.out.qs);have:=Hn.out;omega) HBl.out
  exact⟨h1.cell (i:=1) rfl,h2.cell (i:=1) rfl⟩
 obtain⟨F,hF⟩:∃F,F=freI s.ids l.id:=⟨_,rfl⟩
 have HF:=Bl.hid hF
 have HFr:Hid (∀w2,BoxC w2 sb [.bool any,.int .i64 g,.int .u64 (c:Nat)]->Calls Tryz.prog 73 #[.pointer (some ⟨sb,0,none⟩),.int .i64 l.id] w2 fun e w'=>e= .returned (.bool F)/\SnR sb s.ids l.id w2 w'):=Bl.hid fun w2 h2=>by
  have h:=nfresh_any sb any g c s.ids l.id w2 h2 hsS
  rw [<-hF]at h
  exact h
 obtain⟨oj,hoj⟩:∃oj,oj=l.obj:=⟨_,rfl⟩
 obtain⟨li,hli⟩:∃li,li=l.id:=⟨_,rfl⟩
 have Hoj:=Bl.hid (And.intro hoj hli)
 rw [<-hli]at HFr Hq2
 rw [<-hoj]at Hlk hx2
 unfold cL at hW1
 clear hcc hLf hRw hbl hbb hE0 hE1 hBl hBr hBk hEk hs1 hA0 hsz1 hR0 hP0 hR hNQ hNl hc hk hsB hsS hF Hsn hoj hli hgm hg hrow
 show Calls Tryz.prog 37 #[.pointer (some ⟨b,0,none⟩),.agg #[.int .i64 l.kind,.int .i64 l.id,.int .i64 l.obj,vp,vs,.int .i64 l.frm,.int .i64 l.cnt,.slice pb l.blocks.length cb,.int .i64 l.code]] w _
 go_enter Tryz.func37,Tryz.ntmps37
 go_wp2_with (with_reducible refine stop_store (ty:=26) ?_)
 rw [<-hW1]
 rw [show w.heap.size+1+1=A0 from HA0.out.symm,show w.heap.size+1=R0 from Hn.out.2.1.symm,show w.heap.size=P0 from Hn.out.1.symm]
 refine go_on ?_
 refine wpL_store0 rfl rfl Hstk.out ?_
 rw [<-hW2]
 clear hW1 hW2 Hstk
 go_wp2_with fail
 apply wp_region_evK (Ext) (fun _ _ _=>True) 12 [15,16,17,18,19,20,21,14,22,23,6,7] [eqv _,eqv _,eqv _,eqv _,eqv _,eqv _,eqv _,eqv _,eqv _,eqv _,eqv _,eqv _] (fun w=>Below.refl _ w) (fun a b c h k=>Ext.trans h k) (by kernel_rfl) (by kernel_rfl) (by kernel_rfl) (by kernel_rfl)
 case hsteps=>
  refine⟨?_,?_,?_,?_,?_,?_,?_,?_,?_,?_,?_,?_,trivial⟩
  all_goals
   intro d ev w1 hext HJd Hanc Hdes hni hb hd
   replace Hanc:=Bl.hid Hanc
   replace HJd:=Bl.hid HJd
   replace Hdes:=Bl.hid Hdes
   replace hni:=Bl.hid hni
   have e0:=hb 0 (by decide)
   have e3:=hb 3 (by decide)
   clear hb
   simp only [Qa,Qb,Q1,Bl.Q2,Qd]at e0 e3
   simp only [DepsE2,Q1,Bl.Q2,Qc,Q3,Q4,eqv,and_true]at hd
   have hc:=(bcell hext).1
   have c0:=(hc _ 0 hbl0).trans hb0
   have c2:=(hc _ 2 hxl).trans hx2
   have lk:=Hlk.out _ hext
   simp only [Region.wanted,if_true]
   go_simp
   first | exact⟨Below.refl _ _,rfl,trivial⟩ | exact⟨Below.refl _ _,rfl⟩ | exact Below.refl _ _
 case hmono=>exact⟨monoR_eqv _,monoR_eqv _,monoR_eqv _,monoR_eqv _,monoR_eqv _,monoR_eqv _,monoR_eqv _,monoR_eqv _,monoR_eqv _,monoR_eqv _,monoR_eqv _,monoR_eqv _,trivial⟩
 case hR0=>exact(Below.refl _ _).drew
 case hend=>
  intro u w1 hext hJ hend
  simp only [EndE,Q1,Bl.Q2,Qc,Q3,Q4,eqv,true_and]at hend
  simp only [fillAct,Q5,Q6,Q7,Q8,Q9,hend]
  have HX3:=Bl.hid hext
  have hsb3:=HsB.out.1.ext hext
  have HSb3:=Bl.hid hsb3
  obtain⟨W3,hW3⟩:∃W3,W3=w1:=⟨_,rfl⟩
  rw [<-hW3]at HX3 HSb3⊢
  clear hext hend hJ hb0 hbl0 hx2 hxl Hlk hsb3 hW3
  go_wp2_with fail
  apply wp_region_evK (Kq (fun k=>k=sb)) (Bl.HJ 6 (fun w'=>BoxC w' sb [.bool any,.int .i64 g,.int .u64 (c:Nat)]) (fun w'=>SnB sb s.ids li w')) 7 [24,25,26,27,28,29,30] [eqv _,eqv _,eqv _,eqv _,eqv _,eqv _,eqv _] (fun w=>Kq.refl w) (fun a b c h k=>Kq.trans h k) (by kernel_rfl) (by kernel_rfl) (by kernel_rfl) (by kernel_rfl)
  case hsteps=>
   refine⟨?_,?_,?_,?_,?_,?_,?_,trivial⟩
   all_goals
    intro d ev w1 hext HJd Hanc Hdes hni hb hd
    replace Hanc:=Bl.hid Hanc
    replace HJd:=Bl.hid HJd
    replace Hdes:=Bl.hid Hdes
    replace hni:=Bl.hid hni
    have e0:=hb 0 (by decide)
    have e3:=hb 3 (by decide)
    clear hb
    simp only [Qa,Qb,Q1,Bl.Q2,Qd]at e0 e3
    simp only [DepsE2,Q1,Bl.Q2,Qc,Q3,Q4,eqv,and_true]at hd
    have q3:=Hq2.out _ ((Kq.of_ext HX3.out).trans hext)
    have c0:=q3.1
    have c1:=q3.2
    clear q3
    rw [if_pos (rfl:Region.wanted _ _=true)]
    go_simp
    first | exact⟨Kq.refl _,rfl,Bl.HJ.same (by decide) HJd.out⟩ | (go_at_call 73;(with_reducible refine(HFr.out w1 (Bl.HJ.get HJd.out hni.out)).mono ?_);rintro e w2 ⟨rfl,k1⟩;exact⟨_,rfl,k1.2,rfl,Bl.HJ.set k1.1⟩) | exact⟨Below.refl _ _,rfl,Bl.HJ.same (by decide) HJd.out⟩
  case hmono=>exact⟨monoR_eqv _,monoR_eqv _,monoR_eqv _,monoR_eqv _,monoR_eqv _,monoR_eqv _,monoR_eqv _,trivial⟩
  case hR0=>exact Kq.drew _
  case hend=>
   intro u w1 hext hJ hend
   simp only [EndE,Q1,Bl.Q2,Qc,Q3,Q4,eqv,true_and]at hend
   simp only [fillAct,Q5,Q6,Q7,Q8,Q9,hend]
   have hJ2:=Bl.HJ.got hJ rfl
   have HKs:Hid (Kq (fun k=>k=sb) W2 w1):=Bl.hid ((Kq.of_ext HX3.out).trans hext)
   obtain⟨any',g',c',k1,k2⟩:=hJ2
   rw [Hoj.out.2]at k2
   have HR4:Hid (SvR (fun i=>N i\/w.heap.size<=i) Q w1 b m sb mp ⟨s.objs,idsL s l⟩):=Bl.hid (HR.out.ids HNQ1.out HKs.out k1 k2)
   have HE4:Hid (Kq Q w w1):=Bl.hid ((Kq.of_ext HE2.out).trans (HKs.out.mono fun i _ q=>q▸HR.out.qs))
   have hne:∀X,w.heap.size<=X->X≠sb:=fun X hX q=>by have:=Hlow.out sb (.inl HR.out.qs);omega
   have HBk4:=Bl.hid (HKs.out.box (hne A0 Hn.out.2.2.2) HBk.out)
   have HBl4:=Bl.hid (HKs.out.box (hne P0 (by rw [Hn.out.1];exact Nat.le_refl _)) HBl.out)
   have HBr4:=Bl.hid (HKs.out.box (hne R0 (by rw [Hn.out.2.1];omega)) HBr.out)
   have HL4:Hid (LtC w1 (cL l vp vs (.slice pb l.blocks.length cb)) l vp vs (.slice pb l.blocks.length cb) L):=Bl.hid (LtF.ltc (HLf.out.kept (F':=fun _=>True) fun i hi hl=>⟨trivial,HKs.out.block i hl fun q=>hi (HNQ1.out i (q▸HR.out.qs))⟩))
   obtain⟨W4,hW4⟩:∃W4,W4=w1:=⟨_,rfl⟩
   rw [<-hW4]at HR4 HE4 HBk4 HBl4 HBr4 HL4⊢
   clear hext hend hJ hne k1 k2 HSb3 HX3 HKs HBk HBl HBr Hq2 HFr hW4
   cases F
   ·have HBk5:=HBk4
    have HBr5:=HBr4
    have Hlk5:=Bl.hid (HBk5.out.load (P:=Tryz.prog) Tryz.underlying26 rfl (by kernel_rfl))
    have Hst5:=Bl.hid (HBr5.out.store (P:=Tryz.prog) (cs':=cL (ackL l) nilV nilV nilV) rfl (cL_one ⟨_,_,_,rfl⟩ ⟨_,_,_,rfl⟩ ⟨_,_,_,rfl⟩) (ty:=26) (by kernel_rfl))
    have HBr6:=Bl.hid (HBr5.out.set (cs':=cL (ackL l) nilV nilV nilV) rfl)
    have HK6:Hid (Kq (fun k=>k=R0) W4 (W4.setCells R0 0 (cL (ackL l) nilV nilV nilV))):=Bl.hid ((Kq.refl W4).setCells (Q:=fun k=>k=R0) rfl 0 _)
    go_wp2_with (with_reducible refine stop_load (ty:=26) ?_)
    refine go_on ?_
    refine wpL_load rfl Hlk5.out ?_
    go_wp2_with (with_reducible refine stop_store (ty:=26) ?_)
    refine go_on ?_
    refine wpL_store0 rfl rfl Hst5.out ?_
    go_wp2_with fail
    refine bodyPost_ret (v:= .agg (cL (ackL l) nilV nilV nilV).toArray) (results_cell rfl rfl (HBr6.out.loadVar (P:=Tryz.prog) Tryz.underlying26 rfl (by kernel_rfl))) rfl ⟨?_,?_⟩
    ·rw [HpA.out (.inl HF.out.symm)]
    ·rw [HpS.out]
     exact HR4.out.fin HNQ.out HNl.out HE4.out HK6.out (by rw [Hn.out.2.1];omega) Hlow.out
   ·have q7:=HBl4.out.cell (i:=7) (v:= .slice pb l.blocks.length cb) rfl
    go_wp2_with fail
    refine(eqfB_any (.slice p0 st.length c0) (.slice pb l.blocks.length cb) st l.blocks W4 (HrS.out _ HR4.out).1 HL4.out.bl (HrS.out _ HR4.out).2 HL4.out.by').mono ?_
    rintro e W5 ⟨rfl,hE5⟩
    obtain⟨D,hD⟩:∃D,D=decide (st=l.blocks):=⟨_,rfl⟩
    have HD:=Bl.hid hD
    rw [<-hD]
    have HBk5:=Bl.hid (HBk4.out.ext hE5)
    have HBl5:=Bl.hid (HBl4.out.ext hE5)
    have HBr5:=Bl.hid (HBr4.out.ext hE5)
    have HR5:=Bl.hid (HR4.out.ext hE5)
    have HE5:Hid (Kq Q w W5):=Bl.hid (HE4.out.trans (Kq.of_ext hE5))
    have HL5:Hid (LtV W5 (.agg (cL l vp vs (.slice pb l.blocks.length cb)).toArray) l):=Bl.hid ⟨_,vp,vs,_,L,rfl,HL4.out.ext hE5⟩
    clear hE5 hD q7
    cases D
    ·have Hll5:=Bl.hid (HBl5.out.load (P:=Tryz.prog) Tryz.underlying26 rfl (by kernel_rfl))
     go_wp2_with (with_reducible refine stop_load (ty:=26) ?_)
     refine go_on ?_
     refine wpL_load rfl Hll5.out ?_
     go_wp2_with fail
     refine(refusal_any _ l 10 W5 HL5.out).mono ?_
     rintro e w6 ⟨rfl,hE6⟩
     have HE6:=Bl.hid hE6
     have HBr6:=Bl.hid (HBr5.out.ext hE6)
     clear hE6
     have Hst6:=Bl.hid (HBr6.out.store (P:=Tryz.prog) (cs':=cL (refL l 10) nilV nilV nilV) rfl (cL_one ⟨_,_,_,rfl⟩ ⟨_,_,_,rfl⟩ ⟨_,_,_,rfl⟩) (ty:=26) (by kernel_rfl))
     have HBr7:=Bl.hid (HBr6.out.set (cs':=cL (refL l 10) nilV nilV nilV) rfl)
     have HK7:Hid (Kq (fun k=>k=R0) w6 (w6.setCells R0 0 (cL (refL l 10) nilV nilV nilV))):=Bl.hid ((Kq.refl w6).setCells (Q:=fun k=>k=R0) rfl 0 _)
     go_wp2_with (with_reducible refine stop_store (ty:=26) ?_)
     refine go_on ?_
     refine wpL_store0 rfl rfl Hst6.out ?_
     go_wp2_with fail
     refine bodyPost_ret (v:= .agg (cL (refL l 10) nilV nilV nilV).toArray) (results_cell rfl rfl (HBr7.out.loadVar (P:=Tryz.prog) Tryz.underlying26 rfl (by kernel_rfl))) rfl ⟨?_,?_⟩
     ·rw [HpR.out HF.out.symm (of_decide_eq_false HD.out.symm)]
     ·rw [HpS.out]
      exact(HR5.out.ext HE6.out).fin HNQ.out HNl.out (HE5.out.trans (Kq.of_ext HE6.out)) HK7.out (by rw [Hn.out.2.1];omega) Hlow.out
    ·have Hlk5:=Bl.hid (HBk5.out.load (P:=Tryz.prog) Tryz.underlying26 rfl (by kernel_rfl))
     have Hst5:=Bl.hid (HBr5.out.store (P:=Tryz.prog) (cs':=cL (ackL l) nilV nilV nilV) rfl (cL_one ⟨_,_,_,rfl⟩ ⟨_,_,_,rfl⟩ ⟨_,_,_,rfl⟩) (ty:=26) (by kernel_rfl))
     have HBr6:=Bl.hid (HBr5.out.set (cs':=cL (ackL l) nilV nilV nilV) rfl)
     have HK6:Hid (Kq (fun k=>k=R0) W5 (W5.setCells R0 0 (cL (ackL l) nilV nilV nilV))):=Bl.hid ((Kq.refl W5).setCells (Q:=fun k=>k=R0) rfl 0 _)
     go_wp2_with (with_reducible refine stop_load (ty:=26) ?_)
     refine go_on ?_
     refine wpL_load rfl Hlk5.out ?_
     go_wp2_with (with_reducible refine stop_store (ty:=26) ?_)
     refine go_on ?_
     refine wpL_store0 rfl rfl Hst5.out ?_
     go_wp2_with fail
     refine bodyPost_ret (v:= .agg (cL (ackL l) nilV nilV nilV).toArray) (results_cell rfl rfl (HBr6.out.loadVar (P:=Tryz.prog) Tryz.underlying26 rfl (by kernel_rfl))) rfl ⟨?_,?_⟩
     ·rw [HpA.out (.inr (of_decide_eq_true HD.out.symm))]
     ·rw [HpS.out]
      exact HR5.out.fin HNQ.out HNl.out HE5.out HK6.out (by rw [Hn.out.2.1];omega) Hlow.out
  case hJ0=>exact Bl.HJ.start (HSb3.out.ext (Below.refl _ _).drew)
 case hJ0=>trivial
theorem sput_none (b:Nat) (N Q:Nat->Prop) (s:ShT) (v:Value) (l:Bl.LT) (w:World) (hS:SvX N Q w b s) (hNQ:∀i,Q i->N i) (hNl:∀i,N i->i < w.heap.size) (hL:LtW N w v l) (hc:chkL l=0) (hk:l.kind=1) (hg:getO s l.obj=none):
  Calls Tryz.prog 37 #[.pointer (some ⟨b,0,none⟩),v] w fun e w'=>e= .returned (.agg (cL (putL s l) nilV nilV nilV).toArray)/\SvGo N Q w w' b (putS s l):=by
 obtain⟨vp,vs,vb,L,rfl,hLf⟩:=hL
 have hcc:=hLf.ltc
 obtain⟨m,sb,mp,hRw⟩:=hS
 have hR:=hRw.wide
 have hbl:=hcc.bl
 have hbb:=hcc.by'
 obtain⟨pb,cb,hvb,_,_⟩:=Rdss.form hbl
 subst hvb
 obtain⟨W1,hW1⟩:∃W1,W1=(w.alloc (.cells (cL l vp vs (.slice pb l.blocks.length cb)).toArray 26)).alloc (.cells zL 26):=⟨_,rfl⟩
 have hE0:=ext_alloc w (.cells (cL l vp vs (.slice pb l.blocks.length cb)).toArray 26)
 have hE1:=hE0.trans (ext_alloc (w.alloc (.cells (cL l vp vs (.slice pb l.blocks.length cb)).toArray 26)) (.cells zL 26))
 have hBl:BoxC W1 w.heap.size (cL l vp vs (.slice pb l.blocks.length cb)):=by rw [hW1];exact(BoxC.box w 26 (cL_ne _ _ _ _)).ext (ext_alloc _ _)
 have hBr:BoxC W1 (w.heap.size+1) zL.toList:=by rw [hW1];exact box2 w _ zL.toList _ _ (fun h=>by cases h)
 rw [<-hW1]at hE1
 obtain⟨hBk,hEk⟩:=BoxC.fresh (cs:=cL (ackL l) nilV nilV nilV) W1 26 zL rfl (cL_ne _ _ _ _)
 have Hstk:=Bl.hid (fresh_store (P:=Tryz.prog) (cs:=cL (ackL l) nilV nilV nilV) W1 26 zL rfl (cL_one ⟨_,_,_,rfl⟩ ⟨_,_,_,rfl⟩ ⟨_,_,_,rfl⟩) (ty:=26) (by kernel_rfl))
 obtain⟨W2,hW2⟩:∃W2,W2=(W1.alloc (.cells zL 26)).setCells W1.heap.size 0 (cL (ackL l) nilV nilV nilV):=⟨_,rfl⟩
 rw [<-hW2]at hBk hEk
 have hsz1:W1.heap.size=w.heap.size+1+1:=by rw [hW1,World.size_alloc,World.size_alloc]
 obtain⟨A0,hA0⟩:∃A0,A0=w.heap.size+1+1:=⟨_,rfl⟩
 rw [hsz1,<-hA0]at hW2 hBk Hstk
 have hs1:=hBr.lt
 obtain⟨R0,hR0⟩:∃R0,R0=w.heap.size+1:=⟨_,rfl⟩
 obtain⟨P0,hP0⟩:∃P0,P0=w.heap.size:=⟨_,rfl⟩
 rw [<-hR0]at hBr hs1
 rw [<-hP0]at hBl
 have HE2:Hid (Ext w W2):=Bl.hid (hE1.trans hEk)
 have HBk:=Bl.hid hBk
 have HBl:=Bl.hid (hBl.ext hEk)
 have HBr:=Bl.hid (hBr.ext hEk)
 have HR:=Bl.hid (hR.ext HE2.out)
 have HA0:=Bl.hid hA0
 have Hn:Hid (P0=w.heap.size/\R0=w.heap.size+1/\R0 < A0/\w.heap.size<=A0):=Bl.hid ⟨hP0,hR0,by omega,by omega⟩
 have Hlow:Hid (∀i,(Q i\/i=b)->i < w.heap.size):=Bl.hid fun i hi=>by
  rcases hi with q | q
  ·exact hR.sz i q
  ·rw [q];exact hR.bx.lt
 have HNQ:=Bl.hid hNQ
 have HNl:=Bl.hid hNl
 have HNQ1:Hid (∀i,Q i->(N i\/w.heap.size<=i)):=Bl.hid fun i q=> .inl (hNQ i q)
 have HLf:Hid (LtF (fun k=>¬(N k\/w.heap.size<=k)) W2 l vp vs (.slice pb l.blocks.length cb) L):=Bl.hid (hLf.kept fun b hb hl=>⟨fun q=>by
  rcases q with q | q
  ·exact hb q
  ·omega,HE2.out.block b hl⟩)
 have Hbl:=Bl.hid (And.intro hbl hbb)
 have Hbo:=Bl.hid (put_st hc hk hbb)
 have hgm:=hR.none hg
 have HpF:Hid (4<=mp.length->putS s l=⟨s.objs,idsL s l⟩/\putL s l=refL l 12):=Bl.hid fun q=>by
  have q2:4<=s.objs.length:=by rw [<-hR.ln];exact q
  unfold putS putL;rw [hg];simp only;rw [if_pos q2,if_pos q2];exact⟨rfl,rfl⟩
 have HpN:Hid (¬4<=mp.length->putS s l=⟨s.objs++[(l.obj,l.blocks)],idsL s l⟩/\putL s l=ackL l):=Bl.hid fun q=>by
  have q2:¬4<=s.objs.length:=by rw [<-hR.ln];exact q
  unfold putS putL;rw [hg];simp only;rw [if_neg q2,if_neg q2];exact⟨rfl,rfl⟩
 have Hgo:Hid (getO s l.obj=none/\getM mp l.obj=none):=Bl.hid ⟨hg,hgm⟩
 have hgbl:=hcc.bl
 have HAp:Hid (∀w2,LtC w2 (cL l vp vs (.slice pb l.blocks.length cb)) l vp vs (.slice pb l.blocks.length cb) L->Calls Tryz.prog 48 #[.slice pb l.blocks.length cb] w2 fun e w'=>ApR l.blocks w2 e w'):=Bl.hid fun w2 h2=>sapart_any _ l.blocks w2 h2.bl h2.by' (by have:=Hbo.out.2.1;omega) (fun x hx=>by have:=(Hbo.out.2.2 x hx).1;omega)
 clear hgbl
 have hb0:=HR.out.bx.cell (i:=0) (v:= .map (some m)) rfl
 have hbl0:=HR.out.bx.lt
 have hx2:=HBl.out.cell (i:=2) (v:= .int .i64 l.obj) rfl
 have hxl:=HBl.out.lt
 have Hlk:Hid (∀w2,Ext W2 w2->(Instr.lookup 84 (.map (some m)) (.int .i64 l.obj) true).run Tryz.prog w2= .ok (.tuple #[.slice none 0 0,.bool false]) w2):=Bl.hid fun w2 h2=>by
  have hz:(zeroValue 22).run Tryz.prog w2= .ok (.slice none 0 0) w2:=by first | rfl | kernel_rfl | (simp [go_sem];done)
  have h:=(HR.out.mt.ext h2).lookup (P:=Tryz.prog) Tryz.underlying84 Tryz.underlying3 hz l.obj
  rw [hgm]at h
  exact h
 have Hsn:=Bl.hid HR.out.sn
 obtain⟨any,g,c,hsB,hsS⟩:=Hsn.out
 have HsB:=Bl.hid (And.intro hsB hsS)
 have Hq2:Hid (∀w2,Kq (fun k=>k=sb) W2 w2->w2.cell? ⟨b,1,none⟩=some (.pointer (some ⟨sb,0,none⟩))/\w2.cell? ⟨P0,1,none⟩=some (.int .i64 l.id)):=Bl.hid fun w2 hK=>by
  have h1:=hK.box (X:=b) (fun q=>HR.out.qb (q▸HR.out.qs)) HR.out.bx
  have h2:=hK.box (X:=P0) (fun q=>by have:=Hlow.out sb (.inl HR.out.qs);have:=Hn.out;omega) HBl.out
  exact⟨h1.cell (i:=1) rfl,h2.cell (i:=1) rfl⟩
 obtain⟨F,hF⟩:∃F,F=freI s.ids l.id:=⟨_,rfl⟩
 have HF:=Bl.hid hF
 have HFr:Hid (∀w2,BoxC w2 sb [.bool any,.int .i64 g,.int .u64 (c:Nat)]->Calls Tryz.prog 73 #[.pointer (some ⟨sb,0,none⟩),.int .i64 l.id] w2 fun e w'=>e= .returned (.bool F)/\SnR sb s.ids l.id w2 w'):=Bl.hid fun w2 h2=>by
  have h:=nfresh_any sb any g c s.ids l.id w2 h2 hsS
  rw [<-hF]at h
  exact h
 obtain⟨oj,hoj⟩:∃oj,oj=l.obj:=⟨_,rfl⟩
 obtain⟨li,hli⟩:∃li,li=l.id:=⟨_,rfl⟩
 have Hoj:=Bl.hid (And.intro hoj hli)
 rw [<-hli]at HFr Hq2
 rw [<-hoj]at Hlk hx2
 unfold cL at hW1
 clear hcc hLf hRw hbl hbb hE0 hE1 hBl hBr hBk hEk hs1 hA0 hsz1 hR0 hP0 hR hNQ hNl hc hk hsB hsS hF Hsn hoj hli hgm hg
 show Calls Tryz.prog 37 #[.pointer (some ⟨b,0,none⟩),.agg #[.int .i64 l.kind,.int .i64 l.id,.int .i64 l.obj,vp,vs,.int .i64 l.frm,.int .i64 l.cnt,.slice pb l.blocks.length cb,.int .i64 l.code]] w _
 go_enter Tryz.func37,Tryz.ntmps37
 go_wp2_with (with_reducible refine stop_store (ty:=26) ?_)
 rw [<-hW1]
 rw [show w.heap.size+1+1=A0 from HA0.out.symm,show w.heap.size+1=R0 from Hn.out.2.1.symm,show w.heap.size=P0 from Hn.out.1.symm]
 refine go_on ?_
 refine wpL_store0 rfl rfl Hstk.out ?_
 rw [<-hW2]
 clear hW1 hW2 Hstk
 go_wp2_with fail
 apply wp_region_evK (Ext) (fun _ _ _=>True) 12 [15,16,17,18,19,20,21,14,22,23,6,7] [eqv _,eqv _,eqv _,eqv _,eqv _,eqv _,eqv _,eqv _,eqv _,eqv _,eqv _,eqv _] (fun w=>Below.refl _ w) (fun a b c h k=>Ext.trans h k) (by kernel_rfl) (by kernel_rfl) (by kernel_rfl) (by kernel_rfl)
 case hsteps=>
  refine⟨?_,?_,?_,?_,?_,?_,?_,?_,?_,?_,?_,?_,trivial⟩
  all_goals
   intro d ev w1 hext HJd Hanc Hdes hni hb hd
   replace Hanc:=Bl.hid Hanc
   replace HJd:=Bl.hid HJd
   replace Hdes:=Bl.hid Hdes
   replace hni:=Bl.hid hni
   have e0:=hb 0 (by decide)
   have e3:=hb 3 (by decide)
   clear hb
   simp only [Qa,Qb,Q1,Bl.Q2,Qd]at e0 e3
   simp only [DepsE2,Q1,Bl.Q2,Qc,Q3,Q4,eqv,and_true]at hd
   have hc:=(bcell hext).1
   have c0:=(hc _ 0 hbl0).trans hb0
   have c2:=(hc _ 2 hxl).trans hx2
   have lk:=Hlk.out _ hext
   simp only [Region.wanted,if_true]
   go_simp
   first | exact⟨Below.refl _ _,rfl,trivial⟩ | exact⟨Below.refl _ _,rfl⟩ | exact Below.refl _ _
 case hmono=>exact⟨monoR_eqv _,monoR_eqv _,monoR_eqv _,monoR_eqv _,monoR_eqv _,monoR_eqv _,monoR_eqv _,monoR_eqv _,monoR_eqv _,monoR_eqv _,monoR_eqv _,monoR_eqv _,trivial⟩
 case hR0=>exact(Below.refl _ _).drew
 case hend=>
  intro u w1 hext hJ hend
  simp only [EndE,Q1,Bl.Q2,Qc,Q3,Q4,eqv,true_and]at hend
  simp only [fillAct,Q5,Q6,Q7,Q8,Q9,hend]
  have HX3:=Bl.hid hext
  have hsb3:=HsB.out.1.ext hext
  have HSb3:=Bl.hid hsb3
  obtain⟨W3,hW3⟩:∃W3,W3=w1:=⟨_,rfl⟩
  rw [<-hW3]at HX3 HSb3⊢
  clear hext hend hJ hb0 hbl0 hx2 hxl Hlk hsb3 hW3
  go_wp2_with fail
  apply wp_region_evK (Kq (fun k=>k=sb)) (Bl.HJ 6 (fun w'=>BoxC w' sb [.bool any,.int .i64 g,.int .u64 (c:Nat)]) (fun w'=>SnB sb s.ids li w')) 7 [24,25,26,27,28,29,30] [eqv _,eqv _,eqv _,eqv _,eqv _,eqv _,eqv _] (fun w=>Kq.refl w) (fun a b c h k=>Kq.trans h k) (by kernel_rfl) (by kernel_rfl) (by kernel_rfl) (by kernel_rfl)
  case hsteps=>
   refine⟨?_,?_,?_,?_,?_,?_,?_,trivial⟩
   all_goals
    intro d ev w1 hext HJd Hanc Hdes hni hb hd
    replace Hanc:=Bl.hid Hanc
    replace HJd:=Bl.hid HJd
    replace Hdes:=Bl.hid Hdes
    replace hni:=Bl.hid hni
    have e0:=hb 0 (by decide)
    have e3:=hb 3 (by decide)
    clear hb
    simp only [Qa,Qb,Q1,Bl.Q2,Qd]at e0 e3
    simp only [DepsE2,Q1,Bl.Q2,Qc,Q3,Q4,eqv,and_true]at hd
    have q3:=Hq2.out _ ((Kq.of_ext HX3.out).trans hext)
    have c0:=q3.1
    have c1:=q3.2
    clear q3
    rw [if_pos (rfl:Region.wanted _ _=true)]
    go_simp
    first | exact⟨Kq.refl _,rfl,Bl.HJ.same (by decide) HJd.out⟩ | (go_at_call 73;(with_reducible refine(HFr.out w1 (Bl.HJ.get HJd.out hni.out)).mono ?_);rintro e w2 ⟨rfl,k1⟩;exact⟨_,rfl,k1.2,rfl,Bl.HJ.set k1.1⟩) | exact⟨Below.refl _ _,rfl,Bl.HJ.same (by decide) HJd.out⟩
  case hmono=>exact⟨monoR_eqv _,monoR_eqv _,monoR_eqv _,monoR_eqv _,monoR_eqv _,monoR_eqv _,monoR_eqv _,trivial⟩
  case hR0=>exact Kq.drew _
  case hend=>
   intro u w1 hext hJ hend
   simp only [EndE,Q1,Bl.Q2,Qc,Q3,Q4,eqv,true_and]at hend
   simp only [fillAct,Q5,Q6,Q7,Q8,Q9,hend]
   have hJ2:=Bl.HJ.got hJ rfl
   have HKs:Hid (Kq (fun k=>k=sb) W2 w1):=Bl.hid ((Kq.of_ext HX3.out).trans hext)
   obtain⟨any',g',c',k1,k2⟩:=hJ2
   rw [Hoj.out.2]at k2
   have HR4:Hid (SvR (fun i=>N i\/w.heap.size<=i) Q w1 b m sb mp ⟨s.objs,idsL s l⟩):=Bl.hid (HR.out.ids HNQ1.out HKs.out k1 k2)
   have HE4:Hid (Kq Q w w1):=Bl.hid ((Kq.of_ext HE2.out).trans (HKs.out.mono fun i _ q=>q▸HR.out.qs))
   have hne:∀X,w.heap.size<=X->X≠sb:=fun X hX q=>by have:=Hlow.out sb (.inl HR.out.qs);omega
   have HBk4:=Bl.hid (HKs.out.box (hne A0 Hn.out.2.2.2) HBk.out)
   have HBl4:=Bl.hid (HKs.out.box (hne P0 (by rw [Hn.out.1];exact Nat.le_refl _)) HBl.out)
   have HBr4:=Bl.hid (HKs.out.box (hne R0 (by rw [Hn.out.2.1];omega)) HBr.out)
   have HL4:Hid (LtC w1 (cL l vp vs (.slice pb l.blocks.length cb)) l vp vs (.slice pb l.blocks.length cb) L):=Bl.hid (LtF.ltc (HLf.out.kept (F':=fun _=>True) fun i hi hl=>⟨trivial,HKs.out.block i hl fun q=>hi (HNQ1.out i (q▸HR.out.qs))⟩))
   obtain⟨W4,hW4⟩:∃W4,W4=w1:=⟨_,rfl⟩
   rw [<-hW4]at HR4 HE4 HBk4 HBl4 HBr4 HL4⊢
   clear hext hend hJ hne k1 k2 HSb3 HX3 HKs HBk HBl HBr Hq2 HFr hW4
   have hb0:=HR4.out.bx.cell (i:=0) (v:= .map (some m)) rfl
   obtain⟨K,hK⟩:∃K,K=mp.length:=⟨_,rfl⟩
   have hln:∀ty,(Builtin.len_ #[84] ty #[.map (some m)]).run Tryz.prog W4= .ok (.int .i64 (K:Nat)) W4:=fun ty=>by rw [hK];exact HR4.out.mt.len Tryz.underlying84
   have HK:=Bl.hid hK
   clear hK
   by_cases h4:4<=K
   ·have h4b:(4:Int)<=(K:Int):=by omega
    have HL5:Hid (LtV W4 (.agg (cL l vp vs (.slice pb l.blocks.length cb)).toArray) l):=Bl.hid ⟨_,vp,vs,_,L,rfl,HL4.out⟩
    have HBl5:=HBl4
    have HBr5:=HBr4
    have Hll5:=Bl.hid (HBl5.out.load (P:=Tryz.prog) Tryz.underlying26 rfl (by kernel_rfl))
    go_wp2_with (with_reducible refine stop_load (ty:=26) ?_)
    refine go_on ?_
    refine wpL_load rfl Hll5.out ?_
    go_wp2_with fail
    refine(refusal_any _ l 12 W4 HL5.out).mono ?_
    rintro e w6 ⟨rfl,hE6⟩
    have HE6:=Bl.hid hE6
    have HBr6:=Bl.hid (HBr5.out.ext hE6)
    clear hE6
    have Hst6:=Bl.hid (HBr6.out.store (P:=Tryz.prog) (cs':=cL (refL l 12) nilV nilV nilV) rfl (cL_one ⟨_,_,_,rfl⟩ ⟨_,_,_,rfl⟩ ⟨_,_,_,rfl⟩) (ty:=26) (by kernel_rfl))
    have HBr7:=Bl.hid (HBr6.out.set (cs':=cL (refL l 12) nilV nilV nilV) rfl)
    have HK7:Hid (Kq (fun k=>k=R0) w6 (w6.setCells R0 0 (cL (refL l 12) nilV nilV nilV))):=Bl.hid ((Kq.refl w6).setCells (Q:=fun k=>k=R0) rfl 0 _)
    go_wp2_with (with_reducible refine stop_store (ty:=26) ?_)
    refine go_on ?_
    refine wpL_store0 rfl rfl Hst6.out ?_
    go_wp2_with fail
    refine bodyPost_ret (v:= .agg (cL (refL l 12) nilV nilV nilV).toArray) (results_cell rfl rfl (HBr7.out.loadVar (P:=Tryz.prog) Tryz.underlying26 rfl (by kernel_rfl))) rfl ⟨?_,?_⟩
    ·rw [(HpF.out (by rw [<-HK.out];exact h4)).2]
    ·rw [(HpF.out (by rw [<-HK.out];exact h4)).1]
     exact(HR4.out.ext HE6.out).fin HNQ.out HNl.out (HE4.out.trans (Kq.of_ext HE6.out)) HK7.out (by rw [Hn.out.2.1];omega) Hlow.out
   ·have h4b:¬(4:Int)<=(K:Int):=by omega
    have hbl0:=HR4.out.bx.lt
    have hx2:=HBl4.out.cell (i:=2) (v:= .int .i64 l.obj) rfl
    have hx7:=HBl4.out.cell (i:=7) (v:= .slice pb l.blocks.length cb) rfl
    have hxl:=HBl4.out.lt
    have Hq4:Hid (∀w2,Kq (fun _=>False) W4 w2->w2.cell? ⟨b,0,none⟩=some (.map (some m))/\w2.cell? ⟨P0,2,none⟩=some (.int .i64 l.obj)/\w2.cell? ⟨P0,7,none⟩=some (.slice pb l.blocks.length cb)):=Bl.hid fun w2 hk=>⟨hk.cell (fun q=>q) hb0,hk.cell (fun q=>q) hx2,hk.cell (fun q=>q) hx7⟩
    have HAp4:Hid (∀w2,Kq (fun _=>False) W4 w2->Calls Tryz.prog 48 #[.slice pb l.blocks.length cb] w2 fun e w'=>∃v',e= .returned v'/\ApV2 l.blocks W4.heap.size v' w'/\Ext w2 w'):=Bl.hid fun w2 hk=>by
     have hE:=hk.ext (fun _ q=>q.elim)
     refine(HAp.out w2 (HL4.out.ext hE)).mono ?_
     rintro e w' ⟨M,rfl,k1,k2,k3,k4⟩
     exact⟨_,rfl,⟨w2.heap.size,M,rfl,hE.size,k1,k2,k3,(k1.block _ rfl).2⟩,k4⟩
    clear hx2 hx7 hxl hbl0
    go_wp2_with fail
    clear hln hb0
    apply wp_region_evK (Kq (fun _=>False)) (ChN (fun _=>True) [(8,65,ApV2 l.blocks W4.heap.size)]) 9 [57,58,59,60,61,62,63,64,65] [eqv _,eqv _,eqv _,eqv _,eqv _,eqv _,eqv _,eqv _,anyv] (fun w=>Kq.refl w) (fun a b c h k=>Kq.trans h k) (by kernel_rfl) (by kernel_rfl) (by kernel_rfl) (by kernel_rfl)
    case hsteps=>
     refine⟨?_,?_,?_,?_,?_,?_,?_,?_,?_,trivial⟩
     all_goals
      intro d ev w1 hext HJd Hanc Hdes hni hb hd
      replace Hanc:=Bl.hid Hanc
      replace HJd:=Bl.hid HJd
      replace Hdes:=Bl.hid Hdes
      replace hni:=Bl.hid hni
      have e0:=hb 0 (by decide)
      have e3:=hb 3 (by decide)
      clear hb
      simp only [Qa,Qb,Q1,Bl.Q2,Qd]at e0 e3
      simp only [DepsE2,Q1,Bl.Q2,Qc,Q3,Q4,eqv,and_true]at hd
      have q3:=Hq4.out _ hext
      have c0:=q3.1
      have c2:=q3.2.1
      have c7:=q3.2.2
      clear q3
      rw [if_pos (rfl:Region.wanted _ _=true)]
      go_simp
      first | exact⟨Kq.refl _,rfl,HJd.out.same rfl⟩ | (go_at_call 48;(with_reducible refine(HAp4.out w1 hext).mono ?_);rintro e w2 ⟨v9,rfl,k1,k2⟩;exact⟨_,rfl,Kq.of_ext k2,trivial,ChN.set (a:=[]) (b:=[]) trivial rfl k1 trivial rfl⟩) | exact⟨Below.refl _ _,rfl,Bl.HJ.same (by decide) HJd.out⟩
    case hmono=>exact⟨monoR_eqv _,monoR_eqv _,monoR_eqv _,monoR_eqv _,monoR_eqv _,monoR_eqv _,monoR_eqv _,monoR_eqv _,monoR_anyv,trivial⟩
    case hR0=>exact Kq.drew _
    case hend=>
     intro u w1 hext hJ hend
     simp only [EndE,Q1,Bl.Q2,Qc,Q3,Q4,eqv,true_and]at hend
     simp only [fillAct,Q5,Q6,Q7,Q8,Q9,hend]
     obtain⟨g9,M,hv9,hg9,k1,k2,k3,k4⟩:=hJ.2 rfl
     have HE9:Hid (Ext W4 w1):=Bl.hid (hext.ext (fun _ q=>q.elim))
     have HR9:=Bl.hid (HR4.out.ext HE9.out)
     obtain⟨W5,hmu,hM5,hK5⟩:=MapAt.put (P:=Tryz.prog) Tryz.underlying84 Tryz.underlying3 HR9.out.mt l.obj (.slice (some ⟨g9,0,none⟩) l.blocks.length l.blocks.length) Hgo.out.2
     have hg9w:w.heap.size<=g9:=Nat.le_trans HE4.out.size hg9
     have hR0l:R0 < W4.heap.size:=HBr4.out.lt
     have hrow:RowS (fun i=>N i\/i=g9\/i=R0) w1 (.slice (some ⟨g9,0,none⟩) l.blocks.length l.blocks.length) l.blocks:=⟨M,by rw [<-hv9];exact k1.mono (Nat.zero_le _),fun y hy=>stab_okB _ _ _ _ _ (k2 y hy) fun k hk _=>⟨fun q=>by
      rcases q with q | q | q
      ·have:=HNl.out k q;omega
      ·omega
      ·omega,rfl⟩,k3⟩
     have HR9b:SvR (fun i=>N i\/i=g9\/i=R0) Q w1 b m sb mp ⟨s.objs,idsL s l⟩:=HR9.out.kept (Q2:=fun _=>False) (Kq.refl w1) (fun _ q=>q.elim) fun i q=>by
      rcases q with q | q | q
      ·exact .inl (.inl q)
      ·exact .inl (.inr (by omega))
      ·exact .inl (.inr (by have:=Hn.out;omega))
     have hlw:=Hlow.out
     have HRp:Hid (SvR (fun i=>N i\/i=g9\/i=R0) (fun i=>Q i\/(Value.slice (some ⟨g9,0,none⟩) l.blocks.length l.blocks.length).ownBlock=some i) W5 b m sb (mp++[(l.obj,.slice (some ⟨g9,0,none⟩) l.blocks.length l.blocks.length)]) ⟨s.objs++[(l.obj,l.blocks)],idsL s l⟩):=Bl.hid (HR9b.put (fun i q=> .inl (HNQ.out i q)) Hgo.out.1 hM5 hK5 hrow fun i q=>by
      have e:g9=i:=Option.some.inj q
      subst e
      have h1:=hlw m (.inl HR9b.qm)
      have h2:=hlw sb (.inl HR9b.qs)
      have h3:=hlw b (.inr rfl)
      exact⟨k4,by omega,by omega,by omega⟩)
     have hKm:Kq Q w1 W5:=hK5.mono fun i _ q=>q▸HR9b.qm
     have HE5:Hid (Kq Q w W5):=Bl.hid (HE4.out.trans ((Kq.of_ext HE9.out).trans hKm))
     have hml:∀X,w.heap.size<=X->X≠m:=fun X hX q=>by have:=hlw m (.inl HR9b.qm);omega
     have HBk5:=Bl.hid (hK5.box (hml A0 Hn.out.2.2.2) (HBk4.out.ext HE9.out))
     have HBr5:=Bl.hid (hK5.box (hml R0 (by rw [Hn.out.2.1];omega)) (HBr4.out.ext HE9.out))
     have HgR:Hid (g9 < W5.heap.size/\w.heap.size<=g9/\R0 < W5.heap.size/\W4.heap.size<=g9):=Bl.hid ⟨Nat.lt_of_lt_of_le k4 hK5.size,hg9w,by have:=hK5.size;have:=HE9.out.size;omega,hg9⟩
     simp only [hv9]
     clear hext hend hJ hv9 k1 k2 k3 k4 hM5 hK5 hrow HR9b hKm hml hlw hg9 hg9w hR0l
     have Hlk5:=Bl.hid (HBk5.out.load (P:=Tryz.prog) Tryz.underlying26 rfl (by kernel_rfl))
     have Hst5:=Bl.hid (HBr5.out.store (P:=Tryz.prog) (cs':=cL (ackL l) nilV nilV nilV) rfl (cL_one ⟨_,_,_,rfl⟩ ⟨_,_,_,rfl⟩ ⟨_,_,_,rfl⟩) (ty:=26) (by kernel_rfl))
     have HBr6:=Bl.hid (HBr5.out.set (cs':=cL (ackL l) nilV nilV nilV) rfl)
     have HK6:Hid (Kq (fun k=>k=R0) W5 (W5.setCells R0 0 (cL (ackL l) nilV nilV nilV))):=Bl.hid ((Kq.refl W5).setCells (Q:=fun k=>k=R0) rfl 0 _)
     go_wp2_with (with_reducible refine stop_load (ty:=26) ?_)
     refine go_on ?_
     refine wpL_load rfl Hlk5.out ?_
     go_wp2_with (with_reducible refine stop_store (ty:=26) ?_)
     refine go_on ?_
     refine wpL_store0 rfl rfl Hst5.out ?_
     go_wp2_with fail
     refine bodyPost_ret (v:= .agg (cL (ackL l) nilV nilV nilV).toArray) (results_cell rfl rfl (HBr6.out.loadVar (P:=Tryz.prog) Tryz.underlying26 rfl (by kernel_rfl))) rfl ⟨?_,?_⟩
     ·rw [(HpN.out (by rw [<-HK.out];exact h4)).2]
     ·rw [(HpN.out (by rw [<-HK.out];exact h4)).1]
      have hk2:Kq Q w (W5.setCells R0 0 (cL (ackL l) nilV nilV nilV)):=by
       have h1:Kq (fun i=>Q i\/i=R0) w (W5.setCells R0 0 (cL (ackL l) nilV nilV nilV)):=(HE5.out.mono fun i _ q=> .inl q).trans (HK6.out.mono fun i _ q=> .inr q)
       exact h1.mono fun i hi q=>by
        rcases q with q | q
        ·exact q
        ·have:=Hn.out;omega
      have hgq:∀i,(Value.slice (some ⟨g9,0,none⟩) l.blocks.length l.blocks.length).ownBlock=some i->i=g9:=fun i q=>(Option.some.inj q).symm
      refine⟨hk2,_,_,⟨m,sb,_,HRp.out.kept HK6.out (fun i q=>⟨.inr (.inr q),fun r=> ?_,fun r=> ?_⟩) (fun i q=> .inl q)⟩,fun i q=> ?_,fun i q=> .inl q,fun i q=> .inl q,fun i q=> ?_,fun i q=> ?_,fun i q=> ?_⟩
      ·rcases r with r | r
       ·have:=Hlow.out i (.inl r);have:=Hn.out;omega
       ·have:=hgq i r;have:=HgR.out;have:=HBr4.out.lt;omega
      ·have:=Hlow.out i (.inr r);have:=Hn.out;omega
      ·rcases q with q | q | q
       ·exact .inl q
       ·exact .inr (by have:=HgR.out;omega)
       ·exact .inr (by have:=Hn.out;omega)
      ·rcases q with q | q
       ·exact .inl (HNQ.out i q)
       ·exact .inr (.inl (hgq i q))
      ·rcases q with q | q
       ·exact .inl q
       ·exact .inr (by have:=hgq i q;have:=HgR.out;omega)
      ·refine Nat.lt_of_lt_of_le ?_ HK6.out.size
       rcases q with q | q | q
       ·exact Nat.lt_of_lt_of_le (HNl.out i q) HE5.out.size
       ·have:=HgR.out;omega
       ·have:=HgR.out;omega
    case hJ0=>exact ChN.start trivial
  case hJ0=>exact Bl.HJ.start (HSb3.out.ext (Below.refl _ _).drew)
 case hJ0=>trivial
theorem sput_any (b:Nat) (N Q:Nat->Prop) (s:ShT) (v:Value) (l:Bl.LT) (w:World) (hS:SvX N Q w b s) (hNQ:∀i,Q i->N i) (hNl:∀i,N i->i < w.heap.size) (hL:LtW N w v l) (hc:chkL l=0) (hk:l.kind=1):
  Calls Tryz.prog 37 #[.pointer (some ⟨b,0,none⟩),v] w fun e w'=>e= .returned (.agg (cL (putL s l) nilV nilV nilV).toArray)/\SvGo N Q w w' b (putS s l):=by
 cases hg:getO s l.obj with
 | some st=>exact sput_some b N Q s v l w hS hNQ hNl hL hc hk st hg
 | none=>exact sput_none b N Q s v l w hS hNQ hNl hL hc hk hg
end Go.Proofs.YtglenbikdahgjaaGreatDoor
