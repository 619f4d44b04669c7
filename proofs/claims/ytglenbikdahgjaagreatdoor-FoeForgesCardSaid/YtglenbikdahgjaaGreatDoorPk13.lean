/- Walks of tree.Inner, Leaf, Node, baileeref12.Leaf, Node. -/
import Derived.Test.YtglenbikdahgjaaGreatDoorPk09
import Derived.Test.YtglenbikdahgjaaGreatDoorPk12
import Derived.Test.YtglenbikdahgjaaGreatDoorPk03
set_option maxRecDepth 100000
set_option maxHeartbeats 16000000
namespace Go.Proofs.YtglenbikdahgjaaGreatDoor
open Go.RowKit Go.Proofs Go.Proofs.Bl
theorem inner_own (l r:List Int) (w:World) (hl:l.length=32) (hr:r.length=32):
  Calls Tryz.prog 92 #[.agg (ints .u8 l).toArray,.agg (ints .u8 r).toArray] w fun e w'=>∃v',e= .returned v'/\w'.ownsRow w.heap.size 5 1 v' ((l++r).length+1) (ints .u8 (1 :: (l++r)))/\Ext w w':=by
 have Hl:=Bl.hid hl
 have Hr:=Bl.hid hr
 clear hl hr
 go_enter Tryz.func92,Tryz.ntmps92
 go_wp2_with fail
 have h1:=rangeAt_ext (range_box w l 54) (ext_alloc _ (.cells (ints .u8 r).toArray 54))
 have h2:=range_box (w.alloc (.cells (ints .u8 l).toArray 54)) r 54
 rw [World.size_alloc]at h2
 have HE:Hid (Ext w ((w.alloc (.cells (ints .u8 l).toArray 54)).alloc (.cells (ints .u8 r).toArray 54))):=Bl.hid ((ext_alloc _ _).trans (ext_alloc _ _))
 obtain⟨W,hW⟩:∃W,W=(w.alloc (.cells (ints .u8 l).toArray 54)).alloc (.cells (ints .u8 r).toArray 54):=⟨_,rfl⟩
 rw [<-hW]at h1 h2 HE⊢
 have HL:=Bl.hid (rd_box h1 Hl.out (by decide))
 have HR:=Bl.hid (rd_box h2 Hr.out (by decide))
 clear hW h1 h2
 apply wp_region_ev 5 [5,6,7,8,9] [(fun v w'=>SlB w' v [1]),eqv _,eqv _,(fun v w'=>Rdss w' v [[1],l,r]),(fun v w'=>w'.ownsRow w.heap.size 5 1 v ((l++r).length+1) (ints .u8 (1 :: (l++r))))] (by kernel_rfl) (by kernel_rfl) (by kernel_rfl) (by kernel_rfl)
 case hsteps=>
  refine⟨?_,?_,?_,?_,?_,trivial⟩
  all_goals
   intro ev w1 hext hb hd
   have e2:=hb 2 (by decide)
   have e3:=hb 3 (by decide)
   clear hb
   simp only [Qa,Qb,Q1,Bl.Q2,Qd]at e2 e3
   simp only [DepsE,Q1,Bl.Q2,Qc,Q3,Q4,eqv,and_true]at hd
   have hc:=(bcell hext).1
   try (obtain⟨⟨p5,c5,h5,h5r⟩,h6,h7⟩:=hd;rw [h5]at h5r)
   simp only [Bl.Good,Region.wanted,if_true]
   go_simp
   first | exact⟨ext_alloc _ _,slB_one _ _ _⟩ | exact⟨ext_alloc _ _,rdss_three h5r (HL.out.ext hext) (HR.out.ext hext) _⟩ | (go_at_call 100;refine(concB_own _ [[1],l,r] _ hd (by simp) (by simp [Hl.out,Hr.out])).mono ?_;rintro e w2 ⟨v',rfl,h1,h2⟩;exact⟨_,rfl,h2,(by have h3:=owns_mono h1 (Nat.le_trans HE.out.size hext.size);simpa using h3)⟩) | exact⟨Below.refl _ _,rfl⟩
 case hmono=>exact⟨(fun _ _ _ h k=>SlB.ext h k),mono_eqv _,mono_eqv _,(fun _ _ _ h k=>Rdss.ext h k),(fun _ _ _ h k=>owns_ext h k),trivial⟩
 case hend=>
  intro u w1 hext hend
  simp only [EndE,Q1,Bl.Q2,Qc,Q3,Q4,eqv,true_and]at hend
  simp only [fillAct,Q5,Q6,Q7,Q8,Q9,hend]
  have hrd:=hend.2
  have HE1:=Bl.hid (HE.out.trans hext)
  have Hrd:=Bl.hid hrd
  clear hend hext hrd
  go_wp2_with fail
  go_ret
  exact⟨_,rfl,Hrd.out,HE1.out⟩
theorem inner_any (l r:List Int) (w:World) (hl:l.length=32) (hr:r.length=32):
  Calls Tryz.prog 92 #[.agg (ints .u8 l).toArray,.agg (ints .u8 r).toArray] w fun e w'=>∃v',e= .returned v'/\Rd w' .u8 v' (1 :: (l++r))/\Ext w w':=
 (inner_own l r w hl hr).mono fun _ _ ⟨v',h1,h2,h3⟩=>⟨v',h1,Rds.of_owns h2,h3⟩
theorem leaf_any (v:Value) (l:List Int) (w:World) (hR:Rd w .u8 v l) (hg:Glob w) (hby:Byt l) (hlen:l.length<=1099511627000):
  Calls Tryz.prog 91 #[v] w fun e w'=>e= .returned (.agg (ints .u8 (lfD l)).toArray)/\Ext w w':=by
 obtain⟨p,c,hvf,hvn,hvc⟩:=hR.form
 subst hvf
 have Hv:=Bl.hid hR
 have Hg:=Bl.hid hg
 have Hby:=Bl.hid hby
 clear hR hg hby
 go_enter Tryz.func91,Tryz.ntmps91
 go_wp2_with fail
 have HF0:=Bl.hid (fam_new w 32 .u8 54 #[.int .u8 0,.int .u8 0,.int .u8 0,.int .u8 0,.int .u8 0,.int .u8 0,.int .u8 0,.int .u8 0,.int .u8 0,.int .u8 0,.int .u8 0,.int .u8 0,.int .u8 0,.int .u8 0,.int .u8 0,.int .u8 0,.int .u8 0,.int .u8 0,.int .u8 0,.int .u8 0,.int .u8 0,.int .u8 0,.int .u8 0,.int .u8 0,.int .u8 0,.int .u8 0,.int .u8 0,.int .u8 0,.int .u8 0,.int .u8 0,.int .u8 0,.int .u8 0] rfl)
 have HE0:=Bl.hid (ext_alloc w (.cells #[.int .u8 0,.int .u8 0,.int .u8 0,.int .u8 0,.int .u8 0,.int .u8 0,.int .u8 0,.int .u8 0,.int .u8 0,.int .u8 0,.int .u8 0,.int .u8 0,.int .u8 0,.int .u8 0,.int .u8 0,.int .u8 0,.int .u8 0,.int .u8 0,.int .u8 0,.int .u8 0,.int .u8 0,.int .u8 0,.int .u8 0,.int .u8 0,.int .u8 0,.int .u8 0,.int .u8 0,.int .u8 0,.int .u8 0,.int .u8 0,.int .u8 0,.int .u8 0] 54))
 obtain⟨W0,hW0⟩:∃W0,W0=w.alloc (.cells #[.int .u8 0,.int .u8 0,.int .u8 0,.int .u8 0,.int .u8 0,.int .u8 0,.int .u8 0,.int .u8 0,.int .u8 0,.int .u8 0,.int .u8 0,.int .u8 0,.int .u8 0,.int .u8 0,.int .u8 0,.int .u8 0,.int .u8 0,.int .u8 0,.int .u8 0,.int .u8 0,.int .u8 0,.int .u8 0,.int .u8 0,.int .u8 0,.int .u8 0,.int .u8 0,.int .u8 0,.int .u8 0,.int .u8 0,.int .u8 0,.int .u8 0,.int .u8 0] 54):=⟨_,rfl⟩
 rw [<-hW0]at HF0 HE0⊢
 clear hW0
 refine(outer_any _ l W0 (Hv.out.ext HE0.out) hlen).mono ?_
 rintro e w1 ⟨v1,rfl,hr1,hE1⟩
 obtain⟨p1,c1,hf1,_,_⟩:=hr1.form
 subst hf1
 have H1:=Bl.hid (rdss_1 hr1 27)
 have HE1:Hid (Ext W0 (w1.alloc (.cells #[.slice p1 (0 :: l).length c1] 27))):=Bl.hid (hE1.trans (ext_alloc _ _))
 clear hr1 hE1
 go_wp2_with fail
 refine(of_any _ [0 :: l] _ H1.out (Hg.out.ext (HE0.out.trans HE1.out)) (by simpa using byt_cons (by decide) (by decide) Hby.out) (by simp;omega)).mono ?_
 rintro e w2 ⟨rfl,hE2⟩
 have hsh:Bl.sha ([0 :: l]:List (List Int)).flatten=lfD l:=by unfold lfD;rw [List.flatten_singleton]
 rw [hsh]
 obtain⟨sh,hsh⟩:∃sh,sh=lfD l:=⟨_,rfl⟩
 have Hshl:Hid (sh.length=32):=Bl.hid (by rw [hsh];rfl)
 have Hsh:=Bl.hid hsh
 rw [<-hsh]
 have HE2:=Bl.hid (HE1.out.trans hE2)
 clear hE2 H1 HE1 hsh
 have HFc:=Bl.hid (HF0.out.below HE2.out (World.block_lt_of_cell? _ _ (HF0.out.1 0 (by decide))))
 have Hstc:=Bl.hid (store_ints (P:=Tryz.prog) (k:= .u8) (ty:=54) (l:=sh) HFc.out.there (by kernel_rfl) Hshl.out)
 go_wp2_with (((with_reducible refine wpL_store ?_ ?_ Hstc.out ?_);rfl;rfl))
 have hinc:=World.rangeAt_setCells_same _ (w.heap.size) 0 (ints .u8 sh) (by rw [ints_length,Hshl.out];exact HFc.out.there)
 have hldc:=run_loadVar_mid (P:=Tryz.prog) _ (w.heap.size) 0 54 (ints .u8 sh) _ hinc Tryz.underlying54 rfl (by rw [ints_length,Hshl.out];kernel_rfl)
 refine bodyPost_ret (v:= .agg (ints .u8 sh).toArray) (results_cell rfl rfl hldc) rfl ⟨by rw [Hsh.out],below_setCells _ _ _ _ (HE0.out.trans HE2.out) (Nat.le_refl _)⟩
theorem node_any (l r:List Int) (w:World) (hl:l.length=32) (hr:r.length=32) (hbl:Byt l) (hbr:Byt r) (hg:Glob w):
  Calls Tryz.prog 131 #[.agg (ints .u8 l).toArray,.agg (ints .u8 r).toArray] w fun e w'=>e= .returned (.agg (ints .u8 (ndD l r)).toArray)/\Ext w w':=by
 have Hl:=Bl.hid hl
 have Hr:=Bl.hid hr
 have Hby:Hid (Byt (1 :: (l++r))):=Bl.hid (byt_cons (by decide) (by decide) (hbl.append hbr))
 have Hg:=Bl.hid hg
 clear hl hr hbl hbr hg
 go_enter Tryz.func131,Tryz.ntmps131
 go_wp2_with (with_reducible refine stop_load (ty:=54) ?_)
 refine go_on ?_
 have h1:=rangeAt_ext (rangeAt_ext (range_box w l 54) (ext_alloc _ (.cells (ints .u8 r).toArray 54))) (ext_alloc _ (.cells #[.int .u8 0,.int .u8 0,.int .u8 0,.int .u8 0,.int .u8 0,.int .u8 0,.int .u8 0,.int .u8 0,.int .u8 0,.int .u8 0,.int .u8 0,.int .u8 0,.int .u8 0,.int .u8 0,.int .u8 0,.int .u8 0,.int .u8 0,.int .u8 0,.int .u8 0,.int .u8 0,.int .u8 0,.int .u8 0,.int .u8 0,.int .u8 0,.int .u8 0,.int .u8 0,.int .u8 0,.int .u8 0,.int .u8 0,.int .u8 0,.int .u8 0,.int .u8 0] 54))
 have h2:=rangeAt_ext (range_box (w.alloc (.cells (ints .u8 l).toArray 54)) r 54) (ext_alloc _ (.cells #[.int .u8 0,.int .u8 0,.int .u8 0,.int .u8 0,.int .u8 0,.int .u8 0,.int .u8 0,.int .u8 0,.int .u8 0,.int .u8 0,.int .u8 0,.int .u8 0,.int .u8 0,.int .u8 0,.int .u8 0,.int .u8 0,.int .u8 0,.int .u8 0,.int .u8 0,.int .u8 0,.int .u8 0,.int .u8 0,.int .u8 0,.int .u8 0,.int .u8 0,.int .u8 0,.int .u8 0,.int .u8 0,.int .u8 0,.int .u8 0,.int .u8 0,.int .u8 0] 54))
 rw [World.size_alloc]at h2
 have h3:=fam_new ((w.alloc (.cells (ints .u8 l).toArray 54)).alloc (.cells (ints .u8 r).toArray 54)) 32 .u8 54 #[.int .u8 0,.int .u8 0,.int .u8 0,.int .u8 0,.int .u8 0,.int .u8 0,.int .u8 0,.int .u8 0,.int .u8 0,.int .u8 0,.int .u8 0,.int .u8 0,.int .u8 0,.int .u8 0,.int .u8 0,.int .u8 0,.int .u8 0,.int .u8 0,.int .u8 0,.int .u8 0,.int .u8 0,.int .u8 0,.int .u8 0,.int .u8 0,.int .u8 0,.int .u8 0,.int .u8 0,.int .u8 0,.int .u8 0,.int .u8 0,.int .u8 0,.int .u8 0] rfl
 simp only [World.size_alloc]at h3
 have HE:Hid (Ext w (((w.alloc (.cells (ints .u8 l).toArray 54)).alloc (.cells (ints .u8 r).toArray 54)).alloc (.cells #[.int .u8 0,.int .u8 0,.int .u8 0,.int .u8 0,.int .u8 0,.int .u8 0,.int .u8 0,.int .u8 0,.int .u8 0,.int .u8 0,.int .u8 0,.int .u8 0,.int .u8 0,.int .u8 0,.int .u8 0,.int .u8 0,.int .u8 0,.int .u8 0,.int .u8 0,.int .u8 0,.int .u8 0,.int .u8 0,.int .u8 0,.int .u8 0,.int .u8 0,.int .u8 0,.int .u8 0,.int .u8 0,.int .u8 0,.int .u8 0,.int .u8 0,.int .u8 0] 54))):=Bl.hid (((ext_alloc _ _).trans (ext_alloc _ _)).trans (ext_alloc _ _))
 obtain⟨W,hW⟩:∃W,W=((w.alloc (.cells (ints .u8 l).toArray 54)).alloc (.cells (ints .u8 r).toArray 54)).alloc (.cells #[.int .u8 0,.int .u8 0,.int .u8 0,.int .u8 0,.int .u8 0,.int .u8 0,.int .u8 0,.int .u8 0,.int .u8 0,.int .u8 0,.int .u8 0,.int .u8 0,.int .u8 0,.int .u8 0,.int .u8 0,.int .u8 0,.int .u8 0,.int .u8 0,.int .u8 0,.int .u8 0,.int .u8 0,.int .u8 0,.int .u8 0,.int .u8 0,.int .u8 0,.int .u8 0,.int .u8 0,.int .u8 0,.int .u8 0,.int .u8 0,.int .u8 0,.int .u8 0] 54):=⟨_,rfl⟩
 rw [<-hW]at h1 h2 h3 HE⊢
 have Hld1:=Bl.hid (load_ints (P:=Tryz.prog) (ty:=54) h1 Tryz.underlying54 (by kernel_rfl) Hl.out)
 have Hld2:=Bl.hid (load_ints (P:=Tryz.prog) (ty:=54) h2 Tryz.underlying54 (by kernel_rfl) Hr.out)
 have HF0:=Bl.hid h3
 clear hW h1 h2 h3
 refine wpL_load rfl Hld1.out ?_
 go_wp2_with (with_reducible refine stop_load (ty:=54) ?_)
 refine go_on ?_
 refine wpL_load rfl Hld2.out ?_
 clear Hld1 Hld2
 go_wp2_with fail
 refine(inner_any l r W Hl.out Hr.out).mono ?_
 rintro e w1 ⟨v1,rfl,hr1,hE1⟩
 obtain⟨p1,c1,hf1,_,_⟩:=hr1.form
 obtain⟨n1,hn1⟩:∃n1,n1=(1 :: (l++r)).length:=⟨_,rfl⟩
 rw [<-hn1]at hf1
 clear hn1
 subst hf1
 have H1:=Bl.hid (rdss_1 hr1 27)
 have HE1:Hid (Ext W (w1.alloc (.cells #[.slice p1 n1 c1] 27))):=Bl.hid (hE1.trans (ext_alloc _ _))
 clear hr1 hE1
 go_wp2_with fail
 refine(of_any _ [1 :: (l++r)] _ H1.out (Hg.out.ext (HE.out.trans HE1.out)) (by simpa using Hby.out) (by simp [Hl.out,Hr.out])).mono ?_
 rintro e w2 ⟨rfl,hE2⟩
 have hsh:Bl.sha ([1 :: (l++r)]:List (List Int)).flatten=ndD l r:=by unfold ndD;rw [List.flatten_singleton]
 rw [hsh]
 obtain⟨sh,hsh⟩:∃sh,sh=ndD l r:=⟨_,rfl⟩
 have Hshl:Hid (sh.length=32):=Bl.hid (by rw [hsh];rfl)
 have Hsh:=Bl.hid hsh
 rw [<-hsh]
 have HE2:=Bl.hid (HE1.out.trans hE2)
 clear hE2 H1 HE1 hsh
 have HFc:=Bl.hid (HF0.out.below HE2.out (World.block_lt_of_cell? _ _ (HF0.out.1 0 (by decide))))
 have Hstc:=Bl.hid (store_ints (P:=Tryz.prog) (k:= .u8) (ty:=54) (l:=sh) HFc.out.there (by kernel_rfl) Hshl.out)
 go_wp2_with (((with_reducible refine wpL_store ?_ ?_ Hstc.out ?_);rfl;rfl))
 have hinc:=World.rangeAt_setCells_same _ (w.heap.size+1+1) 0 (ints .u8 sh) (by rw [ints_length,Hshl.out];exact HFc.out.there)
 have hldc:=run_loadVar_mid (P:=Tryz.prog) _ (w.heap.size+1+1) 0 54 (ints .u8 sh) _ hinc Tryz.underlying54 rfl (by rw [ints_length,Hshl.out];kernel_rfl)
 refine bodyPost_ret (v:= .agg (ints .u8 sh).toArray) (results_cell rfl rfl hldc) rfl ⟨by rw [Hsh.out],below_setCells _ _ _ _ (HE.out.trans HE2.out) (by omega)⟩
theorem refleaf_any (v:Value) (l:List Int) (w:World) (hR:Rd w .u8 v l) (hg:GlobR w) (hby:Byt l) (hlen:l.length<=1099511627000):
  Calls Tryz.prog 79 #[v] w fun e w'=>e= .returned (.agg (ints .u8 (lfD l)).toArray)/\Ext w w':=by
 obtain⟨p,c,hvf,hvn,hvc⟩:=hR.form
 subst hvf
 have Hv:=Bl.hid hR
 have Hg:=Bl.hid hg
 have Hby:=Bl.hid hby
 clear hR hg hby
 go_enter Tryz.func79,Tryz.ntmps79
 go_wp2_with (with_reducible refine stop_append ?_)
 refine go_on ?_
 have HF0:=Bl.hid (fam_new w 32 .u8 52 #[.int .u8 0,.int .u8 0,.int .u8 0,.int .u8 0,.int .u8 0,.int .u8 0,.int .u8 0,.int .u8 0,.int .u8 0,.int .u8 0,.int .u8 0,.int .u8 0,.int .u8 0,.int .u8 0,.int .u8 0,.int .u8 0,.int .u8 0,.int .u8 0,.int .u8 0,.int .u8 0,.int .u8 0,.int .u8 0,.int .u8 0,.int .u8 0,.int .u8 0,.int .u8 0,.int .u8 0,.int .u8 0,.int .u8 0,.int .u8 0,.int .u8 0,.int .u8 0] rfl)
 have HE0:=Bl.hid (ext_alloc w (.cells #[.int .u8 0,.int .u8 0,.int .u8 0,.int .u8 0,.int .u8 0,.int .u8 0,.int .u8 0,.int .u8 0,.int .u8 0,.int .u8 0,.int .u8 0,.int .u8 0,.int .u8 0,.int .u8 0,.int .u8 0,.int .u8 0,.int .u8 0,.int .u8 0,.int .u8 0,.int .u8 0,.int .u8 0,.int .u8 0,.int .u8 0,.int .u8 0,.int .u8 0,.int .u8 0,.int .u8 0,.int .u8 0,.int .u8 0,.int .u8 0,.int .u8 0,.int .u8 0] 52))
 have hown:=owns_new (w.alloc (.cells #[.int .u8 0,.int .u8 0,.int .u8 0,.int .u8 0,.int .u8 0,.int .u8 0,.int .u8 0,.int .u8 0,.int .u8 0,.int .u8 0,.int .u8 0,.int .u8 0,.int .u8 0,.int .u8 0,.int .u8 0,.int .u8 0,.int .u8 0,.int .u8 0,.int .u8 0,.int .u8 0,.int .u8 0,.int .u8 0,.int .u8 0,.int .u8 0,.int .u8 0,.int .u8 0,.int .u8 0,.int .u8 0,.int .u8 0,.int .u8 0,.int .u8 0,.int .u8 0] 52)) 5 #[.int .u8 0] (w.heap.size+1) 1 1 (by simp) (by decide) rfl
 simp only [World.size_alloc]at hown
 have hE1:=ext_alloc (w.alloc (.cells #[.int .u8 0,.int .u8 0,.int .u8 0,.int .u8 0,.int .u8 0,.int .u8 0,.int .u8 0,.int .u8 0,.int .u8 0,.int .u8 0,.int .u8 0,.int .u8 0,.int .u8 0,.int .u8 0,.int .u8 0,.int .u8 0,.int .u8 0,.int .u8 0,.int .u8 0,.int .u8 0,.int .u8 0,.int .u8 0,.int .u8 0,.int .u8 0,.int .u8 0,.int .u8 0,.int .u8 0,.int .u8 0,.int .u8 0,.int .u8 0,.int .u8 0,.int .u8 0] 52)) (.cells #[.int .u8 0] 5)
 have hs0:(w.alloc (.cells #[.int .u8 0,.int .u8 0,.int .u8 0,.int .u8 0,.int .u8 0,.int .u8 0,.int .u8 0,.int .u8 0,.int .u8 0,.int .u8 0,.int .u8 0,.int .u8 0,.int .u8 0,.int .u8 0,.int .u8 0,.int .u8 0,.int .u8 0,.int .u8 0,.int .u8 0,.int .u8 0,.int .u8 0,.int .u8 0,.int .u8 0,.int .u8 0,.int .u8 0,.int .u8 0,.int .u8 0,.int .u8 0,.int .u8 0,.int .u8 0,.int .u8 0,.int .u8 0] 52)).heap.size=w.heap.size+1:=by simp
 obtain⟨W0,hW0⟩:∃W0,W0=w.alloc (.cells #[.int .u8 0,.int .u8 0,.int .u8 0,.int .u8 0,.int .u8 0,.int .u8 0,.int .u8 0,.int .u8 0,.int .u8 0,.int .u8 0,.int .u8 0,.int .u8 0,.int .u8 0,.int .u8 0,.int .u8 0,.int .u8 0,.int .u8 0,.int .u8 0,.int .u8 0,.int .u8 0,.int .u8 0,.int .u8 0,.int .u8 0,.int .u8 0,.int .u8 0,.int .u8 0,.int .u8 0,.int .u8 0,.int .u8 0,.int .u8 0,.int .u8 0,.int .u8 0] 52):=⟨_,rfl⟩
 rw [<-hW0]at HF0 HE0 hown hE1 hs0⊢
 have Hown:=Bl.hid hown
 have HE1:=Bl.hid hE1
 have Hs0:=Bl.hid hs0
 clear hW0 hown hE1 hs0
 refine wpL_app tBytes Hown.out ((Hv.out.ext HE0.out).ext HE1.out) rfl rfl (by simp) (ints_one _ _) (by unfold maxLen;omega) (by omega) (by simp;rw [Hs0.out];omega) ?_
 intro q d w2 hown2 hg2 hB2 hK2 hn2 hc2
 have hrd:Rd w2 .u8 (.slice q (1+l.length) d) (0 :: l):=by
  have h:=Rds.of_owns hown2
  show Rds _ _ (l.length+1) _
  rw [Nat.add_comm l.length 1];exact h
 have HE2:Hid (Ext W0 w2):=Bl.hid (Below.trans HE1.out (by rw [Hs0.out];exact hB2))
 have Hrd:=Bl.hid hrd
 clear hown2 hg2 hB2 hK2 hrd HE1 Hown
 go_wp2_with fail
 refine(refof_any _ (0 :: l) w2 Hrd.out (Hg.out.ext (HE0.out.trans HE2.out)) (byt_cons (by decide) (by decide) Hby.out) (by simp;omega)).mono ?_
 rintro e w3 ⟨rfl,hE3⟩
 have hsh:Bl.sha (0 :: l)=lfD l:=rfl
 rw [hsh]
 obtain⟨sh,hsh⟩:∃sh,sh=lfD l:=⟨_,rfl⟩
 have Hshl:Hid (sh.length=32):=Bl.hid (by rw [hsh];rfl)
 have Hsh:=Bl.hid hsh
 rw [<-hsh]
 have HE3:=Bl.hid (HE2.out.trans hE3)
 clear hE3 HE2 hsh Hrd
 have HFc:=Bl.hid (HF0.out.below HE3.out (World.block_lt_of_cell? _ _ (HF0.out.1 0 (by decide))))
 have Hstc:=Bl.hid (store_ints (P:=Tryz.prog) (k:= .u8) (ty:=52) (l:=sh) HFc.out.there (by kernel_rfl) Hshl.out)
 go_wp2_with (((with_reducible refine wpL_store ?_ ?_ Hstc.out ?_);rfl;rfl))
 have hinc:=World.rangeAt_setCells_same _ (w.heap.size) 0 (ints .u8 sh) (by rw [ints_length,Hshl.out];exact HFc.out.there)
 have hldc:=run_loadVar_mid (P:=Tryz.prog) _ (w.heap.size) 0 52 (ints .u8 sh) _ hinc Tryz.underlying52 rfl (by rw [ints_length,Hshl.out];kernel_rfl)
 refine bodyPost_ret (v:= .agg (ints .u8 sh).toArray) (results_cell rfl rfl hldc) rfl ⟨by rw [Hsh.out],below_setCells _ _ _ _ (HE0.out.trans HE3.out) (Nat.le_refl _)⟩
theorem refnode_any (l r:List Int) (w:World) (hl:l.length=32) (hr:r.length=32) (hbl:Byt l) (hbr:Byt r) (hg:GlobR w):
  Calls Tryz.prog 86 #[.agg (ints .u8 l).toArray,.agg (ints .u8 r).toArray] w fun e w'=>e= .returned (.agg (ints .u8 (ndD l r)).toArray)/\Ext w w':=by
 have Hl:=Bl.hid hl
 have Hr:=Bl.hid hr
 have Hby:Hid (Byt (1 :: (l++r))):=Bl.hid (byt_cons (by decide) (by decide) (hbl.append hbr))
 have Hg:=Bl.hid hg
 clear hl hr hbl hbr hg
 go_enter Tryz.func86,Tryz.ntmps86
 go_wp2_with fail
 have h1:=rangeAt_ext (rangeAt_ext (range_box w l 52) (ext_alloc _ (.cells (ints .u8 r).toArray 52))) (ext_alloc _ (.cells #[.int .u8 0,.int .u8 0,.int .u8 0,.int .u8 0,.int .u8 0,.int .u8 0,.int .u8 0,.int .u8 0,.int .u8 0,.int .u8 0,.int .u8 0,.int .u8 0,.int .u8 0,.int .u8 0,.int .u8 0,.int .u8 0,.int .u8 0,.int .u8 0,.int .u8 0,.int .u8 0,.int .u8 0,.int .u8 0,.int .u8 0,.int .u8 0,.int .u8 0,.int .u8 0,.int .u8 0,.int .u8 0,.int .u8 0,.int .u8 0,.int .u8 0,.int .u8 0] 52))
 have h2:=rangeAt_ext (range_box (w.alloc (.cells (ints .u8 l).toArray 52)) r 52) (ext_alloc _ (.cells #[.int .u8 0,.int .u8 0,.int .u8 0,.int .u8 0,.int .u8 0,.int .u8 0,.int .u8 0,.int .u8 0,.int .u8 0,.int .u8 0,.int .u8 0,.int .u8 0,.int .u8 0,.int .u8 0,.int .u8 0,.int .u8 0,.int .u8 0,.int .u8 0,.int .u8 0,.int .u8 0,.int .u8 0,.int .u8 0,.int .u8 0,.int .u8 0,.int .u8 0,.int .u8 0,.int .u8 0,.int .u8 0,.int .u8 0,.int .u8 0,.int .u8 0,.int .u8 0] 52))
 rw [World.size_alloc]at h2
 have h3:=fam_new ((w.alloc (.cells (ints .u8 l).toArray 52)).alloc (.cells (ints .u8 r).toArray 52)) 32 .u8 52 #[.int .u8 0,.int .u8 0,.int .u8 0,.int .u8 0,.int .u8 0,.int .u8 0,.int .u8 0,.int .u8 0,.int .u8 0,.int .u8 0,.int .u8 0,.int .u8 0,.int .u8 0,.int .u8 0,.int .u8 0,.int .u8 0,.int .u8 0,.int .u8 0,.int .u8 0,.int .u8 0,.int .u8 0,.int .u8 0,.int .u8 0,.int .u8 0,.int .u8 0,.int .u8 0,.int .u8 0,.int .u8 0,.int .u8 0,.int .u8 0,.int .u8 0,.int .u8 0] rfl
 simp only [World.size_alloc]at h3
 have HE:Hid (Ext w (((w.alloc (.cells (ints .u8 l).toArray 52)).alloc (.cells (ints .u8 r).toArray 52)).alloc (.cells #[.int .u8 0,.int .u8 0,.int .u8 0,.int .u8 0,.int .u8 0,.int .u8 0,.int .u8 0,.int .u8 0,.int .u8 0,.int .u8 0,.int .u8 0,.int .u8 0,.int .u8 0,.int .u8 0,.int .u8 0,.int .u8 0,.int .u8 0,.int .u8 0,.int .u8 0,.int .u8 0,.int .u8 0,.int .u8 0,.int .u8 0,.int .u8 0,.int .u8 0,.int .u8 0,.int .u8 0,.int .u8 0,.int .u8 0,.int .u8 0,.int .u8 0,.int .u8 0] 52))):=Bl.hid (((ext_alloc _ _).trans (ext_alloc _ _)).trans (ext_alloc _ _))
 obtain⟨W,hW⟩:∃W,W=((w.alloc (.cells (ints .u8 l).toArray 52)).alloc (.cells (ints .u8 r).toArray 52)).alloc (.cells #[.int .u8 0,.int .u8 0,.int .u8 0,.int .u8 0,.int .u8 0,.int .u8 0,.int .u8 0,.int .u8 0,.int .u8 0,.int .u8 0,.int .u8 0,.int .u8 0,.int .u8 0,.int .u8 0,.int .u8 0,.int .u8 0,.int .u8 0,.int .u8 0,.int .u8 0,.int .u8 0,.int .u8 0,.int .u8 0,.int .u8 0,.int .u8 0,.int .u8 0,.int .u8 0,.int .u8 0,.int .u8 0,.int .u8 0,.int .u8 0,.int .u8 0,.int .u8 0] 52):=⟨_,rfl⟩
 rw [<-hW]at h1 h2 h3 HE⊢
 have HL:=Bl.hid h1
 have HR:=Bl.hid h2
 have HF0:=Bl.hid h3
 obtain⟨B,hB⟩:∃B,B=W.heap.size:=⟨_,rfl⟩
 have HB:=Bl.hid hB
 clear hW h1 h2 h3 hB
 apply wp_region_ev 4 [5,6,7,8] [(fun v w'=>One1 w' v 1),eqv _,(fun v w'=>OwnB w' v B 5 (1+32) (1 :: l)),eqv _] (by kernel_rfl) (by kernel_rfl) (by kernel_rfl) (by kernel_rfl)
 case hsteps=>
  refine⟨?_,?_,?_,?_,trivial⟩
  all_goals
   intro ev w1 hext hb hd
   have e2:=hb 2 (by decide)
   have e3:=hb 3 (by decide)
   clear hb
   simp only [Qa,Qb,Q1,Bl.Q2,Qd]at e2 e3
   simp only [DepsE,Q1,Bl.Q2,Qc,Q3,Q4,eqv,and_true]at hd
   have hc:=(bcell hext).1
   simp only [Bl.Good,Region.wanted,if_true]
   first
   | (obtain⟨c,w3,q1,q2,q3⟩:=app1 tBytes (Nat.le_refl 1) (B:=B) hd.1 ⟨w.heap.size,hd.2,rangeAt_ext HL.out hext⟩ Hl.out (by decide) (by decide) (by rw [HB.out];exact hext.size);refine goodR_appr q1 rfl rfl q2 ⟨_,c,rfl,q3⟩)
   | (go_simp;first | exact⟨ext_alloc _ _,one1_new _ _ _⟩ | exact⟨Below.refl _ _,rfl⟩)
 case hmono=>exact⟨(fun _ _ _ h k=>One1.ext h k),mono_eqv _,(fun _ _ _ h k=>OwnB.ext h k),mono_eqv _,trivial⟩
 case hend=>
  intro u w1 hext hend
  simp only [EndE,Q1,Bl.Q2,Qc,Q3,Q4,eqv,true_and]at hend
  simp only [fillAct,Q5,Q6,Q7,Q8,Q9,hend]
  obtain⟨⟨⟨_,_⟩,p,c,hq,hown⟩,_⟩:=hend
  rw [hq]at hown⊢
  have Hown:=Bl.hid hown
  have HR1:=Bl.hid ((rd_box HR.out Hr.out (by decide)).ext hext)
  have HE1:=Bl.hid hext
  clear hown hq hext
  go_wp2_with (with_reducible refine stop_append ?_)
  refine go_on ?_
  refine wpL_app tBytes Hown.out HR1.out rfl rfl (by simp) (ints_one _ _) (by rw [Hr.out];decide) (by rw [Hr.out];decide) (by rw [HB.out];exact HE1.out.size) ?_
  intro q d w2 hown2 hg2 hB2 hK2 hn2 hc2
  rw [<-ints_append]at hown2
  have HE2:Hid (Ext W w2):=Bl.hid (Below.trans HE1.out (by rw [HB.out]at hB2;exact hB2))
  have Hrd:Hid (Rd w2 .u8 (.slice q (1+32+r.length) d) (1 :: (l++r))):=Bl.hid (by
   have h:=Rds.of_owns hown2
   show Rds _ _ ((l++r).length+1) _
   rw [List.length_append,Hl.out,show 32+r.length+1=1+32+r.length from by omega];exact h)
  clear hown2 hg2 hB2 hK2 Hown HR1 HE1
  go_wp2_with fail
  refine(refof_any _ (1 :: (l++r)) w2 Hrd.out (Hg.out.ext (HE.out.trans HE2.out)) Hby.out (by simp [Hl.out,Hr.out])).mono ?_
  rintro e w3 ⟨rfl,hE3⟩
  have hsh:Bl.sha (1 :: (l++r))=ndD l r:=rfl
  rw [hsh]
  obtain⟨sh,hsh⟩:∃sh,sh=ndD l r:=⟨_,rfl⟩
  have Hshl:Hid (sh.length=32):=Bl.hid (by rw [hsh];rfl)
  have Hsh:=Bl.hid hsh
  rw [<-hsh]
  have HE3:=Bl.hid (HE2.out.trans hE3)
  clear hE3 HE2 hsh Hrd
  have HFc:=Bl.hid (HF0.out.below HE3.out (World.block_lt_of_cell? _ _ (HF0.out.1 0 (by decide))))
  have Hstc:=Bl.hid (store_ints (P:=Tryz.prog) (k:= .u8) (ty:=52) (l:=sh) HFc.out.there (by kernel_rfl) Hshl.out)
  go_wp2_with (((with_reducible refine wpL_store ?_ ?_ Hstc.out ?_);rfl;rfl))
  have hinc:=World.rangeAt_setCells_same _ (w.heap.size+1+1) 0 (ints .u8 sh) (by rw [ints_length,Hshl.out];exact HFc.out.there)
  have hldc:=run_loadVar_mid (P:=Tryz.prog) _ (w.heap.size+1+1) 0 52 (ints .u8 sh) _ hinc Tryz.underlying52 rfl (by rw [ints_length,Hshl.out];kernel_rfl)
  refine bodyPost_ret (v:= .agg (ints .u8 sh).toArray) (results_cell rfl rfl hldc) rfl ⟨by rw [Hsh.out],below_setCells _ _ _ _ (HE.out.trans HE3.out) (by omega)⟩
end Go.Proofs.YtglenbikdahgjaaGreatDoor
