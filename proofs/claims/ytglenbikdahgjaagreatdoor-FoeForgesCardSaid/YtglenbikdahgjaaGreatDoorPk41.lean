/- Walk of path.Clash where there is such a leaf. -/
import Derived.RegionIn
import Derived.Test.YtglenbikdahgjaaGreatDoorPk40
set_option maxRecDepth 100000
set_option maxHeartbeats 16000000
namespace Go.Proofs.Bl
open Go Go.RowKit
theorem kc_grown {W W':World} {row:Option Nat} (hg:W.grownBy W' row) (hr:∀r,row=some r->∃o:Obj,W.heap[r]? =some o/\o.isCells=false):KC W W':=fun _ _ hv=>cell_kept hv hg hr
theorem Rd.set_other {w:World} {k:IntKind} {v:Value} {l:List Int} (h:Rd w k v l) {p:Addr} {u:Value} (u':Value) (hp:w.cell? p=some u) (hu:∀x,u≠ .int k x):Rd (w.setCell p u') k v l:=by
 rcases h with h | ⟨b,o,c,h1,h2,h3,h4⟩
 ·exact .inl h
 ·refine .inr ⟨b,o,c,h1,h2,h3,fun j x hx=> ?_⟩
  have hj:=h4 j x hx
  rw [World.cell?_setCell_other _ _ _ _ (by
   intro q
   rw [q,hj]at hp
   injection hp with hp
   have hlt:j < l.length:=by have:=(List.getElem?_eq_some_iff.1 hx).1;rwa [ints_length]at this
   rw [ints_get k l j hlt]at hx
   injection hx with hx
   exact hu _ (hp.symm.trans hx.symm))]
  exact hj
end Go.Proofs.Bl
namespace Go.Proofs.YtglenbikdahgjaaGreatDoor
open Go Go.RowKit Go.Proofs Go.Proofs.Bl
attribute [local go_sem] Oper.semAt_some
def ClashIx (SA SB:List (List Int)) (m:Nat) (w:World) (c:Code) (pre:List (Fin (m+1))) (W:World):Prop:=
 (c= .ret/\∃p' x,pre=p'++[x]/\(∀y∈p',SA.getD (m+1 - 1 - y.val) []=SB.getD (m+1 - 1 - y.val) [])/\¬SA.getD (m+1 - 1 - x.val) []=SB.getD (m+1 - 1 - x.val) []/\∃vx vy,ThreeV W w.heap.size vx vy true/\Rd W .u8 vx (SA.getD (m+1 - 1 - x.val) [])/\Rd W .u8 vy (SB.getD (m+1 - 1 - x.val) []))/\Below w.heap.size w W
theorem ClashIx.own {SA SB:List (List Int)} {m:Nat} {w:World} {B:Nat} (hB:w.heap.size<=B) (c:Code):OwnFrom B (ClashIx SA SB m w c):=by
 refine OwnFrom.and (I:=fun(pre:List (Fin (m+1))) (W:World)=>c= .ret/\∃p' x,pre=p'++[x]/\(∀y∈p',SA.getD (m+1 - 1 - y.val) []=SB.getD (m+1 - 1 - y.val) [])/\¬SA.getD (m+1 - 1 - x.val) []=SB.getD (m+1 - 1 - x.val) []/\∃vx vy,ThreeV W w.heap.size vx vy true/\Rd W .u8 vx (SA.getD (m+1 - 1 - x.val) [])/\Rd W .u8 vy (SB.getD (m+1 - 1 - x.val) [])) ?_ (ownFrom_below (Nat.le_refl _) hB)
 rintro pre W W' row ⟨hc,p',x,h1,h2,h3,vx,vy,h4,h5,h6⟩ hgr hrow
 have hk:=kc_grown hgr (fun r e=>(hrow r e).2)
 exact⟨hc,p',x,h1,h2,h3,vx,vy,h4.kc hk,Rds.kc h5 hk,Rds.kc h6 hk⟩
theorem pclash_found (v vl vp:Value) (ps:List (List Int)) (n i:Nat) (l:List Int) (p:List (List Int)) (w:World) (S:List Nat) (a:Nat->Addr) (hR:Rdss w v ps) (hg:Glob w) (hby:∀q∈ps,Byt q) (hlp:∀q∈ps,q.length<=1099511626000) (hpn:ps.length=n) (hn:n<=512) (hi:i < n)
  (he:Errs S a w) (h1:1∈S) (h8:8∈S) (h15:15∈S) (hl:Rd w .u8 vl l) (hbl:Byt l) (hll:l.length<=1099511626000) (hp:RdD w vp p) (hdp:Dig p)
  (hpl:p.length=(turnsL n i).length) (hf:foldP ndD n i (lfD l) p=rootD ps) (hne:¬ps.getD i []=l):
  Calls Tryz.prog 19 #[v,.int .i64 i,vl,vp] w fun e w'=>∃x y,e= .returned (.tuple #[x,y,.bool true])/\ClashR w' x y/\Ext w w':=by
 have hlp':∀q∈ps,q.length<=1099511627000:=fun q hq=>by have:=hlp q hq;omega
 have hmem:ps.getD i []∈ps:=by rw [List.getD_eq_getElem?_getD,List.getElem?_eq_getElem (by omega)];exact List.getElem_mem (by omega)
 have hown:(pathD ps i).length=(turnsL n i).length:=by
  rw [pathD,pathL_len _ _ _ _ _ (Nat.le_refl _) (by rw [List.length_map];omega),List.length_map,hpn]
 have hdown:Dig (pathD ps i):=dig_path _ _ _ (Nat.le_refl _) (by rw [List.length_map];omega) (dig_leaves ps)
 have hfown:foldP ndD n i (lfD (ps.getD i [])) (pathD ps i)=rootD ps:=by
  have h:=foldP_path ndD zD _ (ps.map lfD) i (Nat.le_refl _) (by rw [List.length_map];omega) (by rw [List.length_map];omega)
  rw [List.length_map,hpn,getD_map lfD ps i [] zD (by omega)]at h
  exact h
 have HM:Hid (∀w2,Ext w w2->Calls Tryz.prog 46 #[v,.int .i64 i] w2 fun e w'=>∃v',e= .returned (.tuple #[v',.nilIface])/\RdD w' v' (pathD ps i)/\Ext w2 w'):=Bl.hid fun w2 h2=>
  pmake_any v ps i w2 (hR.ext h2) (hg.ext h2) hby hlp' (by omega) (by omega)
 have HRt:Hid (∀w2,Ext w w2->Calls Tryz.prog 52 #[v] w2 fun e w'=>e= .returned (.agg (ints .u8 (rootD ps)).toArray)/\Ext w2 w'):=Bl.hid fun w2 h2=>
  root_any v ps w2 (hR.ext h2) (hg.ext h2) hby hlp' (by omega)
 have HCk:Hid (∀w2,Ext w w2->Calls Tryz.prog 18 #[.agg (ints .u8 (rootD ps)).toArray,.int .i64 n,.int .i64 i,vl,vp] w2 fun e w'=>e= .returned .nilIface/\Ext w2 w'):=Bl.hid fun w2 h2=>by
  have h:=pcheck_any (rootD ps) n i vl vp l p w2 S a (he.ext h2) h1 h8 h15 (rootD_length ps (by omega)) (hl.ext h2) hbl hll (Rds.ext hp h2) hdp (hg.ext h2)
  rw [chkP_ok (thereB_mk (by omega) (by omega) (by omega)) hpl hf,errN_zero]at h
  exact h
 obtain⟨b,o,c,vs,hvf,hnc,hbl0,hvl,hrg,hel⟩:=hR.rows (by omega)
 subst hvf
 obtain⟨qi,di,hqi,hri⟩:=hel i (by omega)
 have hci0:w.cell? ⟨b,o+i,none⟩=some (.slice qi (ps.getD i []).length di):=by
  rw [<-hqi]
  refine hrg i _ ?_
  rw [List.getD_eq_getElem?_getD,List.getElem?_eq_getElem (by omega)];rfl
 obtain⟨x0,hx0⟩:∃x0,x0=ps.getD i []:=⟨_,rfl⟩
 have hsl0:=seqP_zero n i x0 (pathD ps i)
 have hsl1:=seqP_zero n i l p
 have HA:Hid (∀w2 v2,Ext w w2->RdD w2 v2 (pathD ps i)->Calls Tryz.prog 53 #[.int .i64 n,.int .i64 i,.slice qi x0.length di,v2] w2 fun e w'=>∃v',e= .returned v'/\Rdss w' v' (seqP n i x0 (pathD ps i))/\Ext w2 w'):=Bl.hid fun w2 v2 h2 h3=>
  bytesOf_any n i _ v2 x0 (pathD ps i) w2 hn hi (by rw [hx0];exact hri.ext h2) (by rw [hx0];exact hby _ hmem) (by rw [hx0];exact hlp _ hmem) h3 hdown hown (hg.ext h2)
 have HB:Hid (∀w2,Ext w w2->Calls Tryz.prog 53 #[.int .i64 n,.int .i64 i,vl,vp] w2 fun e w'=>∃v',e= .returned v'/\Rdss w' v' (seqP n i l p)/\Ext w2 w'):=Bl.hid fun w2 h2=>
  bytesOf_any n i vl vp l p w2 hn hi (hl.ext h2) hbl hll (Rds.ext hp h2) hdp hpl (hg.ext h2)
 have HEq:Hid (∀w2,Ext w w2->Calls Tryz.prog 51 #[.slice qi x0.length di,vl] w2 fun e w'=>e= .returned (.bool false)/\w2=w'):=Bl.hid fun w2 h2=>by
  have h:=equalB_any (.slice qi x0.length di) vl x0 l w2 (by rw [hx0];exact hri.ext h2) (hl.ext h2) (by rw [hx0];exact hby _ hmem) hbl
  rw [decide_eq_false (by rw [hx0];exact hne)]at h
  exact h
 have Hci:Hid (∀w2,Ext w w2->w2.cell? ⟨b,o+i,none⟩=some (.slice qi x0.length di)):=Bl.hid fun w2 h2=>by rw [hx0];exact((bcell h2).1 b (o+i) hbl0).trans hci0
 have hSBb:∀(q:List Int) (pp:List (List Int)),Byt q->Dig pp->pp.length=(turnsL n i).length->q.length<=1099511626000->∀j,j<=(turnsL n i).length->Byt ((seqP n i q pp).getD j [])/\((seqP n i q pp).getD j []).length<=1099511627000:=by
  intro q pp hq1 hq2 hq3 hq4 j hj
  cases j with
  | zero=>rw [seqP_zero];exact⟨byt_cons (by decide) (by decide) hq1,by rw [List.length_cons];omega⟩
  | succ k=>
   rw [seqP_succ hq3 k (by omega)]
   exact⟨stB_byt (sha_byt _) (hq2.get (by omega)).2,by rw [stB_len rfl (hq2.get (by omega)).1];decide⟩
 have HAb:=Bl.hid (hSBb x0 (pathD ps i) (by rw [hx0];exact hby _ hmem) hdown hown (by rw [hx0];exact hlp _ hmem))
 have HBb:=Bl.hid (hSBb l p hbl hdp hpl hll)
 have Hcl:=Bl.hid (fun k hk hs=>seqP_clash (l:=x0) (l':=l) hown hpl (fun k hk=>(hdown.get hk).1) (fun k hk=>(hdp.get hk).1) (by rw [hx0,hfown,hf]) k hk hs)
 have Hsla:=Bl.hid (seqP_len (l:=x0) hown)
 have Hslb:=Bl.hid (seqP_len (l:=l) hpl)
 have HBp:Hid (∀j,j<=(turnsL n i).length->0 < ((seqP n i l p).getD j []).length):=Bl.hid fun j hj=>by
  cases j with
  | zero=>rw [seqP_zero];exact Nat.succ_pos _
  | succ k=>rw [seqP_succ hpl k (by omega),stB_len rfl (hdp.get (by omega)).1];decide
 have Hne0:Hid (¬(seqP n i x0 (pathD ps i)).getD 0 []=(seqP n i l p).getD 0 []):=Bl.hid (by
  rw [hsl0,hsl1,hx0];intro q;injection q with _ q;exact hne q)
 obtain⟨SA,hSA⟩:∃SA,SA=seqP n i x0 (pathD ps i):=⟨_,rfl⟩
 obtain⟨SB,hSB⟩:∃SB,SB=seqP n i l p:=⟨_,rfl⟩
 obtain⟨m,hm⟩:∃m,m=(turnsL n i).length:=⟨_,rfl⟩
 rw [<-hSA]at HA HAb Hcl Hsla Hne0
 rw [<-hSB]at HB HBb Hcl Hslb Hne0 HBp
 rw [<-hm]at HAb HBb Hcl Hsla Hslb HBp
 have hm512:m<=512:=by rw [hm];have:=turnsL_len n n i (Nat.le_refl _) (by omega);omega
 rw [hpn]at hnc⊢HM HRt
 have hi0:(0:Int)<=(i:Int):=by omega
 have hin:(i:Int) < (n:Int):=by omega
 obtain⟨PD,hPD⟩:∃PD,PD=pathD ps i:=⟨_,rfl⟩
 rw [<-hPD]at HM HA
 obtain⟨RD,hRD⟩:∃RD,RD=rootD ps:=⟨_,rfl⟩
 rw [<-hRD]at HRt HCk
 obtain⟨W0,hW0⟩:∃W0,W0=((w.alloc (.cells #[.slice none 0 0] 27)).alloc (.cells #[.slice none 0 0] 27)).alloc (.cells #[.bool false] 4):=⟨_,rfl⟩
 have HE0:Hid (Ext w W0):=Bl.hid (by rw [hW0];exact((ext_alloc _ _).trans (ext_alloc _ _)).trans (ext_alloc _ _))
 have HT0:Hid (ThreeV W0 w.heap.size (.slice none 0 0) (.slice none 0 0) false/\W0.frozen? ⟨w.heap.size,0,none⟩=false/\W0.frozen? ⟨w.heap.size+1,0,none⟩=false/\W0.frozen? ⟨w.heap.size+1+1,0,none⟩=false/\W0.heap.size=w.heap.size+1+1+1):=Bl.hid (by
  have h:=three_new w (.slice none 0 0) (.slice none 0 0) (.bool false) 27 27 4
  rw [<-hW0]at h
  exact⟨⟨h.1,h.2.1,h.2.2.1⟩,h.2.2.2⟩)
 clear hR he hlp hlp' hmem hown hdown hfown hl hbl hp hdp hpl hf hne hbl0 hvl hrg hel hqi hri hci0 hx0 hsl0 hsl1 hSBb hSA hSB hm hpn hg hby hPD hRD hn
 refine(callsIn_wide (n:=9)).1 ?_
 refine callsIn_of_wp_marks Tryz.func19 rfl trivial ?_ rfl
 simp only [Tryz.ntmps19,List.size_toArray,List.length_cons,List.length_nil,Nat.reduceAdd,Nat.reduceSub,Array.replicate_succ,Array.replicate_zero,List.push_toArray,List.append_toArray,List.nil_append,List.cons_append]
 refine wpIn_wide.2 ?_
 go_wp2_with fail
 rw [<-hW0]
 clear hW0
 refine(HM.out W0 HE0.out).mono ?_
 rintro e w1 ⟨v1,rfl,hRo,hE1⟩
 have HE1:=Bl.hid hE1
 have HRo:=Bl.hid hRo
 have hcl:=Hci.out w1 (HE0.out.trans HE1.out)
 clear hE1 hRo HM
 go_wp2_with fail
 refine(HEq.out w1 (HE0.out.trans HE1.out)).mono ?_
 rintro e w2 ⟨rfl,hw2⟩
 subst hw2
 go_wp2_with fail
 refine(HRt.out w1 (HE0.out.trans HE1.out)).mono ?_
 rintro e w2 ⟨rfl,hE2⟩
 have HE2:=Bl.hid (HE1.out.trans hE2)
 have HRo2:=Bl.hid (Rds.ext HRo.out hE2)
 clear hE2 hcl HRo HRt HE1
 go_wp2_with fail
 refine(HCk.out w2 (HE0.out.trans HE2.out)).mono ?_
 rintro e w3 ⟨rfl,hE3⟩
 have HE3:=Bl.hid (HE2.out.trans hE3)
 have HRo3:=Bl.hid (Rds.ext HRo2.out hE3)
 have hcl:=Hci.out w3 (HE0.out.trans HE3.out)
 clear hE3 HRo2 HCk HE2 HEq
 go_wp2_with fail
 refine(HA.out w3 v1 (HE0.out.trans HE3.out) HRo3.out).mono ?_
 rintro e w4 ⟨va,rfl,hRa,hE4⟩
 obtain⟨ba,oa,ca,vsa,hva,hca,hbal,hvsal,hrga,hela⟩:=hRa.rows (by rw [Hsla.out];omega)
 subst hva
 rw [Hsla.out]at hvsal hca hela⊢
 have Hela:=Bl.hid hela
 have HE4:=Bl.hid (HE3.out.trans hE4)
 clear hE4 hRa hela hcl HRo3 HE3 HA
 go_wp2_with fail
 refine(HB.out w4 (HE0.out.trans HE4.out)).mono ?_
 rintro e w5 ⟨vb,rfl,hRb,hE5⟩
 obtain⟨bb,ob,cb,vsb,hvb,hcb,hbbl,hvsbl,hrgb,helb⟩:=hRb.rows (by rw [Hslb.out];omega)
 subst hvb
 rw [Hslb.out]at hvsbl hcb helb⊢
 have Helb:=Bl.hid helb
 have Hrga:=Bl.hid (rangeAt_ext hrga hE5)
 have Hrgb:=Bl.hid hrgb
 have Hela5:Hid (∀j,j < m+1->∃q d,vsa.getD j undef= .slice q (SA.getD j []).length d/\Rd w5 .u8 (.slice q (SA.getD j []).length d) (SA.getD j [])):=Bl.hid fun j hj=>by
  obtain⟨q,d,h1,h2⟩:=Hela.out j hj
  exact⟨q,d,h1,h2.ext hE5⟩
 have hbal5:=Nat.lt_of_lt_of_le hbal hE5.size
 have HE5:=Bl.hid (HE4.out.trans hE5)
 clear hE5 hRb helb HB HE4 hrga hrgb Hela hbal
 have hUc:(w5.alloc (.cells #[.slice (some ⟨bb,ob,none⟩) (m+1) cb] 22)).cell? ⟨w5.heap.size,0,none⟩=some (.slice (some ⟨bb,ob,none⟩) (m+1) cb):=cell_new1 w5 _ _
 have hE7:Ext w5 (w5.alloc (.cells #[.slice (some ⟨bb,ob,none⟩) (m+1) cb] 22)):=ext_alloc w5 _
 have hs7:(w5.alloc (.cells #[.slice (some ⟨bb,ob,none⟩) (m+1) cb] 22)).heap.size=w5.heap.size+1:=by simp
 go_wp2_with fail
 obtain⟨W7,hW7⟩:∃W7,W7=w5.alloc (.cells #[.slice (some ⟨bb,ob,none⟩) (m+1) cb] 22):=⟨_,rfl⟩
 rw [<-hW7]at hUc hE7 hs7⊢
 have hE7w:Ext w5 W7:=hE7
 have HE7:=Bl.hid (HE5.out.trans hE7w)
 clear hW7
 refine(backB_any W7 _ _ _).mono ?_
 rintro e w8 ⟨rfl,hw8⟩
 have hE8:Ext W7 w8:=by rw [hw8];exact ext_alloc _ _
 have hcs:w8.cell? ⟨W7.heap.size,0,none⟩=some (.slice (some ⟨ba,oa,none⟩) (m+1) ca):=by rw [hw8];exact cell_new1 _ _ _
 have hsz8:w8.heap.size=w5.heap.size+1+1:=by rw [hw8,World.size_alloc,hs7]
 have hUc8:=((bcell hE8).1 w5.heap.size 0 (by omega)).trans hUc
 have HE8:=Bl.hid (HE7.out.trans hE8)
 have hE58:Ext w5 w8:=hE7w.trans hE8
 have HrA:=Bl.hid (rangeAt_ext Hrga.out hE58)
 have HrB:=Bl.hid (rangeAt_ext Hrgb.out hE58)
 have HE58:=Bl.hid hE58
 obtain⟨⟨hc0,hc1,hc2⟩,hf0,hf1,hf2,hsz0⟩:=HT0.out
 have hs08:=HE8.out.size
 have d0:=((bcell HE8.out).1 _ 0 (by omega)).trans hc0
 have d1:=((bcell HE8.out).1 _ 0 (by omega)).trans hc1
 have d2:=((bcell HE8.out).1 _ 0 (by omega)).trans hc2
 have g0:=((bcell HE8.out).2 _ 0 (by omega)).trans hf0
 have g1:=((bcell HE8.out).2 _ 0 (by omega)).trans hf1
 have g2:=((bcell HE8.out).2 _ 0 (by omega)).trans hf2
 have HD:=Bl.hid (And.intro d0 (And.intro d1 (And.intro d2 (And.intro g0 (And.intro g1 g2)))))
 rw [hs7]at hcs⊢
 have HEw:=Bl.hid (HE0.out.trans HE8.out)
 clear hw8 hE8 hE7 hE58 hE7w hUc hc0 hc1 hc2 hf0 hf1 hf2 d0 d1 d2 g0 g1 g2 HE7 HE5 Hrga Hrgb
 go_wp2_with fail
 try rw [hs7]
 refine(wpIn_wide (n:=9)).1 ?_
 apply wpIn_rangeFunc_ownF (F:=Fence.wide) (encs:=fun x:Fin (m+1)=>#[.int .i64 ((m+1 - 1 - x.val:Nat):Int),vsa.getD (m+1 - 1 - x.val) undef]) (Kp:=Keep w8.heap.size w8.heap.size) rfl (by decide) (gf:=93) (lb:=#[.pointer (some ⟨w5.heap.size+1,0,none⟩)]) rfl trivial (enters_of Tryz.func93 (by kernel_rfl) rfl)
  (backB_stops 8 (w5.heap.size+1) w8.heap.size ba oa (m+1) ca vsa (by decide) hvsal (by omega) hca (by omega) w8 (by omega) (by omega) (by omega) (by omega) hcs HrA.out)
  (fun h k=>Keep.trans h k) (Keep.putObj (Nat.le_refl _)) (Below.refl _ _) (fun _=>rfl)
  (fun pre W=>(∀y∈pre,SA.getD (m+1 - 1 - y.val) []=SB.getD (m+1 - 1 - y.val) [])/\Below w8.heap.size w8 W)
  (ClashIx SA SB m w)
 case hI=>exact OwnFrom.and (ownFrom_pure _ _) (ownFrom_below (Nat.le_refl _) (Nat.le_refl _))
 case hIx=>exact fun c=>ClashIx.own (by omega) c
 case h0=>exact⟨(fun y hy=>by cases hy),Below.refl _ _⟩
 case hassign=>
  intro lr x W K hK
  gi_wp2
  exact hK
 case hbody=>
  rintro lr pre x W ⟨hall,hBW⟩ hlen
  have hx:=x.isLt
  obtain⟨j,hj⟩:∃j,j=m+1 - 1 - x.val:=⟨_,rfl⟩
  have hEW:Ext w8 W:=hBW
  obtain⟨q1,e1,hq1,hr1⟩:=Hela5.out j (by omega)
  obtain⟨q2,e2,hq2,hr2⟩:=Helb.out j (by omega)
  have hcb:W.cell? ⟨bb,ob+j,none⟩=some (.slice q2 (SB.getD j []).length e2):=by
   rw [<-hq2]
   refine rangeAt_ext HrB.out hEW j _ ?_
   rw [List.getD_eq_getElem?_getD,List.getElem?_eq_getElem (by omega)];rfl
  have hUW:=((bcell hEW).1 w5.heap.size 0 (by omega)).trans hUc8
  have Hr1:=Bl.hid (hr1.ext (HE58.out.trans hEW))
  have Hr2:=Bl.hid (hr2.ext (HE58.out.trans hEW))
  have hb1:=(HAb.out j (by omega)).1
  have hb2:=(HBb.out j (by omega)).1
  have HQ:=Bl.hid (equalB_any _ _ _ _ W Hr1.out Hr2.out hb1 hb2)
  obtain⟨X,hX⟩:∃X,X=SA.getD j []:=⟨_,rfl⟩
  obtain⟨Y,hY⟩:∃Y,Y=SB.getD j []:=⟨_,rfl⟩
  rw [<-hX]at hq1 Hr1 HQ
  rw [<-hY]at hcb Hr2 HQ
  have HXe:=Bl.hid hX
  have HYe:=Bl.hid hY
  have Hj:=Bl.hid hj
  have hj0:(0:Int)<=(j:Int):=by omega
  have hjm:(j:Int) < (m:Int)+1:=by omega
  have h1':1<=9 - 1 - 1:=by decide
  have Hall:=Bl.hid hall
  have HBW:=Bl.hid hBW
  clear hr1 hr2 hb1 hb2 hX hY hq2 hall hBW
  have hj':m - x.val=j:=by omega
  have hq1':vsa[j]?.getD undef= .slice q1 X.length e1:=by rw [<-List.getD_eq_getElem?_getD];exact hq1
  simp only [hj',hq1']
  clear hj hq1 hj' hq1'
  gi_wp2
  refine⟨trivial,?_⟩
  refine(CallsIn.inRound lr (callsIn_wide.2 HQ.out)).mono ?_
  rintro e w9 ⟨rfl,hw9⟩
  subst hw9
  by_cases hXY:X=Y
  ·rw [decide_eq_true hXY]
   have Hxy:Hid (SA.getD j []=SB.getD j []):=Bl.hid (by rw [<-HXe.out,<-HYe.out];exact hXY)
   clear hXY HQ
   gi_wp2
   refine⟨KeepsOthers.refl _,Keep.refl _ _ _,fun y hy=> ?_,HBW.out⟩
   rcases List.mem_append.1 hy with hy | hy
   ·exact Hall.out y hy
   ·obtain rfl:y=x:=by simpa using hy
    rw [<-Hj.out];exact Hxy.out
  ·rw [decide_eq_false hXY]
   have Hxy:Hid (¬SA.getD j []=SB.getD j []):=Bl.hid (by rw [<-HXe.out,<-HYe.out];exact hXY)
   obtain⟨d0,d1,d2,g0,g1,g2⟩:=HD.out
   have f0:=((bcell hEW).1 _ 0 (by omega)).trans d0
   have f1:=((bcell hEW).1 _ 0 (by omega)).trans d1
   have f2:=((bcell hEW).1 _ 0 (by omega)).trans d2
   have k0:=((bcell hEW).2 _ 0 (by omega)).trans g0
   have k1:=((bcell hEW).2 _ 0 (by omega)).trans g1
   have k2:=((bcell hEW).2 _ 0 (by omega)).trans g2
   have HEW:=Bl.hid hEW
   have hYp:0 < Y.length:=by rw [HYe.out];exact HBp.out j (by omega)
   have hca1:(⟨w.heap.size,0,none⟩:Addr)≠⟨bb,ob+j,none⟩:=fun q=>by
    rw [q,hcb]at f0
    injection f0 with f0
    injection f0 with _ f0 _
    omega
   have hca2:(⟨w.heap.size,0,none⟩:Addr)≠⟨w5.heap.size,0,none⟩:=fun q=>by injection q with q;omega
   have hcb2:(W.setCell ⟨w.heap.size,0,none⟩ (.slice q1 X.length e1)).cell? ⟨bb,ob+j,none⟩=some (.slice q2 Y.length e2):=by
    rw [World.cell?_setCell_other _ _ _ _ hca1];exact hcb
   have hUW2:(W.setCell ⟨w.heap.size,0,none⟩ (.slice q1 X.length e1)).cell? ⟨w5.heap.size,0,none⟩=some (.slice (some ⟨bb,ob,none⟩) (m+1) cb):=by
    rw [World.cell?_setCell_other _ _ _ _ hca2];exact hUW
   have e1':(W.setCell ⟨w.heap.size,0,none⟩ (.slice q1 X.length e1)).cell? ⟨w.heap.size+1,0,none⟩=some (.slice none 0 0):=by rw [World.cell?_setCell_other _ _ _ _ (by intro q;injection q with q;omega)];exact f1
   have e2':((W.setCell ⟨w.heap.size,0,none⟩ (.slice q1 X.length e1)).setCell ⟨w.heap.size+1,0,none⟩ (.slice q2 Y.length e2)).cell? ⟨w.heap.size+1+1,0,none⟩=some (.bool false):=by
    rw [World.cell?_setCell_other _ _ _ _ (by intro q;injection q with q;omega),World.cell?_setCell_other _ _ _ _ (by intro q;injection q with q;omega)];exact f2
   have HRET:Hid (KeepsOthers W ((((W.setCell ⟨w.heap.size,0,none⟩ (.slice q1 X.length e1)).setCell ⟨w.heap.size+1,0,none⟩ (.slice q2 Y.length e2)).setCell ⟨w.heap.size+1+1,0,none⟩ (.bool true)).drew)/\
     ClashIx SA SB m w .ret (pre++[x]) ((((W.setCell ⟨w.heap.size,0,none⟩ (.slice q1 X.length e1)).setCell ⟨w.heap.size+1,0,none⟩ (.slice q2 Y.length e2)).setCell ⟨w.heap.size+1+1,0,none⟩ (.bool true)).drew)):=Bl.hid (by
    have hx1:=((Hr1.out.set_other (.slice q1 X.length e1) f0 (fun x q=>by cases q)).set_other (.slice q2 Y.length e2) e1' (fun x q=>by cases q)).set_other (.bool true) e2' (fun x q=>by cases q)
    have hy1:=((Hr2.out.set_other (.slice q1 X.length e1) f0 (fun x q=>by cases q)).set_other (.slice q2 Y.length e2) e1' (fun x q=>by cases q)).set_other (.bool true) e2' (fun x q=>by cases q)
    refine⟨((KeepsOthers.setCell _ _ _).trans ((KeepsOthers.setCell _ _ _).trans (KeepsOthers.setCell _ _ _))).trans (KeepsOthers.drew _),⟨rfl,pre,x,rfl,Hall.out,by rw [<-Hj.out];exact Hxy.out,_,_,ThreeV.set f0 f1 f2,by rw [<-Hj.out,<-HXe.out];exact hx1,by rw [<-Hj.out,<-HYe.out];exact hy1⟩,?_⟩
    exact((((Below.trans HEw.out (HBW.out.mono (by omega))).setCell (Nat.le_refl _) _).setCell (Nat.le_succ _) _).setCell (by show w.heap.size<=w.heap.size+1+1;omega) _).drew)
   clear hXY HQ d0 d1 d2 g0 g1 g2 hEW hca1 hca2 hYp e1' e2'
   gi_wp2
   gi_region
   all_goals (gi_wp2;exact HRET.out)
 case hdone=>
  rintro D ys W hD rfl ⟨hall,_⟩ _
  have h:=hall ⟨m,by omega⟩ (List.mem_finRange _)
  simp only [Nat.add_sub_cancel,Nat.sub_self]at h
  exact absurd h Hne0.out
 case hstop=>
  rintro D c pre W hD ⟨k,hk,hpre⟩ ⟨⟨rfl,p',x,h1,h2,h3,vx,vy,h4,h5,h6⟩,hBw⟩ hK
  have hDl:D < W.heap.size:=(Array.getElem?_eq_some_iff.1 hK).1
  have hx:=x.isLt
  have hp':=chunks_snoc hk (h1.symm.trans hpre)
  have hsame:∀j,m+1 - 1 - x.val < j->j<=m->SA.getD j []=SB.getD j []:=fun j hj1 hj2=>by
   have hy:(⟨m - j,by omega⟩:Fin (m+1))∈p':=by rw [hp'];exact chunks_mem (m - j) (by omega) (by omega)
   have h:=h2 _ hy
   simp only [Nat.add_sub_cancel,show m - (m - j)=j from by omega]at h
   exact h
  have hcl:=Hcl.out (m+1 - 1 - x.val) (by omega) hsame
  have hab:=HAb.out (m+1 - 1 - x.val) (by omega)
  have hbb:=HBb.out (m+1 - 1 - x.val) (by omega)
  have HC:Hid (ClashR W vx vy):=Bl.hid ⟨_,_,h5,h6,hab.1,hbb.1,h3,hcl,hab.2,hbb.2⟩
  have H4:=Bl.hid h4
  have HBw:=Bl.hid hBw
  have hwD:w.heap.size<=D:=by omega
  clear hcl hab hbb h1 h2 h3 h4 h5 h6 hsame hp' hpre hBw
  refine wpIn_wide.2 ?_
  go_wp2_with fail
  refine leaves_kc (B:=w.heap.size) _ W.heap.size _ ⟨D,rfl,hwD,hDl,hK,trivial⟩ ?_
  intro w' hw' hkc
  obtain⟨X,Y,c1,c2,c3,c4,c5,c6,c7,c8⟩:=HC.out
  exact⟨_,(H4.out.kc hkc).res rfl rfl rfl rfl,vx,vy,rfl,⟨X,Y,Rds.kc c1 hkc,Rds.kc c2 hkc,c3,c4,c5,c6,c7,c8⟩,Below.trans HBw.out hw'⟩
end Go.Proofs.YtglenbikdahgjaaGreatDoor
