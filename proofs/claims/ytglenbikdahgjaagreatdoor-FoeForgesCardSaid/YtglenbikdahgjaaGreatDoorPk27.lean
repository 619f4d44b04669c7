/- Two shelves that were just made. No program. -/
import Derived.Test.YtglenbikdahgjaaGreatDoorPk21
import Derived.Test.YtglenbikdahgjaaGreatDoorPk19
import Derived.Test.YtglenbikdahgjaaGreatDoorPk23
import Derived.Test.YtglenbikdahgjaaGreatDoorPk26
import Derived.Test.YtglenbikdahgjaaGreatDoorPk25
set_option maxRecDepth 100000
set_option maxHeartbeats 16000000
namespace Go.Proofs.Bl
open Go Go.RowKit
theorem SvX.new1 {N:Nat->Prop} {w:World} {b m sb:Nat} (hb:BoxC w b [.map (some m),.pointer (some ⟨sb,0,none⟩)]) (hm:MapAt w m []) (hs:BoxC w sb [.bool false,.int .i64 0,.int .u64 0]) (h1:b≠m) (h2:b≠sb) (h3:m≠sb):SvX N (fun i=>i=m\/i=sb) w b sh0:=
 ⟨m,sb,[],hb,hm,⟨false,0,0,hs,SeenOk.zero⟩,rfl,fun _=>trivial,fun q=>q.elim h1 h2,.inl rfl,.inr rfl,h3,fun p hp=>(by cases hp),fun k hk=>by
  rcases hk with rfl | rfl
  ·exact hm.lt
  ·exact hs.lt⟩
theorem DvX.new1 {F:Nat->Prop} {w:World} {b:Nat} (hb:BoxC w b [.slice none 0 0,.slice none 0 0]) (hn:¬F b):DvX F w b sh0:=
 ⟨_,_,[],hb,RdsF.nil _,fun x hx=>(by cases hx),rfl,RdsF.nil _,fun x hx=>(by cases hx),hn⟩
theorem LtC.ltw1 {N:Nat->Prop} {w w':World} {cs:List Value} {l:LT} {vp vs vb:Value} {L:List Sv} (h:LtC w cs l vp vs vb L) (hE:Ext w w') (hN:∀i,N i->w.heap.size<=i):LtW N w' (.agg (cL l vp vs vb).toArray) l:=
 ⟨vp,vs,vb,L,rfl,(LtF.of_ltc h).kept fun k hk _=>⟨fun q=>by have:=hN k q;omega,hE.block k hk⟩⟩
def FaR (Q:Nat->Prop) (pr:List Int × Bool) (w:World) (e:Ending) (w':World):Prop:=∃p n c,e= .returned (.tuple #[.slice p n c,.bool pr.2])/\(pr.2=true->Rd w' .u8 (.slice p n c) pr.1)/\Kq Q w w'
def FrR (b:Nat) (pr:List Int × Bool) (w:World) (e:Ending) (w':World):Prop:=∃p n c,e= .returned (.tuple #[.slice p n c,.bool pr.2])/\(pr.2=true->Rd w' .u8 (.slice p n c) pr.1)/\Kq (fun i=>i=b) w w'/\KC2 b w w'
def FgR (s:ShT) (l:LT) (ot:List Int) (w:World) (e:Ending) (w':World):Prop:=∃vp vs vb L,e= .returned (.tuple #[.agg (cL (forL s l ot).1 vp vs vb).toArray,.bool (forL s l ot).2])/\LtF (fun _=>True) w' (forL s l ot).1 vp vs vb L/\Ext w w'
theorem forL_no {s:ShT} {l:LT} {ot:List Int} (h:¬(l.kind=3/\chkL l=0/\ot.length=16)):forL s l ot=(lt0,false):=by unfold forL;rw [if_neg h]
theorem forL_none {s:ShT} {l:LT} {ot:List Int} (h:getO s l.obj=none):forL s l ot=(lt0,false):=by
 unfold forL
 split
 ·rw [h]
 ·rfl
theorem forL_out {s:ShT} {l:LT} {ot:List Int} {all:List (List Int)} (h:getO s l.obj=some all) {k:Nat} (hk:k < l.places.length) (hp:¬l.places.getD k 0 < (all.length:Int)):forL s l ot=(lt0,false):=by
 unfold forL
 split
 ·rw [h]
  simp only
  rw [if_neg fun q=>hp (q _ (getD_mem 0 hk))]
 ·rfl
theorem forL_yes {s:ShT} {l:LT} {ot:List Int} {all:List (List Int)} (h1:l.kind=3) (h2:chkL l=0) (h3:ot.length=16) (h:getO s l.obj=some all) (hp:∀p∈l.places,p < (all.length:Int)):forL s l ot=(ansL l (all.set (l.places.getD 0 0).toNat ot),true):=by
 unfold forL
 rw [if_pos ⟨h1,h2,h3⟩,h]
 simp only
 rw [if_pos hp]
theorem dig_pathG (ps:List (List Int)) (i:Nat) (h:ps.length<=512):Dig (pathD ps i):=dig_path _ _ i (Nat.le_refl _) (by rw [List.length_map];omega) (dig_leaves ps)
theorem ansS_push (all:List (List Int)) (ps:List Int) (i:Nat) (h:i < ps.length):ansS all (ps.take (i+1))=ansS all (ps.take i)++[(ps.getD i 0,all.getD (ps.getD i 0).toNat [],pathD all (ps.getD i 0).toNat)]:=by
 unfold ansS
 rw [take_succ_getDD 0 ps i h,List.map_append];rfl
theorem rowF_set {F F':Nat->Prop} {w:World} {g n cap:Nat} {M:List Bv} {st:List (List Int)} {j:Nat} {u:Value} {ot:List Int} (hp:Pk w 0 1 (.slice (some ⟨g,0,none⟩) n cap) n (cellsR cB M)) (hn:n=M.length) (hj:j < M.length) (hM:∀y∈M,OkB F w y) (hm:M.map (·.2)=st) (hu:OkB F w (u,ot)) (hg:¬F g) (hF:F' g) (hFF:∀i,F i->F' i):
  RowF F' (w.setCell ⟨g,j,none⟩ u) (.slice (some ⟨g,0,none⟩) n cap) (st.set j ot):=by
 have hk:∀i,F i->i < w.heap.size->F' i/\(w.setCell ⟨g,j,none⟩ u).heap[i]? =w.heap[i]? :=fun i hi _=>⟨hFF i hi,Below.heap_setCell w ⟨g,j,none⟩ u i fun q=>hg (by rw [show i=g from q]at hi;exact hi)⟩
 refine⟨M.set j (u,ot),?_,fun y hy=> ?_,by rw [List.map_set,hm]⟩
 ·rw [List.length_set,<-hn,<-cellB_set M j hj u ot]
  exact RdsF.of_rds (hp.put (by rw [cellsB_len];exact hj) u).rds fun k hk' _=>by
   rw [show k=g from(Option.some.inj hk').symm];exact hF
 ·rcases List.mem_or_eq_of_mem_set hy with hy | rfl
  ·exact stab_okB _ _ _ _ _ (hM y hy) hk
  ·exact stab_okB _ _ _ _ _ hu hk
end Go.Proofs.Bl
namespace Go.Proofs.YtglenbikdahgjaaGreatDoor
open Go Go.RowKit Go.Proofs Go.Proofs.Bl
theorem sstored_none (b:Nat) (N Q:Nat->Prop) (s:ShT) (x:Int) (w:World) (hS:SvX N Q w b s) (ha:getO s x=none):
  Calls Tryz.prog 16 #[.pointer (some ⟨b,0,none⟩),.int .i64 x] w fun e w'=>e= .returned (.tuple #[.slice none 0 0,.bool false])/\Ext w w':=by
 obtain⟨m,sb,mp,hR⟩:=hS
 have hgm:=hR.none ha
 have hb0:=hR.bx.cell (i:=0) (v:= .map (some m)) rfl
 have lk:(Instr.lookup 84 (.map (some m)) (.int .i64 x) true).run Tryz.prog w= .ok (.tuple #[.slice none 0 0,.bool false]) w:=by
  have hz:(zeroValue 22).run Tryz.prog w= .ok (.slice none 0 0) w:=by first | rfl | kernel_rfl | (simp [go_sem];done)
  have h:=hR.mt.lookup (P:=Tryz.prog) Tryz.underlying84 Tryz.underlying3 hz x
  rw [hgm]at h
  exact h
 clear hR hgm ha
 go_enter Tryz.func16,Tryz.ntmps16
 go_wp2_with fail
 go_ret2
 exact⟨rfl,Below.refl _ _⟩
theorem sstored_some (b:Nat) (N Q:Nat->Prop) (s:ShT) (x:Int) (all:List (List Int)) (w:World) (hS:SvX N Q w b s) (hok:ShOk s) (ha:getO s x=some all):
  Calls Tryz.prog 16 #[.pointer (some ⟨b,0,none⟩),.int .i64 x] w fun e w'=>∃(g:Nat) (M:List Bv),e= .returned (.tuple #[.slice (some ⟨g,0,none⟩) all.length all.length,.bool true])/\w.heap.size<=g/\Pk w' g 1 (.slice (some ⟨g,0,none⟩) all.length all.length) M.length (cellsR cB M)/\(∀y∈M,OkB (fun k=>g < k) w' y)/\M.map (·.2)=all/\Ext w w':=by
 obtain⟨m,sb,mp,hR⟩:=hS
 obtain⟨v0,hgm,hrow⟩:=hR.some ha
 obtain⟨h1,h2,h3⟩:=hok.get ha
 have HA:=Bl.hid (sapart_any v0 all w hrow.rdss (fun b hb=>(h3 b hb).2) (by omega) (fun b hb=>by have:=(h3 b hb).1;omega))
 have hb0:=hR.bx.cell (i:=0) (v:= .map (some m)) rfl
 obtain⟨p,c,hf,_,_⟩:=hrow.rdss.form
 subst hf
 obtain⟨n,hn⟩:∃n,n=all.length:=⟨_,rfl⟩
 have lk:(Instr.lookup 84 (.map (some m)) (.int .i64 x) true).run Tryz.prog w= .ok (.tuple #[.slice p n c,.bool true]) w:=by
  have hz:(zeroValue 22).run Tryz.prog w= .ok (.slice none 0 0) w:=by first | rfl | kernel_rfl | (simp [go_sem];done)
  have h:=hR.mt.lookup (P:=Tryz.prog) Tryz.underlying84 Tryz.underlying3 hz x
  rw [hgm,<-hn]at h
  exact h
 rw [<-hn]at HA⊢
 have Hn:=Bl.hid hn
 clear hR hgm ha h1 h2 h3 hrow hn
 go_enter Tryz.func16,Tryz.ntmps16
 go_wp2_with fail
 refine HA.out.mono ?_
 rintro e w1 ⟨M,rfl,k1,k2,k3,k4⟩
 rw [<-Hn.out]at k1⊢
 have HK:=Bl.hid (And.intro k1 (And.intro k2 (And.intro k3 k4)))
 clear k1 k2 k3 k4
 go_wp2_with fail
 go_ret2
 exact⟨_,M,rfl,Nat.le_refl _,HK.out.1,HK.out.2.1,HK.out.2.2.1,HK.out.2.2.2⟩
end Go.Proofs.YtglenbikdahgjaaGreatDoor
namespace Go.Proofs.Bl
open Go Go.RowKit
def HanP (N Q:Nat->Prop) (b:Nat) (s:ShT) (l:LT) (w:World) (e:Ending) (w':World):Prop:=∃vp vs vb L,e= .returned (.tuple #[.agg (cL (hanL s l).1 vp vs vb).toArray,.bool (hanL s l).2])/\LtF (fun k=>w.heap.size<=k) w' (hanL s l).1 vp vs vb L/\SvGo N Q w w' b (hanS s l)
theorem SvGo.storeP {N Q:Nat->Prop} {w w2 w3 w4:World} {b R0:Nat} {s':ShT} (h:SvGo (fun i=>N i\/i=R0) Q w2 w3 b s') (hE:Ext w w2) (hR:w.heap.size<=R0/\R0 < w2.heap.size) (hlow:∀i,(Q i\/i=b)->i < w.heap.size) (k:Kq (fun i=>i=R0) w3 w4):SvGo N Q w w4 b s':=by
 obtain⟨hk,N',Q',⟨m,sb,mp,h1⟩,h2,h3,h4,h5,h6,h7⟩:=h
 have hk2:Kq Q w w4:=by
  have q1:Kq (fun i=>Q i\/i=R0) w w4:=((Kq.of_ext hE).trans (hk.mono fun i _ q=> .inl q)).trans (k.mono fun i _ q=> .inr q)
  exact q1.mono fun i hi q=>by
   rcases q with q | q
   ·exact q
   ·omega
 refine⟨hk2,N',Q',⟨m,sb,mp,h1.kept k (fun i q=>⟨h3 i (.inr q),fun r=> ?_,fun r=> ?_⟩) fun i q=> .inl q⟩,fun i q=> ?_,fun i q=>h3 i (.inl q),h4,h5,fun i q=> ?_,fun i q=>Nat.lt_of_lt_of_le (h7 i q) k.size⟩
 ·rcases h6 i r with r | r
  ·have:=hlow i (.inl r);omega
  ·omega
 ·have:=hlow i (.inr r);omega
 ·rcases h2 i q with q | q
  ·rcases q with q | q
   ·exact .inl q
   ·exact .inr (by omega)
  ·exact .inr (Nat.le_trans hE.size q)
 ·rcases h6 i q with q | q
  ·exact .inl q
  ·exact .inr (Nat.le_trans hE.size q)
end Go.Proofs.Bl
namespace Go.Proofs.YtglenbikdahgjaaGreatDoor
open Go Go.RowKit Go.Proofs Go.Proofs.Bl
theorem shan_one (b:Nat) (N Q:Nat->Prop) (s:ShT) (v:Value) (l:Bl.LT) (w:World) (S:List Nat) (a:Nat->Addr) (hS:SvX N Q w b s) (hok:ShOk s) (hNQ:∀i,Q i->N i) (hNl:∀i,N i->i < w.heap.size) (hL:LtW N w v l) (hg:Glob w) (he:Errs S a w) (s1:1∈S) (s3:3∈S) (s4:4∈S) (s7:7∈S) (s8:8∈S) (h1:l.kind=1):
  Calls Tryz.prog 10 #[.pointer (some ⟨b,0,none⟩),v] w fun e w'=>HanP N Q b s l w e w':=by
 have H1:=Bl.hid h1
 clear h1
 have HL:=Bl.hid hL
 have HS:=Bl.hid hS
 have HLv:=Bl.hid hL.ltv
 have HG:=Bl.hid (And.intro hg (And.intro he (And.intro s1 (And.intro s3 (And.intro s4 (And.intro s7 s8))))))
 have HNQ:=Bl.hid (And.intro hNQ (And.intro hNl hok))
 have Hlow:Hid (∀i,(Q i\/i=b)->i < w.heap.size):=Bl.hid fun i hi=>by
  obtain⟨m,sb,mp,hR⟩:=hS
  rcases hi with q | q
  ·exact hR.sz i q
  ·rw [q];exact hR.bx.lt
 obtain⟨vp,vs,vb,L,rfl,hLf⟩:=hL
 obtain⟨W1,hW1⟩:∃W1,W1=(w.alloc (.cells (cL l vp vs vb).toArray 26)).alloc (.cells zL 26):=⟨_,rfl⟩
 have hE1:Ext w W1:=by rw [hW1];exact(ext_alloc _ _).trans (ext_alloc _ _)
 have hsz1:W1.heap.size=w.heap.size+1+1:=by rw [hW1,World.size_alloc,World.size_alloc]
 have hBl:BoxC W1 w.heap.size (cL l vp vs vb):=by rw [hW1];exact(BoxC.box w 26 (cL_ne _ _ _ _)).ext (ext_alloc _ _)
 have hBr:BoxC W1 (w.heap.size+1) zL.toList:=by rw [hW1];exact box2 w _ zL.toList _ _ (fun h=>by cases h)
 obtain⟨R0,hR0⟩:∃R0,R0=w.heap.size+1:=⟨_,rfl⟩
 obtain⟨P0,hP0⟩:∃P0,P0=w.heap.size:=⟨_,rfl⟩
 rw [<-hR0]at hBr
 rw [<-hP0]at hBl
 have HE1:=Bl.hid hE1
 have HBl:=Bl.hid hBl
 have HBr:=Bl.hid hBr
 have HPR:Hid (P0=w.heap.size/\R0=w.heap.size+1/\W1.heap.size=w.heap.size+1+1):=Bl.hid ⟨hP0,hR0,hsz1⟩
 have Hld:=Bl.hid (hBl.load (P:=Tryz.prog) Tryz.underlying26 rfl (by kernel_rfl))
 have HCk:=Bl.hid (lcheck_any _ l W1 S a (HLv.out.ext hE1) (he.ext hE1) s1 s3 s4 s7 s8)
 unfold cL at hW1
 clear hS hok hNQ hNl hg he hLf hE1 hsz1 hBl hBr hR0 hP0
 show Calls Tryz.prog 10 #[.pointer (some ⟨b,0,none⟩),.agg #[.int .i64 l.kind,.int .i64 l.id,.int .i64 l.obj,vp,vs,.int .i64 l.frm,.int .i64 l.cnt,vb,.int .i64 l.code]] w _
 go_enter Tryz.func10,Tryz.ntmps10
 go_wp2_with (with_reducible refine stop_load (ty:=26) ?_)
 rw [<-hW1]
 rw [show w.heap.size+1=R0 from HPR.out.2.1.symm,show w.heap.size=P0 from HPR.out.1.symm]
 clear hW1
 refine go_on ?_
 refine wpL_load rfl Hld.out ?_
 go_wp2_with fail
 refine HCk.out.mono ?_
 rintro e w2 ⟨rfl,hE2⟩
 have HE2:Hid (Ext w w2):=Bl.hid (HE1.out.trans hE2)
 have HBl2:=Bl.hid (HBl.out.ext hE2)
 have HBr2:=Bl.hid (HBr.out.ext hE2)
 have HW2:Hid (w.heap.size+2<=w2.heap.size):=Bl.hid (by have:=hE2.size;have:=HPR.out;omega)
 have hx0:=HBl2.out.cell (i:=0) (v:= .int .i64 l.kind) rfl
 have Hll2:=Bl.hid (HBl2.out.load (P:=Tryz.prog) Tryz.underlying26 rfl (by kernel_rfl))
 have HSt:Hid (∀w3,SvGo (fun i=>N i\/i=R0) Q w2 w3 b (putS s l)->∀w4,Kq (fun i=>i=R0) w3 w4->SvGo N Q w w4 b (putS s l)):=Bl.hid fun w3 h3 w4 h4=>h3.storeP HE2.out (by have:=HPR.out;have:=HW2.out;omega) Hlow.out h4
 have HSe:Hid (∀w4,Ext w w4->SvGo N Q w w4 b s):=Bl.hid fun w4 h4=>SvX.go HS.out HNQ.out.1 HNQ.out.2.1 h4
 have HS2:Hid (SvX N Q w2 b s/\SvX (fun i=>N i\/i=R0) Q w2 b s/\LtW (fun i=>N i\/i=R0) w2 (.agg (cL l vp vs vb).toArray) l):=Bl.hid ⟨HS.out.ext HE2.out,by
  obtain⟨m,sb,mp,hR⟩:=HS.out
  exact⟨m,sb,mp,hR.kept (Q2:=fun _=>False) (Kq.of_ext HE2.out) (fun _ q=>q.elim) fun i q=>by
   rcases q with q | q
   ·exact .inl q
   ·exact .inr (by have:=HPR.out;omega)⟩,HL.out.kept fun k hk hl=>⟨fun q=>by
   rcases q with q | q
   ·exact hk q
   ·have:=HPR.out;omega,HE2.out.block k hl⟩⟩
 clear hE2 HCk Hld HBl HBr HL HS HE1
 by_cases hck:chkL l=0
 ·rw [hck,errN_zero]
  have Hck:=Bl.hid hck
  clear hck
  have h1:=H1.out
  have Hres:Hid (hanL s l=(putL s l,true)/\hanS s l=putS s l):=Bl.hid (by unfold hanL hanS;rw [if_pos Hck.out,if_pos h1,if_pos ⟨Hck.out,h1⟩];exact⟨rfl,rfl⟩)
  have Hpu:=Bl.hid (sput_any b (fun i=>N i\/i=R0) Q s _ l w2 HS2.out.2.1 (fun i q=> .inl (HNQ.out.1 i q)) (fun i q=>by
   rcases q with q | q
   ·exact Nat.lt_of_lt_of_le (HNQ.out.2.1 i q) HE2.out.size
   ·have:=HPR.out;have:=HW2.out;omega) HS2.out.2.2 Hck.out h1)
  go_wp2_with (with_reducible refine stop_load (ty:=26) ?_)
  refine go_on ?_
  refine wpL_load rfl Hll2.out ?_
  go_wp2_with fail
  refine Hpu.out.mono ?_
  rintro e w3 ⟨rfl,hG3⟩
  have HG3:=Bl.hid hG3
  have HBr3:=Bl.hid (hG3.1.box (fun q=>by have:=Hlow.out R0 (.inl q);have:=HPR.out;omega) HBr2.out)
  have HLf:Hid (LtF (fun k=>w.heap.size<=k) w3 (putL s l) nilV nilV nilV []):=Bl.hid (by
   unfold putL
   repeat' split
   all_goals exact LtF.nil _ _ _ _ _ _ _ _)
  clear hG3 Hpu
  have Hst3:=Bl.hid (HBr3.out.store (P:=Tryz.prog) (cs':=cL (putL s l) nilV nilV nilV) rfl (LtC.one (HLf.out.ltc)) (ty:=26) (by kernel_rfl))
  have HBr4:=Bl.hid (HBr3.out.set (cs':=cL (putL s l) nilV nilV nilV) rfl)
  have HK4:Hid (Kq (fun k=>k=R0) w3 (w3.setCells R0 0 (cL (putL s l) nilV nilV nilV))):=Bl.hid ((Kq.refl w3).setCells (Q:=fun k=>k=R0) rfl 0 _)
  go_wp2_with (with_reducible refine stop_store (ty:=26) ?_)
  refine go_on ?_
  refine wpL_store0 rfl rfl Hst3.out ?_
  go_wp2_with fail
  refine bodyPost_ret (v:= .tuple #[.agg (cL (putL s l) nilV nilV nilV).toArray,.bool true]) (results_cell2 rfl rfl (HBr4.out.loadVar (P:=Tryz.prog) Tryz.underlying26 rfl (by kernel_rfl)) rfl) rfl ?_
  unfold HanP
  rw [Hres.out.1,Hres.out.2]
  refine⟨_,_,_,[],rfl,?_,HSt.out _ HG3.out _ HK4.out⟩
  unfold putL
  repeat' split
  all_goals exact LtF.nil _ _ _ _ _ _ _ _
 ·have Hres:Hid (hanL s l=(lt0,false)/\hanS s l=s):=Bl.hid (by unfold hanL hanS;rw [if_neg hck,if_neg (fun q=>hck q.1)];exact⟨rfl,rfl⟩)
  obtain⟨er,her⟩:∃er,errN a (chkL l)= .iface 233 (.pointer (some er)):=⟨_,errN_pos a _ hck⟩
  rw [her]
  clear hck her
  have HLf:Hid (LtF (fun k=>w.heap.size<=k) w2 lt0 nilV nilV nilV []):=Bl.hid (LtF.nil _ _ _ _ _ _ _ _)
  have HBr3:=HBr2
  have Hst3:=Bl.hid (HBr3.out.store (P:=Tryz.prog) (cs':=cL (lt0) nilV nilV nilV) rfl (LtC.one (HLf.out.ltc)) (ty:=26) (by kernel_rfl))
  have HBr4:=Bl.hid (HBr3.out.set (cs':=cL (lt0) nilV nilV nilV) rfl)
  have HK4:Hid (Kq (fun k=>k=R0) w2 (w2.setCells R0 0 (cL (lt0) nilV nilV nilV))):=Bl.hid ((Kq.refl w2).setCells (Q:=fun k=>k=R0) rfl 0 _)
  go_wp2_with (with_reducible refine stop_store (ty:=26) ?_)
  refine go_on ?_
  refine wpL_store0 rfl rfl Hst3.out ?_
  go_wp2_with fail
  refine bodyPost_ret (v:= .tuple #[.agg (cL (lt0) nilV nilV nilV).toArray,.bool false]) (results_cell2 rfl rfl (HBr4.out.loadVar (P:=Tryz.prog) Tryz.underlying26 rfl (by kernel_rfl)) rfl) rfl ?_
  unfold HanP
  rw [Hres.out.1,Hres.out.2]
  exact⟨_,_,_,[],rfl,LtF.nil _ _ _ _ _ _ _ _,HSe.out _ (HE2.out.trans' (N:=w.heap.size) (HK4.out.mono fun j _ q=>by have:=HPR.out;omega) (Nat.le_refl _))⟩
end Go.Proofs.YtglenbikdahgjaaGreatDoor
