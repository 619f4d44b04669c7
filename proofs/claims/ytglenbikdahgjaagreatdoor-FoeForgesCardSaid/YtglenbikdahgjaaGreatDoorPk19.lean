/- Texts that stood apart, in one: ShR, WSv1. -/
import Derived.BigQuiet
import Derived.Test.YtglenbikdahgjaaGreatDoorPk17
import Derived.Test.YtglenbikdahgjaaGreatDoorPk02
import Derived.Test.YtglenbikdahgjaaGreatDoorPk18
set_option maxRecDepth 100000
set_option maxHeartbeats 16000000
namespace Go.Proofs.Bl
open Go Go.RowKit
theorem heap_setIn (w:World) {m:Nat} {o:Obj} (hm:m < w.heap.size):({w with heap:=w.heap.setIfInBounds m o}:World).heap[m]? =some o:=by
 simp [hm]
theorem kq_setIn (w:World) (m:Nat) (o:Obj):Kq (fun k=>k=m) w {w with heap:=w.heap.setIfInBounds m o}:=
 ⟨rfl,rfl,rfl,by simp,fun k _ hq=>by simp [Ne.symm hq]⟩
theorem MapAt.put {P:Program} {t k e:TypeId} {w:World} {m:Nat} {mp:List (Int × Value)} (ht:P.underlying t=some (.map k e)) (hk:P.underlying k=some (.int .i64)) (h:MapAt w m mp) (x:Int) (v:Value) (hn:getM mp x=none):
  ∃w',(Instr.mapUpdate t (.map (some m)) (.int .i64 x) v).run P w= .ok () w'/\MapAt w' m (mp++[(x,v)])/\Kq (fun k=>k=m) w w':=by
 have hlt:=h.lt
 obtain⟨es,c,h1,h2⟩:=h
 obtain⟨r,hr,hr2⟩:=findNow_int x es.toList mp 0 h2
 rw [hn]at hr2
 have hc:(Instr.checkKey false 10000 k (.int .i64 x)).run P w= .ok () w:=MapKept.run_checkKey (k:= .int .i64 x) hk (by simp [MapKept.IsKey]) _ 9999
 cases r with
 | some r=>cases hr2
 | none=>
  refine⟨_,?_,⟨es.push {key:= .int .i64 x,val:=v,born:=c},c+1,heap_setIn w hlt,?_⟩,kq_setIn w m _⟩
  ·simp [Instr.mapUpdate,run_underlying ht,MapKept.run_getObj_map h1,hc,MapKept.run_findKey hk hr,MapKept.run_setObj_map _ h1,Result.andThen]
  ·simp [h2]
theorem MapAt.len {P:Program} {t k e ty:TypeId} {w:World} {m:Nat} {mp:List (Int × Value)} (ht:P.underlying t=some (.map k e)) (h:MapAt w m mp):(Builtin.len_ #[t] ty #[.map (some m)]).run P w= .ok (.int .i64 mp.length) w:=by
 obtain⟨es,c,h1,h2⟩:=h
 have hl:es.size=mp.length:=by have:=congrArg List.length h2;simpa using this
 simp [Builtin.len_,run_underlying ht,MapKept.run_getObj_map h1,Result.andThen,goInt,hl]
theorem getM_app {mp:List (Int × Value)} {n:Int} {v:Value} (hn:getM mp n=none) (x:Int):getM (mp++[(n,v)]) x=if x=n then some v else getM mp x:=by
 unfold getM
 simp only [List.find?_append,Option.map_or]
 by_cases hx:x=n
 ·subst hx
  unfold getM at hn
  cases hf:mp.find? (fun p=>decide (p.1=x))with
  | some p=>rw [hf]at hn;cases hn
  | none=>simp
 ·rw [if_neg hx]
  have:¬n=x:=fun q=>hx q.symm
  cases hf:mp.find? (fun p=>decide (p.1=x))with
  | some p=>simp
  | none=>simp [this]
theorem getM_mem {mp:List (Int × Value)} {n:Int} {v:Value} (h:getM mp n=some v):(n,v)∈mp:=by
 unfold getM at h
 cases hf:mp.find? (fun p=>decide (p.1=n))with
 | none=>rw [hf]at h;cases h
 | some p=>
  rw [hf]at h
  have h1:=List.find?_some hf
  have h2:=List.mem_of_find?_eq_some hf
  have e1:p.1=n:=by simpa using h1
  have e2:p.2=v:=by simpa using h
  rw [<-e1,<-e2];exact h2
def RowS (N:Nat->Prop) (w:World) (v:Value) (st:List (List Int)):Prop:=∃M:List Bv,Pk w 0 1 v M.length (cellsR cB M)/\(∀y∈M,OkB (fun k=>¬N k) w y)/\M.map (·.2)=st
theorem RowS.rdss {N:Nat->Prop} {w:World} {v:Value} {st:List (List Int)} (h:RowS N w v st):Rdss w v st:=by
 obtain⟨M,h1,h2,h3⟩:=h
 refine⟨M.map (·.1),?_,by rw [<-h3,List.length_map,List.length_map],fun i hi=> ?_⟩
 ·have h4:=h1.rds
  rw [cellsB]at h4
  rw [<-h3,List.length_map];exact h4
 ·rw [<-h3,List.length_map]at hi
  have h5:=(h2 _ (List.getElem_mem hi)).1.rds
  rw [<-h3,List.getD_eq_getElem?_getD,List.getD_eq_getElem?_getD,List.getElem?_map,List.getElem?_map,List.getElem?_eq_getElem hi]
  exact h5
theorem RowS.byt {N:Nat->Prop} {w:World} {v:Value} {st:List (List Int)} (h:RowS N w v st):∀b∈st,Byt b:=by
 obtain⟨M,h1,h2,h3⟩:=h
 intro b hb
 rw [<-h3]at hb
 obtain⟨y,hy,rfl⟩:=List.mem_map.1 hb
 exact(h2 y hy).2
theorem RowS.kept {N N':Nat->Prop} {w w':World} {v:Value} {st:List (List Int)} (h:RowS N w v st) (hv:∀k,v.ownBlock=some k->w'.heap[k]? =w.heap[k]?) (hs:w.heap.size<=w'.heap.size) (hk:∀k,¬N k->k < w.heap.size->¬N' k/\w'.heap[k]? =w.heap[k]?):RowS N' w' v st:=by
 obtain⟨M,h1,h2,h3⟩:=h
 exact⟨M,h1.kept hv hs,fun y hy=>stab_okB _ _ _ _ _ (h2 y hy) hk,h3⟩
def RelO (N:Nat->Prop) (w:World):Option Value->Option (List (List Int))->Prop
 | some v,some st=>RowS N w v st
 | none,none=>True
 | _,_=>False
theorem RelO.non {N N':Nat->Prop} {w w':World} {o:Option (List (List Int))} (h:RelO N w none o):RelO N' w' none o:=by
 cases o
 ·exact h
 ·exact h.elim
structure SvR (N Q:Nat->Prop) (w:World) (b m sb:Nat) (mp:List (Int × Value)) (s:ShT):Prop where
 bx:BoxC w b [.map (some m),.pointer (some ⟨sb,0,none⟩)]
 mt:MapAt w m mp
 sn:∃any g c,BoxC w sb [.bool any,.int .i64 g,.int .u64 (c:Nat)]/\SeenOk any g c s.ids
 ln:mp.length=s.objs.length
 ob:∀n,RelO N w (getM mp n) (getO s n)
 qb:¬Q b
 qm:Q m
 qs:Q sb
 ms:m≠sb
 rw:∀p∈mp,∀k,p.2.ownBlock=some k->Q k/\k≠m/\k≠sb
 sz:∀k,Q k->k < w.heap.size
def SvX (N Q:Nat->Prop) (w:World) (b:Nat) (s:ShT):Prop:=∃m sb mp,SvR N Q w b m sb mp s
section
variable {N N' Q Q2:Nat->Prop} {w w':World} {b m sb:Nat} {mp:List (Int × Value)} {s:ShT}
theorem SvR.row (h:SvR N Q w b m sb mp s) {n:Int} {v:Value} (hv:getM mp n=some v):∃st,getO s n=some st/\RowS N w v st:=by
 have h1:=h.ob n
 rw [hv]at h1
 cases hg:getO s n with
 | none=>rw [hg]at h1;exact h1.elim
 | some st=>rw [hg]at h1;exact⟨st,rfl,h1⟩
theorem SvR.some (h:SvR N Q w b m sb mp s) {n:Int} {st:List (List Int)} (hg:getO s n=some st):∃v,getM mp n=some v/\RowS N w v st:=by
 have h1:=h.ob n
 rw [hg]at h1
 cases hv:getM mp n with
 | none=>rw [hv]at h1;exact h1.elim
 | some v=>rw [hv]at h1;exact⟨v,rfl,h1⟩
theorem SvR.none (h:SvR N Q w b m sb mp s) {n:Int} (hg:getO s n=none):getM mp n=none:=by
 have h1:=h.ob n
 rw [hg]at h1
 cases hv:getM mp n with
 | none=>rfl
 | some v=>rw [hv]at h1;exact h1.elim
theorem SvR.kept (h:SvR N Q w b m sb mp s) (k:Kq Q2 w w') (hq:∀i,Q2 i->N i/\¬Q i/\i≠b) (hN:∀i,N' i->N i\/w.heap.size<=i):SvR N' Q w' b m sb mp s:=by
 have hb:∀i,i < w.heap.size->Q i->w'.heap[i]? =w.heap[i]? :=fun i hi hQ=>k.block i hi fun q=>(hq i q).2.1 hQ
 obtain⟨any,g,c,s1,s2⟩:=h.sn
 refine⟨k.box (fun q=>(hq b q).2.2 rfl) h.bx,h.mt.same (hb m h.mt.lt h.qm),⟨any,g,c,s1.same (hb sb s1.lt h.qs),s2⟩,h.ln,fun n=> ?_,h.qb,h.qm,h.qs,h.ms,h.rw,fun i hi=>Nat.lt_of_lt_of_le (h.sz i hi) k.size⟩
 have h1:=h.ob n
 cases hv:getM mp n with
 | none=>rw [hv]at h1;exact RelO.non h1
 | some v=>
  cases hg:getO s n with
  | none=>rw [hv,hg]at h1;exact h1.elim
  | some st=>
   rw [hv,hg]at h1
   exact RowS.kept h1 (fun i hi=>hb i (h.sz i (h.rw _ (getM_mem hv) i hi).1) (h.rw _ (getM_mem hv) i hi).1) k.size fun i hi hl=>⟨fun q=>by
    rcases hN i q with q | q
    ·exact hi q
    ·omega,k.block i hl fun q=>hi (hq i q).1⟩
theorem SvR.ext (h:SvR N Q w b m sb mp s) (hE:Ext w w'):SvR N Q w' b m sb mp s:=h.kept (Q2:=fun _=>False) (Kq.of_ext hE) (fun _ q=>q.elim) fun _ q=> .inl q
theorem SvR.ids (h:SvR N Q w b m sb mp s) (hNQ:∀i,Q i->N i) (k:Kq (fun i=>i=sb) w w') {any:Bool} {g:Int} {c:Nat} {ids:List Int} (hB:BoxC w' sb [.bool any,.int .i64 g,.int .u64 (c:Nat)]) (hs:SeenOk any g c ids):SvR N Q w' b m sb mp ⟨s.objs,ids⟩:=by
 have hb:∀i,i < w.heap.size->i≠sb->w'.heap[i]? =w.heap[i]? :=fun i hi hQ=>k.block i hi hQ
 have hsb:sb≠b:=fun q=>h.qb (q▸h.qs)
 refine⟨k.box (fun q=>hsb q.symm) h.bx,h.mt.same (hb m h.mt.lt h.ms),⟨any,g,c,hB,hs⟩,h.ln,fun n=> ?_,h.qb,h.qm,h.qs,h.ms,h.rw,fun i hi=>Nat.lt_of_lt_of_le (h.sz i hi) k.size⟩
 have h1:=h.ob n
 show RelO N w' (getM mp n) (getO s n)
 cases hv:getM mp n with
 | none=>rw [hv]at h1;exact RelO.non h1
 | some v=>
  cases hg:getO s n with
  | none=>rw [hv,hg]at h1;exact h1.elim
  | some st=>
   rw [hv,hg]at h1
   exact RowS.kept h1 (fun i hi=>hb i (h.sz i (h.rw _ (getM_mem hv) i hi).1) (h.rw _ (getM_mem hv) i hi).2.2) k.size fun i hi hl=>⟨hi,hb i hl fun q=>hi (hNQ i (q▸h.qs))⟩
theorem SvR.put (h:SvR N Q w b m sb mp s) (hNQ:∀i,Q i->N i) {n:Int} {v:Value} {st:List (List Int)} (hn:getO s n=Option.none) (hM:MapAt w' m (mp++[(n,v)])) (k:Kq (fun i=>i=m) w w') (hr:RowS N w v st) (hv:∀i,v.ownBlock=Option.some i->i < w.heap.size/\i≠m/\i≠sb/\i≠b):
  SvR N (fun i=>Q i\/v.ownBlock=Option.some i) w' b m sb (mp++[(n,v)]) ⟨s.objs++[(n,st)],s.ids⟩:=by
 have hb:∀i,i < w.heap.size->i≠m->w'.heap[i]? =w.heap[i]? :=fun i hi hQ=>k.block i hi hQ
 have hmb:m≠b:=fun q=>h.qb (q▸h.qm)
 obtain⟨any,g,c,s1,s2⟩:=h.sn
 have hkeep:∀x st',RowS N w x st'->(∀i,x.ownBlock=Option.some i->i < w.heap.size/\i≠m)->RowS N w' x st':=fun x st' hx hi=>hx.kept (fun i q=>hb i (hi i q).1 (hi i q).2) k.size fun i hi hl=>⟨hi,hb i hl fun q=>hi (hNQ i (q▸h.qm))⟩
 refine⟨k.box (fun q=>hmb q.symm) h.bx,hM,⟨any,g,c,k.box (fun q=>h.ms q.symm) s1,s2⟩,by simp [h.ln],fun x=> ?_,fun q=> ?_,.inl h.qm,.inl h.qs,h.ms,fun p hp i hi=> ?_,fun i hi=> ?_⟩
 ·rw [getM_app (h.none hn),getO_app hn]
  by_cases hx:x=n
  ·rw [if_pos hx,if_pos hx]
   exact hkeep v st hr fun i hi=>⟨(hv i hi).1,(hv i hi).2.1⟩
  ·rw [if_neg hx,if_neg hx]
   have h1:=h.ob x
   cases hgv:getM mp x with
   | none=>rw [hgv]at h1;exact RelO.non h1
   | some y=>
    cases hg:getO s x with
    | none=>rw [hgv,hg]at h1;exact h1.elim
    | some st'=>
     rw [hgv,hg]at h1
     exact hkeep y st' h1 fun i hi=>⟨h.sz i (h.rw _ (getM_mem hgv) i hi).1,(h.rw _ (getM_mem hgv) i hi).2.1⟩
 ·rcases q with q | q
  ·exact h.qb q
  ·exact(hv b q).2.2.2 rfl
 ·rcases List.mem_append.1 hp with hp | hp
  ·exact⟨.inl (h.rw p hp i hi).1,(h.rw p hp i hi).2⟩
  ·obtain rfl:p=(n,v):=by simpa using hp
   exact⟨.inr hi,(hv i hi).2.1,(hv i hi).2.2.1⟩
 ·rcases hi with hi | hi
  ·exact Nat.lt_of_lt_of_le (h.sz i hi) k.size
  ·exact Nat.lt_of_lt_of_le (hv i hi).1 k.size
def SvGo (N Q:Nat->Prop) (w w':World) (b:Nat) (s':ShT):Prop:=Kq Q w w'/\∃N' Q':Nat->Prop,SvX N' Q' w' b s'/\(∀i,N' i->N i\/w.heap.size<=i)/\(∀i,N i->N' i)/\(∀i,Q i->Q' i)/\(∀i,Q' i->N' i)/\(∀i,Q' i->Q i\/w.heap.size<=i)/\∀i,N' i->i < w'.heap.size
theorem SvX.ext (h:SvX N Q w b s) (hE:Ext w w'):SvX N Q w' b s:=by
 obtain⟨m,sb,mp,h⟩:=h;exact⟨m,sb,mp,h.ext hE⟩
theorem SvX.go (h:SvX N Q w b s) (hNQ:∀i,Q i->N i) (hNl:∀i,N i->i < w.heap.size) (hE:Ext w w'):SvGo N Q w w' b s:=
 ⟨Kq.of_ext hE,N,Q,h.ext hE,fun _ q=> .inl q,fun _ q=>q,fun _ q=>q,hNQ,fun _ q=> .inl q,fun i q=>Nat.lt_of_lt_of_le (hNl i q) hE.size⟩
end
abbrev nilB:Bv:=(.slice none 0 0,[])
theorem madeCells_nil (n:Nat):(madeCells (Value.slice none 0 0).cells (n*1)).toList=cellsR cB (List.replicate n nilB):=by
 rw [cellsB]
 apply List.ext_getElem
 ·simp [madeCells]
 ·intro i h1 h2
  simp [madeCells,Value.cells,show i % 1=0 from Nat.mod_one i]
theorem make_nil {P:Program} {t e:TypeId} {bytes:Nat} (hT:SlT P t e (.slice none 0 0) 1 bytes) (n:Nat) (hb:bytes*n<=281474976710656) (hm:n<=maxLen) (w:World):
  ∃w',(Instr.makeSlice t (.int .i64 (n:Int)) (.int .i64 (n:Int))).run P w= .ok (.slice (some ⟨w.heap.size,0,none⟩) n n) w'/\
   w'.ownsRow w.heap.size e 1 (.slice (some ⟨w.heap.size,0,none⟩) n n) n (cellsR cB (List.replicate n nilB))/\Ext w w'/\w.heap.size < w'.heap.size:=by
 obtain⟨i,hi,hz,hs1,hb1⟩:=info_parts hT.info
 have h63:(n:Int)<=9223372036854775807:=by unfold maxLen at hm;omega
 have hb':(i.bytes:Int)*(n:Int)<=281474976710656:=by
  rw [hb1]
  have h:((bytes*n:Nat):Int)<=281474976710656:=by omega
  rwa [Int.natCast_mul]at h
 have hr:=run_make (P:=P) w t e i (.slice none 0 0) hT.ht hi hz .i64 .i64 n n (by omega) (Int.le_refl _) hb' h63
 simp only [Int.toNat_natCast,hs1]at hr
 refine⟨_,hr,?_,ext_alloc _ _,by simp⟩
 have:=owns_new w e (madeCells (Value.slice none 0 0).cells (n*1)) w.heap.size n 1 (Nat.le_refl _) hm (size_madeCells _ _)
 rwa [madeCells_nil]at this
theorem cellB_at (M:List Bv) (i:Nat) (hi:i < M.length):(cellsR cB M)[i]? =some (M.getD i nilB).1:=by
 have h:=cellsR_get (f:=cB) (s:=1) (fun _=>rfl) nilB 0 (by decide) M i hi
 rw [Nat.mul_one,Nat.add_zero]at h
 exact h
theorem cellB_set (M:List Bv) (i:Nat) (hi:i < M.length) (a:Value) (st:List Int):(cellsR cB M).set i a=cellsR cB (M.set i (a,st)):=by
 have h:=cellsR_set (f:=cB) (s:=1) (fun _=>rfl) nilB (a,st) a 0 (by decide) M i hi rfl
 rw [Nat.mul_one,Nat.add_zero]at h
 exact h
theorem cellsB_len (M:List Bv):(cellsR cB M).length=M.length:=by rw [cellsR_length (s:=1) (fun _ _=>rfl),Nat.mul_one]
theorem take_map_snoc (ps:List (List Int)) (M:List Bv) (i:Nat) (y:Bv) (hi:i < M.length) (hip:i < ps.length) (h:(M.take i).map (·.2)=ps.take i) (hy:y.2=ps.getD i []):((M.set i y).take (i+1)).map (·.2)=ps.take (i+1):=by
 rw [set_take M i y hi,List.map_append,h,take_succ_getDD [] ps i hip,<-hy];rfl
end Go.Proofs.Bl
namespace Go.Proofs.YtglenbikdahgjaaGreatDoor
open Go Go.RowKit Go.Proofs Go.Proofs.Bl
def ApR (ps:List (List Int)) (w:World) (e:Ending) (w':World):Prop:=∃M:List Bv,e= .returned (.slice (some ⟨w.heap.size,0,none⟩) ps.length ps.length)/\Pk w' w.heap.size 1 (.slice (some ⟨w.heap.size,0,none⟩) ps.length ps.length) M.length (cellsR cB M)/\(∀y∈M,OkB (fun k=>w.heap.size < k) w' y)/\M.map (·.2)=ps/\Ext w w'
theorem sapart_any (v:Value) (ps:List (List Int)) (w:World) (h:Rdss w v ps) (hby:∀b∈ps,Byt b) (hn:ps.length<=1048576) (hlb:∀b∈ps,b.length<=140737488355328):
  Calls Tryz.prog 48 #[v] w fun e w'=>ApR ps w e w':=by
 obtain⟨M0,hM0,hMb,hMr⟩:=rdss_bv h
 obtain⟨n,hnn⟩:∃n,n=ps.length:=⟨_,rfl⟩
 have hml:M0.length=n:=by have:=congrArg List.length hMb;rw [hnn];simpa using this
 rw [hml]at hM0
 obtain⟨p,c,hf,hnc,hcm⟩:=hM0.form
 subst hf
 obtain⟨g,hg⟩:∃g,g=w.heap.size:=⟨_,rfl⟩
 obtain⟨w1,hrun,hown,hE1,hs1⟩:=make_nil (P:=Tryz.prog) tBB n (by omega) (by unfold maxLen;omega) w
 rw [<-hg]at hrun hown hs1
 have hbits:∀i,i < n->(ps.getD i [])∈ps:=fun i hi=>getD_mem [] (by omega)
 have hm0:∀i,i < n->(M0.getD i nilB).2=ps.getD i []:=fun i hi=>by
  rw [<-hMb,List.getD_eq_getElem?_getD,List.getD_eq_getElem?_getD,List.getElem?_map,List.getElem?_eq_getElem (by omega)];rfl
 have HM:=Bl.hid (And.intro hM0 hMr)
 have Hml:=Bl.hid (And.intro hml hnn)
 have Hb:=Bl.hid (And.intro hbits (And.intro hm0 (And.intro hby hlb)))
 have HE1:=Bl.hid hE1
 have Hg:Hid (g=w.heap.size/\g < w1.heap.size):=Bl.hid ⟨hg,hs1⟩
 have HP1:Hid (Pk w1 g 1 (.slice (some ⟨g,0,none⟩) n n) n (cellsR cB (List.replicate n nilB))):=Bl.hid (Pk.of_owns hown)
 have Hfin:Hid (∀M w',M.length=n->Pk w' g 1 (.slice (some ⟨g,0,none⟩) n n) n (cellsR cB M)->(∀y∈M,OkB (fun k=>g < k) w' y)->M.map (·.2)=ps->Ext w w'->ApR ps w (.returned (.slice (some ⟨g,0,none⟩) n n)) w'):=Bl.hid fun M w' h1 h2 h3 h4 h5=>by
  unfold ApR
  rw [<-hnn,<-hg]
  exact⟨M,rfl,by rw [h1];exact h2,h3,h4,h5⟩
 have hn2:n<=1048576:=by omega
 clear h hM0 hMb hMr hml hown hE1 hs1 hbits hm0 hby hlb hg hnn hn
 go_enter Tryz.func48,Tryz.ntmps48
 go_wp2_with fail
 clear hrun
 go_loopw [11] (fun x wr=>∃(i:Nat) (M:List Bv),i<=n/\x= .int .i64 i/\Hid (Pk wr g 1 (.slice (some ⟨g,0,none⟩) n n) n (cellsR cB M)/\M.length=n/\(∀y∈M.take i,OkB (fun k=>g < k) wr y)/\(M.take i).map (·.2)=ps.take i)/\Hid (Kq (fun k=>g<=k) w1 wr)) (fun x _=>n - (intOf x).toNat)
 case atStart=>exact⟨0,_,Nat.zero_le _,rfl,Bl.hid ⟨HP1.out,by simp,fun y hy=>(by simp at hy),by simp⟩,Bl.hid (Kq.refl _)⟩
 case round=>
  obtain⟨i,M,hi,rfl,HI,HKr⟩:=hrel
  have HEr:Hid (Ext w wr):=Bl.hid (HE1.out.trans' HKr.out (by have:=Hg.out;omega))
  have HgR:Hid (g < wr.heap.size):=Bl.hid (by have:=HKr.out.size;have:=Hg.out;omega)
  by_cases hlt:i < n
  ·have hil:i < M.length:=by rw [HI.out.2.1];exact hlt
   have hil0:i < M0.length:=by rw [Hml.out.1];exact hlt
   obtain⟨b,o,c2,hq,_,_,hbl,hrg⟩:=Rds.pos HM.out.1 (by omega) (by intro q;have:=cellsB_len M0;rw [q]at this;simp at this;omega)
   injection hq with hq1 hq2 hq3
   subst hq1 hq3
   have hrd:=(HM.out.2 _ (getD_mem nilB hil0)).ext HEr.out
   have hcl:=(rangeAt_ext hrg HEr.out) i _ (cellB_at M0 i hil0)
   have hmem:=Hb.out.1 i hlt
   have hval:=Hb.out.2.1 i hlt
   obtain⟨x0,hx⟩:∃x,x=M0.getD i nilB:=⟨_,rfl⟩
   rw [<-hx]at hrd hcl hval
   obtain⟨u1,st⟩:=x0
   simp only at hrd hcl hval
   obtain⟨p1,c1,hu1,_,_⟩:=hrd.form
   subst hu1
   rw [<-hval]at hmem
   have Hst:Hid (Byt st/\st.length<=140737488355328/\st=ps.getD i []):=Bl.hid ⟨Hb.out.2.2.1 _ hmem,Hb.out.2.2.2 _ hmem,hval⟩
   have Hrd:=Bl.hid hrd
   have HcM:=Bl.hid (cellB_at M i hil)
   have Hset:=Bl.hid (fun a=>cellB_set M i hil a st)
   have Hlen:Hid (i < (cellsR cB M).length/\i < M.length/\i < ps.length):=Bl.hid ⟨by rw [cellsB_len];exact hil,hil,by rw [<-Hml.out.2];exact hlt⟩
   have hi0:(0:Int)<=(i:Int):=by omega
   have hi1:(i:Int) < (n:Int):=by omega
   have hi2:(i:Int)<=1048576:=by omega
   clear hrd hval hmem hx hil hil0 hrg hbl hq2
   go_wp2_with fail
   refine(cloneB_any (.slice p1 st.length c1) st wr Hrd.out Hst.out.2.1).mono ?_
   rintro e w2 ⟨v9,rfl,hown9,hE9⟩
   obtain⟨p9,c9,hv9,_,_⟩:=(Rds.of_owns hown9).form
   subst hv9
   have HR2:=Bl.hid (HI.out.1.ext hE9)
   have q9:=HR2.out.cell HcM.out
   have f9:=HR2.out.fz Hlen.out.1
   have HP9:Hid (Pk (w2.setCell ⟨g,i,none⟩ (.slice p9 st.length c9)) g 1 (.slice (some ⟨g,0,none⟩) n n) n (cellsR cB (M.set i (.slice p9 st.length c9,st)))):=Bl.hid (by
    rw [<-Hset.out]
    exact HR2.out.put Hlen.out.1 _)
   have hks:Kq (fun k=>k=g) w2 (w2.setCell ⟨g,i,none⟩ (.slice p9 st.length c9)):=(Kq.refl w2).setCell (Q:=fun k=>k=g) ⟨g,i,none⟩ rfl _
   have HK9:Hid (Kq (fun k=>k=g) wr (w2.setCell ⟨g,i,none⟩ (.slice p9 st.length c9))):=Bl.hid ((Kq.of_ext hE9).trans hks)
   have HOk:Hid (OkB (fun k=>g < k) (w2.setCell ⟨g,i,none⟩ (.slice p9 st.length c9)) (.slice p9 st.length c9,st)):=Bl.hid ⟨(RdsF.of_rds (F:=fun k=>g < k) (Rds.of_owns hown9) (fun b hb _=>by have:=(hown9.lt b hb).1;have:=HgR.out;omega)).kept (fun b hb hl=>⟨hb,hks.block b hl (fun q=>by omega)⟩),Hst.out.1⟩
   clear hown9 hE9 hks hcl
   go_wp2_with fail
   obtain⟨w9,hw9⟩:∃W,W=w2.setCell ⟨g,i,none⟩ (.slice p9 st.length c9):=⟨_,rfl⟩
   rw [<-hw9]at HP9 HK9 HOk⊢
   clear hw9 q9 f9
   go_roundw
   case rel=>exact⟨i+1,M.set i (.slice p9 st.length c9,st),by omega,by go_num,Bl.hid ⟨HP9.out,by rw [List.length_set];exact HI.out.2.1,fun y hy=>by
     rw [set_take M i _ Hlen.out.2.1]at hy
     rcases List.mem_append.1 hy with hy | hy
     ·exact stab_okB _ _ _ _ _ (HI.out.2.2.1 y hy) fun b hb hl=>⟨hb,HK9.out.block b hl (fun q=>by omega)⟩
     ·obtain rfl:y=(.slice p9 st.length c9,st):=by simpa using hy
      exact HOk.out,take_map_snoc ps M i _ Hlen.out.2.1 Hlen.out.2.2 HI.out.2.2.2 Hst.out.2.2⟩,Bl.hid (HKr.out.trans (HK9.out.mono fun k _ q=>by omega))⟩
   case measure=>simp [intOf];omega
  ·obtain rfl:i=n:=by omega
   have HMt:Hid (M.take i=M/\ps.take i=ps):=Bl.hid ⟨List.take_of_length_le (by rw [HI.out.2.1];exact Nat.le_refl _),List.take_of_length_le (by rw [<-Hml.out.2];exact Nat.le_refl _)⟩
   go_wp2_with fail
   go_ret
   refine Hfin.out M _ HI.out.2.1 HI.out.1 ?_ ?_ HEr.out
   ·have h:=HI.out.2.2.1;rw [HMt.out.1]at h;exact h
   ·have h:=HI.out.2.2.2;rw [HMt.out.1,HMt.out.2]at h;exact h
end Go.Proofs.YtglenbikdahgjaaGreatDoor
namespace Go.Proofs.Bl
open Go Go.RowKit
abbrev Ob:=Int × Value × List (List Int)
abbrev o0:Ob:=(0,.slice none 0 0,[])
def cO (x:Ob):List Value:=[.int .i64 x.1,x.2.1]
theorem cO_len (x:Ob):(cO x).length=2:=rfl
def RowF (F:Nat->Prop) (w:World) (v:Value) (st:List (List Int)):Prop:=∃M:List Bv,RdsF F w v M.length (cellsR cB M)/\(∀y∈M,OkB F w y)/\M.map (·.2)=st
theorem RowF.kept {F F':Nat->Prop} {w w':World} {v:Value} {st:List (List Int)} (h:RowF F w v st) (hk:∀k,F k->k < w.heap.size->F' k/\w'.heap[k]? =w.heap[k]?):RowF F' w' v st:=by
 obtain⟨M,h1,h2,h3⟩:=h
 exact⟨M,h1.kept hk,fun y hy=>stab_okB _ _ _ _ _ (h2 y hy) hk,h3⟩
theorem RowF.rdss {F:Nat->Prop} {w:World} {v:Value} {st:List (List Int)} (h:RowF F w v st):Rdss w v st:=by
 obtain⟨M,h1,h2,h3⟩:=h
 refine⟨M.map (·.1),?_,by rw [<-h3,List.length_map,List.length_map],fun i hi=> ?_⟩
 ·have h4:=h1.rds
  rw [cellsB]at h4
  rw [<-h3,List.length_map];exact h4
 ·rw [<-h3,List.length_map]at hi
  have h5:=(h2 _ (List.getElem_mem hi)).1.rds
  rw [<-h3,List.getD_eq_getElem?_getD,List.getD_eq_getElem?_getD,List.getElem?_map,List.getElem?_map,List.getElem?_eq_getElem hi]
  exact h5
theorem RowF.byt {F:Nat->Prop} {w:World} {v:Value} {st:List (List Int)} (h:RowF F w v st):∀b∈st,Byt b:=by
 obtain⟨M,h1,h2,h3⟩:=h
 intro b hb
 rw [<-h3]at hb
 obtain⟨y,hy,rfl⟩:=List.mem_map.1 hb
 exact(h2 y hy).2
def OkO (F:Nat->Prop) (w:World) (x:Ob):Prop:=RowF F w x.2.1 x.2.2
structure DvR (F:Nat->Prop) (w:World) (b:Nat) (vo va:Value) (D:List Ob) (s:ShT):Prop where
 bx:BoxC w b [vo,va]
 ro:RdsF F w vo D.length (cellsR cO D)
 ok:∀x∈D,OkO F w x
 eq:D.map (fun x=>(x.1,x.2.2))=s.objs
 ra:RdsF F w va s.ids.length (ints .i64 s.ids)
 rn:∀x∈s.ids,0<=x/\x<=1099511627776
 nb:¬F b
def DvX (F:Nat->Prop) (w:World) (b:Nat) (s:ShT):Prop:=∃vo va D,DvR F w b vo va D s
section
variable {F F' Q:Nat->Prop} {w w':World} {b:Nat} {vo va:Value} {D:List Ob} {s:ShT}
theorem DvR.kept (h:DvR F w b vo va D s) (k:Kq Q w w') (hq:∀i,Q i->¬F i/\i≠b) (hF:∀i,F i->i < w.heap.size->F' i) (hb:¬F' b):DvR F' w' b vo va D s:=by
 have hk:∀i,F i->i < w.heap.size->F' i/\w'.heap[i]? =w.heap[i]? :=fun i hi hl=>⟨hF i hi hl,k.block i hl fun q=>(hq i q).1 hi⟩
 exact⟨k.box (fun q=>(hq b q).2 rfl) h.bx,h.ro.kept hk,fun x hx=>(h.ok x hx).kept hk,h.eq,h.ra.kept hk,h.rn,hb⟩
theorem DvR.ext (h:DvR F w b vo va D s) (hE:Ext w w'):DvR F w' b vo va D s:=h.kept (Q:=fun _=>False) (Kq.of_ext hE) (fun _ q=>q.elim) (fun _ q _=>q) h.nb
theorem DvX.ext (h:DvX F w b s) (hE:Ext w w'):DvX F w' b s:=by
 obtain⟨vo,va,D,h⟩:=h;exact⟨vo,va,D,h.ext hE⟩
theorem DvR.len (h:DvR F w b vo va D s):D.length=s.objs.length:=by rw [<-h.eq,List.length_map]
theorem DvR.at' (h:DvR F w b vo va D s) {i:Nat} (hi:i < D.length):s.objs[i]? =some ((D.getD i o0).1,(D.getD i o0).2.2):=by
 rw [<-h.eq,List.getElem?_map,List.getD_eq_getElem?_getD,List.getElem?_eq_getElem hi];rfl
theorem DvR.pos (h:DvR F w b vo va D s) (hn:0 < D.length):∃g o c,vo= .slice (some ⟨g,o,none⟩) D.length c/\D.length<=c/\c<=maxLen/\g < w.heap.size/\∀i,i < D.length->w.rangeAt g (o+i*2) (cO (D.getD i o0)):=by
 obtain⟨g,o,c,h1,h2,h3,h4,h5⟩:=Rds.pos h.ro.rds hn (fun q=>by have:=cellsR_length (f:=cO) (s:=2) (L:=D) (fun x _=>cO_len x);rw [q]at this;simp at this;omega)
 exact⟨g,o,c,h1,h2,h3,h4,fun i hi=>elem_at o0 h5 (fun x _=>cO_len x) hi⟩
end
def KC2 (b:Nat) (w w':World):Prop:=∀k o v,¬(k=b/\o < 2)->w.cell? ⟨k,o,Option.none⟩=some v->w'.cell? ⟨k,o,Option.none⟩=some v
theorem KC2.of_ext {b:Nat} {w w':World} (h:Ext w w'):KC2 b w w':=fun k o v _ hc=>by
 rw [World.cell?_of_block (w:=w) (h.block k (World.block_lt_of_cell? _ _ hc))];exact hc
theorem KC2.trans {b:Nat} {w w1 w2:World} (h:KC2 b w w1) (h2:KC2 b w1 w2):KC2 b w w2:=fun k o v hn hc=>h2 k o v hn (h k o v hn hc)
theorem KC2.kq {b:Nat} {Q:Nat->Prop} {w w1 w2:World} (h:KC2 b w w1) (k:Kq Q w1 w2) (hq:∀i,Q i->w.heap.size<=i):KC2 b w w2:=fun i o v hn hc=>by
 have h1:=h i o v hn hc
 rw [World.cell?_of_block (w:=w1) (k.block i (World.block_lt_of_cell? _ _ h1) fun q=>by have:=hq i q;have h2:i < w.heap.size:=World.block_lt_of_cell? _ _ hc;omega)];exact h1
theorem KC2.set {b:Nat} {w w1:World} (h:KC2 b w w1) {i:Nat} (hi:i < 2) (u:Value):KC2 b w (w1.setCell ⟨b,i,Option.none⟩ u):=fun k o v hn hc=>by
 rw [World.cell?_setCell_other _ _ _ _ (by
  intro q
  injection q with q1 q2 _
  exact hn ⟨q1.symm,by omega⟩)]
 exact h k o v hn hc
def FndR (D:List Ob) (n r:Int):Prop:=(∃i:Nat,i < D.length/\r=(i:Int)/\(D.getD i o0).1=n/\∀j,j < i->(D.getD j o0).1≠n)\/(r= -1/\∀j,j < D.length->(D.getD j o0).1≠n)
theorem find_first {α :Type} (f: α ->Bool):∀(l:List α) (i:Nat) (x: α),l[i]? =some x->f x=true->(∀j y,j < i->l[j]? =some y->f y=false)->l.find? f=some x
 | [],i,x,h,_,_=>by simp at h
 | y :: r,0,x,h,hx,_=>by
  obtain rfl:y=x:=by simpa using h
  simp [hx]
 | y :: r,i+1,x,h,hx,hj=>by
  rw [List.find?_cons,hj 0 y (Nat.zero_lt_succ _) rfl]
  exact find_first f r i x (by simpa using h) hx fun j z hji hz=>hj (j+1) z (by omega) (by simpa using hz)
theorem DvR.some {F:Nat->Prop} {w:World} {b:Nat} {vo va:Value} {D:List Ob} {s:ShT} (h:DvR F w b vo va D s) {n:Int} {i:Nat} (hi:i < D.length) (h1:(D.getD i o0).1=n) (h2:∀j,j < i->(D.getD j o0).1≠n):getO s n=Option.some (D.getD i o0).2.2:=by
 unfold getO
 rw [find_first (fun p=>decide (p.1=n)) s.objs i _ (h.at' hi) (by simpa using h1) (fun j y hj hy=>by
  rw [h.at' (by omega)]at hy
  obtain rfl:=Option.some.inj hy
  simpa using h2 j hj)]
 rfl
theorem DvR.none {F:Nat->Prop} {w:World} {b:Nat} {vo va:Value} {D:List Ob} {s:ShT} (h:DvR F w b vo va D s) {n:Int} (h2:∀j,j < D.length->(D.getD j o0).1≠n):getO s n=Option.none:=by
 unfold getO
 have:s.objs.find? (fun p=>decide (p.1=n))=Option.none:=List.find?_eq_none.2 fun p hp=>by
  obtain⟨j,hj,rfl⟩:=List.getElem_of_mem hp
  have h3:=h.at' (i:=j) (by rw [h.len];exact hj)
  rw [List.getElem?_eq_getElem hj]at h3
  have h4:=congrArg Prod.fst (Option.some.inj h3)
  have h5:=h2 j (by rw [h.len];exact hj)
  simp only [decide_eq_true_eq]
  rw [h4];exact h5
 rw [this];rfl
end Go.Proofs.Bl
namespace Go.Proofs.Bl
theorem gmx_take (l:List Int) (i:Nat) (h:i < l.length):gmx 0 (l.take (i+1))=if gmx 0 (l.take i) < l.getD i 0 then l.getD i 0 else gmx 0 (l.take i):=by
 rw [take_succ_getDD 0 l i h,gmx_app]
end Go.Proofs.Bl
namespace Go.Proofs.YtglenbikdahgjaaGreatDoor
open Go Go.RowKit Go.Proofs Go.Proofs.Bl
theorem great_any (b:Nat) (v:Value) (ids:List Int) (w:World) (hc:w.cell? ⟨b,1,none⟩=some v) (h:Rd w .i64 v ids):
  Calls Tryz.prog 128 #[.pointer (some ⟨b,1,none⟩)] w fun e w'=>e= .returned (.tuple #[.int .i64 (gmx 0 ids),.bool (!ids.isEmpty)])/\Ext w w':=by
 obtain⟨p,c,rfl,hn,hm⟩:=h.form
 have H:=Bl.hid h
 obtain⟨n,hnn⟩:∃n,n=ids.length:=⟨_,rfl⟩
 have Hn:=Bl.hid hnn
 rw [<-hnn]at hc H hn
 unfold maxLen at hm
 have hbl:=World.block_lt_of_cell? _ _ hc
 have Hbl:Hid (b < w.heap.size):=Bl.hid hbl
 have Hc:=Bl.hid hc
 clear h hnn
 go_enter Tryz.func128,Tryz.ntmps128
 go_wp2_with fail
 go_loopw [4,12] (fun g x wr=>∃i:Nat,i<=n/\x= .int .i64 i/\g= .int .i64 (gmx 0 (ids.take i))/\Ext w wr) (fun _ x _=>n - (intOf x).toNat)
 case atStart=>exact⟨0,Nat.zero_le _,rfl,rfl,Below.refl _ _⟩
 case round=>
  obtain⟨i,hi,rfl,rfl,hE⟩:=hrel
  have HE:=Bl.hid hE
  clear hE
  obtain⟨g,hg⟩:∃g,g=gmx 0 (ids.take i):=⟨_,rfl⟩
  rw [<-hg]
  have Hg:=Bl.hid hg
  clear hg
  by_cases hlt:i < n
  ·have hil:i < ids.length:=by rw [<-Hn.out];exact hlt
   have hr:=H.out.ext HE.out
   rw [Hn.out]at hr
   obtain⟨gb,o,c',hpp,_,_,hbl2,hpc⟩:=Rds.pos hr (Nat.lt_of_le_of_lt (Nat.zero_le _) hil) (fun q=>by have:=congrArg List.length q;rw [ints_length]at this;have h0:ids.length=0:=this;omega)
   injection hpp with hp1 _ hp3
   subst hp1 hp3
   have hcx:=hpc i _ (ints_get .i64 ids i hil)
   obtain⟨x,hx⟩:∃x,x=ids.getD i 0:=⟨_,rfl⟩
   rw [<-hx]at hcx
   have Hst:Hid (gmx 0 (ids.take (i+1))=if g < x then x else g):=Bl.hid (by rw [gmx_take ids i hil,Hg.out,hx])
   have hi0:(0:Int)<=(i:Int):=by omega
   have hi1:(i:Int) < (n:Int):=by omega
   clear hpc hr hx hil
   by_cases hgx:g < x
   ·rw [if_pos hgx]at Hst
    go_wp2_with fail
    go_roundw
    case rel=>exact⟨i+1,by omega,by go_num,by rw [Hst.out],HE.out⟩
    case measure=>simp [intOf];omega
   ·rw [if_neg hgx]at Hst
    go_wp2_with fail
    go_roundw
    case rel=>exact⟨i+1,by omega,by go_num,by rw [Hst.out],HE.out⟩
    case measure=>simp [intOf];omega
  ·obtain rfl:i=n:=by omega
   have Hg2:Hid (g=gmx 0 ids):=Bl.hid (by rw [Hg.out,Hn.out,List.take_length])
   have hc0:=((bcell HE.out).1 _ 1 Hbl.out).trans Hc.out
   have hbr:b < wr.heap.size:=Nat.lt_of_lt_of_le Hbl.out HE.out.size
   have Hem:Hid ((!ids.isEmpty)=decide (0 < i)):=Bl.hid (by
    rw [Hn.out]
    cases ids with
    | nil=>simp
    | cons y r=>simp)
   go_wp2_with fail
   go_quiet (fail)
   go_wp2_with fail
   go_ret2
   rw [<-Hg2.out,Hem.out]
   exact⟨rfl,HE.out.drewN _⟩
theorem mold_any (b:Nat) (v:Value) (ids:List Int) (x:Int) (w:World) (hc:w.cell? ⟨b,1,none⟩=some v) (h:Rd w .i64 v ids) (hr:∀y∈ids,0<=y/\y<=1099511627776):
  Calls Tryz.prog 76 #[.pointer (some ⟨b,1,none⟩),.int .i64 x] w fun e w'=>e= .returned (.bool (oldI ids x))/\Ext w w':=by
 have HG:=Bl.hid (great_any b v ids w hc h)
 have hg1:=(gmx_ge ids 0).1
 have hg2:gmx 0 ids<=1099511627776:=by
  rcases gmx_mem ids 0 with q | q
  ·omega
  ·exact(hr _ q).2
 have HO:Hid (oldI ids x=((!ids.isEmpty)&&decide (x<=gmx 0 ids - 64))):=Bl.hid rfl
 obtain⟨g,hgg⟩:∃g,g=gmx 0 ids:=⟨_,rfl⟩
 obtain⟨k,hk⟩:∃k,k= !ids.isEmpty:=⟨_,rfl⟩
 rw [<-hgg,<-hk]at HO HG
 rw [<-hgg]at hg1 hg2
 rw [HO.out]
 clear hgg hk hc h hr HO
 have hw:IntKind.i64.wrap (g - 64)=g - 64:=by
  simp only [IntKind.wrap,IntKind.bits,IntKind.signed]
  simp
  omega
 go_enter Tryz.func76,Tryz.ntmps76
 go_wp2_with fail
 refine HG.out.mono ?_
 rintro e w1 ⟨rfl,hE⟩
 have HE:=Bl.hid hE
 clear hE HG
 cases k
 ·go_wp2_with fail
  go_ret
  exact⟨rfl,HE.out⟩
 ·go_wp2_with fail
  go_ret
  exact⟨rfl,HE.out⟩
theorem mhas_any (b:Nat) (v:Value) (ids:List Int) (x:Int) (w:World) (hcl:w.cell? ⟨b,1,none⟩=some v) (h:Rd w .i64 v ids) (hr:∀y∈ids,0<=y/\y<=1099511627776):
  Calls Tryz.prog 77 #[.pointer (some ⟨b,1,none⟩),.int .i64 x] w fun e w'=>e= .returned (.bool (hasI ids x))/\Ext w w':=by
 obtain⟨p,c,rfl,hn,hm⟩:=h.form
 have HOl:Hid (∀w2,Ext w w2->Calls Tryz.prog 76 #[.pointer (some ⟨b,1,none⟩),.int .i64 x] w2 fun e w'=>e= .returned (.bool (oldI ids x))/\Ext w2 w'):=Bl.hid fun w2 h2=>mold_any b _ ids x w2 (((bcell h2).1 _ 1 (World.block_lt_of_cell? _ _ hcl)).trans hcl) (h.ext h2) hr
 have H:=Bl.hid h
 obtain⟨n,hnn⟩:∃n,n=ids.length:=⟨_,rfl⟩
 have Hn:=Bl.hid hnn
 rw [<-hnn]at hcl H hn
 unfold maxLen at hm
 clear h hnn hr
 obtain⟨od,hod⟩:∃od,od=oldI ids x:=⟨_,rfl⟩
 rw [<-hod]at HOl
 have Hod:=Bl.hid hod
 clear hod
 go_enter Tryz.func77,Tryz.ntmps77
 go_wp2_with fail
 clear hcl
 go_loopw [12] (fun y wr=>∃i:Nat,i<=n/\y= .int .i64 i/\Hid (x∈ids.take i->od=true)/\Ext w wr) (fun y _=>n - (intOf y).toNat)
 case atStart=>exact⟨0,Nat.zero_le _,rfl,Bl.hid (fun q=>by simp at q),Below.refl _ _⟩
 case round=>
  obtain⟨i,hi,rfl,HI,hE⟩:=hrel
  have HE:=Bl.hid hE
  clear hE
  by_cases hlt:i < n
  ·have hil:i < ids.length:=by rw [<-Hn.out];exact hlt
   have hr:=H.out.ext HE.out
   rw [Hn.out]at hr
   obtain⟨gb,o,c',hpp,_,_,hbl2,hpc⟩:=Rds.pos hr (Nat.lt_of_le_of_lt (Nat.zero_le _) hil) (fun q=>by have:=congrArg List.length q;rw [ints_length]at this;have h0:ids.length=0:=this;omega)
   injection hpp with hp1 _ hp3
   subst hp1 hp3
   have hcx:=hpc i _ (ints_get .i64 ids i hil)
   obtain⟨z,hz⟩:∃z,z=ids.getD i 0:=⟨_,rfl⟩
   rw [<-hz]at hcx
   have Hmem:Hid (z∈ids):=Bl.hid (by rw [hz];exact getD_mem 0 hil)
   have Hsn:Hid (ids.take (i+1)=ids.take i++[z]):=Bl.hid (by rw [take_succ_getDD 0 ids i hil,hz])
   have hi0:(0:Int)<=(i:Int):=by omega
   have hi1:(i:Int) < (n:Int):=by omega
   clear hpc hr hz hil
   by_cases hzx:z=x
   ·subst hzx
    go_wp2_with fail
    refine(HOl.out _ HE.out).mono ?_
    rintro e w2 ⟨rfl,hE2⟩
    have HE2:=Bl.hid (HE.out.trans hE2)
    clear hE2
    cases od
    ·go_wp2_with fail
     go_ret
     refine⟨?_,HE2.out⟩
     unfold hasI
     rw [<-Hod.out]
     simp [Hmem.out]
    ·go_wp2_with fail
     go_roundw
     case rel=>exact⟨i+1,by omega,by go_num,Bl.hid (by simp),HE2.out⟩
     case measure=>simp [intOf];omega
   ·go_wp2_with fail
    go_roundw
    case rel=>exact⟨i+1,by omega,by go_num,Bl.hid (fun hm=>by
     rw [Hsn.out]at hm
     rcases List.mem_append.1 hm with hm | hm
     ·exact HI.out hm
     ·exact absurd (List.mem_singleton.1 hm).symm hzx),HE.out⟩
    case measure=>simp [intOf];omega
  ·obtain rfl:i=n:=by omega
   go_wp2_with fail
   go_ret
   refine⟨?_,HE.out⟩
   unfold hasI
   rw [<-Hod.out]
   have q:=HI.out
   rw [Hn.out,List.take_length]at q
   by_cases hm:x∈ids
   ·rw [q hm];simp
   ·simp [hm]
theorem mfind_any (F:Nat->Prop) (b:Nat) (vo va:Value) (D:List Ob) (s:ShT) (x:Int) (w:World) (h:DvR F w b vo va D s):
  Calls Tryz.prog 41 #[.pointer (some ⟨b,0,none⟩),.int .i64 x] w fun e w'=>(∃r,e= .returned (.int .i64 r)/\FndR D x r)/\Ext w w':=by
 obtain⟨p,c,hvo,hn,hm⟩:=h.ro.rds.form
 subst hvo
 have hc0:=h.bx.cell (i:=0) (v:= .slice p D.length c) rfl
 have H:=Bl.hid h
 obtain⟨n,hnn⟩:∃n,n=D.length:=⟨_,rfl⟩
 have Hn:=Bl.hid hnn
 rw [<-hnn]at hc0 H hn
 unfold maxLen at hm
 clear h hnn
 go_enter Tryz.func41,Tryz.ntmps41
 go_wp2_with fail
 clear hc0
 go_loopw [12] (fun y wr=>∃i:Nat,i<=n/\y= .int .i64 i/\Hid (∀j,j < i->(D.getD j o0).1≠x)/\Ext w wr) (fun y _=>n - (intOf y).toNat)
 case atStart=>exact⟨0,Nat.zero_le _,rfl,Bl.hid (fun j hj=>absurd hj (Nat.not_lt_zero j)),Below.refl _ _⟩
 case round=>
  obtain⟨i,hi,rfl,HI,hE⟩:=hrel
  have HE:=Bl.hid hE
  clear hE
  by_cases hlt:i < n
  ·have hil:i < D.length:=by rw [<-Hn.out];exact hlt
   have hr:=H.out.ext HE.out
   rw [Hn.out]at hr
   obtain⟨gb,o,c',hpp,_,_,hbl2,hel⟩:=hr.pos (Nat.lt_of_le_of_lt (Nat.zero_le _) hil)
   injection hpp with hp1 _ hp3
   subst hp1 hp3
   have hrg:=hel i hil
   obtain⟨q1,c1,hf1,_,_⟩:=((H.out.ok _ (getD_mem o0 hil)).rdss).form
   obtain⟨⟨z,vz,lz⟩,hz⟩:∃z,z=D.getD i o0:=⟨_,rfl⟩
   rw [<-hz]at hrg hf1
   have Hz:Hid ((D.getD i o0).1=z):=Bl.hid (by rw [<-hz])
   have hf2:vz= .slice q1 lz.length c1:=hf1
   subst hf2
   obtain⟨co,hco⟩:∃co:List Value,co=[.int .i64 z,.slice q1 lz.length c1]:=⟨_,rfl⟩
   have hrg':wr.rangeAt gb (o+i*2) co:=by rw [hco];exact hrg
   have Hld:=Bl.hid (run_loadAt_mid (P:=Tryz.prog) wr gb (o+i*2) 95 _ _ hrg' Tryz.underlying95 rfl (by rw [hco];kernel_rfl))
   obtain⟨hB1,hE1⟩:=BoxC.fresh (cs:=co) wr 95 #[.int .i64 0,.slice none 0 0] (by rw [hco];rfl) (by rw [hco];exact List.cons_ne_nil _ _)
   have Hst:=Bl.hid (fresh_store (P:=Tryz.prog) (cs:=co) wr 95 #[.int .i64 0,.slice none 0 0] (by rw [hco];rfl) (by rw [hco];intro c hc;simp only [List.mem_cons,List.not_mem_nil,or_false]at hc;rcases hc with rfl | rfl<;>rfl) (ty:=95) (by rw [hco];kernel_rfl))
   have HE1:=Bl.hid (HE.out.trans hE1)
   have hz0:=hB1.cell (i:=0) (v:= .int .i64 z) (by rw [hco];rfl)
   have hi0:(0:Int)<=(i:Int):=by omega
   have hi1:(i:Int) < (n:Int):=by omega
   clear hel hr hz hil hrg hrg' hf1 hB1 hE1 hco
   go_wp2_with (with_reducible refine stop_load (ty:=95) ?_)
   refine go_on ?_
   refine wpL_load rfl Hld.out ?_
   go_wp2_with (with_reducible refine stop_store (ty:=95) ?_)
   refine go_on ?_
   refine wpL_store0 rfl rfl Hst.out ?_
   obtain⟨W1,hW1⟩:∃W1,W1=(wr.alloc (.cells #[.int .i64 0,.slice none 0 0] 95)).setCells wr.heap.size 0 co:=⟨_,rfl⟩
   obtain⟨X1,hX1⟩:∃X1,X1=wr.heap.size:=⟨_,rfl⟩
   rw [<-hW1]at HE1 hz0⊢
   rw [<-hX1]at hz0⊢
   clear hW1 hX1 Hst Hld
   by_cases hzx:z=x
   ·subst hzx
    go_wp2_with fail
    go_ret
    exact⟨⟨_,rfl,.inl ⟨i,by rw [<-Hn.out];exact hlt,rfl,Hz.out,HI.out⟩⟩,HE1.out⟩
   ·go_wp2_with fail
    clear hz0
    go_roundw
    case rel=>exact⟨i+1,by omega,by go_num,Bl.hid (fun j hj=>by
     rcases Nat.lt_succ_iff_lt_or_eq.1 hj with q | q
     ·exact HI.out j q
     ·rw [q,Hz.out];exact hzx),HE1.out⟩
    case measure=>simp [intOf];omega
  ·obtain rfl:i=n:=by omega
   go_wp2_with fail
   go_ret
   exact⟨⟨_,rfl,.inr ⟨rfl,fun j hj=>HI.out j (by rw [Hn.out];exact hj)⟩⟩,HE.out⟩
end Go.Proofs.YtglenbikdahgjaaGreatDoor
