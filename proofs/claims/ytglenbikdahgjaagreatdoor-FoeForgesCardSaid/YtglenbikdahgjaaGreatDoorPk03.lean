/- Texts that stood apart, in one: Trip, Out. -/
import Derived.Lib.AppendZerosOnto
import Derived.WalkKit
import Derived.WalkLawsBesides
import Derived.WalkSpells
import Derived.Deep.QuietTactic
import Derived.BigQuiet
import Derived.Deep.RegionWith
import Derived.IntWalk
import Derived.Laws.IdiomCopy
import Derived.Lib.SlBytesConst
import Derived.Lib.SmallJoins
import Derived.RangeFuncLeaves
import Derived.Test.YtglenbikdahgjaaGreatDoorPk00
import Derived.Test.YtglenbikdahgjaaGreatDoorPk01
import Derived.Test.YtglenbikdahgjaaGreatDoorProg
import Derived.Test.YtglenbikdahgjaaGreatDoorShelf
set_option maxRecDepth 100000
set_option maxHeartbeats 16000000
namespace Go.Proofs.Bl
open Go Go.RowKit
def cellsT (ts:List (Bool × Nat × Nat)):List Value:=ts.flatMap fun t=>[.bool t.1,.int .i64 t.2.1,.int .i64 t.2.2]
theorem cellsT_append (a b:List (Bool × Nat × Nat)):cellsT (a++b)=cellsT a++cellsT b:=by simp [cellsT]
theorem cellsT_length:∀(ts:List (Bool × Nat × Nat)),(cellsT ts).length=ts.length*3
 | []=>rfl
 | t :: r=>by
  show([Value.bool t.1,.int .i64 t.2.1,.int .i64 t.2.2]++cellsT r).length=_
  rw [List.length_append,cellsT_length r,List.length_cons]
  simp;omega
theorem cellsT_one' (ts:List (Bool × Nat × Nat)):∀c∈cellsT ts,c.oneCell'=true:=fun c hc=>by
 obtain⟨t,_,ht⟩:=List.mem_flatMap.1 hc
 simp only [List.mem_cons,List.not_mem_nil,or_false]at ht
 rcases ht with rfl | rfl | rfl<;>rfl
theorem rds_new1 (w:World) (e:TypeId) (cs:Array Value):Rds (w.alloc (.cells cs e)) (.slice (some ⟨w.heap.size,0,none⟩) 1 1) 1 cs.toList:=by
 refine .inr ⟨w.heap.size,0,1,rfl,Nat.le_refl _,show 1<=maxLen from by decide,fun j v hv=> ?_⟩
 rw [Nat.zero_add,World.cell?_alloc_new]
 simpa using hv
theorem getD_map {α β :Type} (f: α -> β) (l:List α) (k:Nat) (a: α) (b: β) (h:k < l.length):(l.map f).getD k b=f (l.getD k a):=by
 rw [List.getD_eq_getElem?_getD,List.getD_eq_getElem?_getD,List.getElem?_map,List.getElem?_eq_getElem h];rfl
theorem take_snocD (l:List (List Int)) (k:Nat) (h:k < l.length):l.take (k+1)=l.take k++[l.getD k []]:=by
 rw [List.getD_eq_getElem?_getD,List.getElem?_eq_getElem h,List.take_succ_eq_append_getElem h];rfl
theorem cellsT_get:∀(ts:List (Bool × Nat × Nat)) (k:Nat),k < ts.length->(cellsT ts)[k*3]? =some (.bool (ts.getD k default).1)/\(cellsT ts)[k*3+1]? =some (.int .i64 (ts.getD k default).2.1)/\(cellsT ts)[k*3+2]? =some (.int .i64 (ts.getD k default).2.2)
 | [],k,h=>by simp at h
 | t :: r,0,_=>⟨rfl,rfl,rfl⟩
 | t :: r,k+1,h=>by
  have ih:=cellsT_get r k (by simpa using h)
  show(_ :: _ :: _ :: cellsT r)[(k+1)*3]? =_/\(_ :: _ :: _ :: cellsT r)[(k+1)*3+1]? =_/\(_ :: _ :: _ :: cellsT r)[(k+1)*3+2]? =_
  rw [show(k+1)*3=k*3+1+1+1 from by omega,show k*3+1+1+1+1=(k*3+1)+1+1+1 from by omega,show k*3+1+1+1+2=(k*3+2)+1+1+1 from by omega]
  simp only [List.getElem?_cons_succ,List.getD_cons_succ]
  exact ih
theorem RdT.pos {w:World} {v:Value} {ts:List (Bool × Nat × Nat)} (h:Rds w v ts.length (cellsT ts)) (hne:0 < ts.length):∃b o c,v= .slice (some ⟨b,o,none⟩) ts.length c/\ts.length<=c/\c<=maxLen/\b < w.heap.size/\w.rangeAt b o (cellsT ts):=by
 rcases h with ⟨_,h,_⟩ | ⟨b,o,c,h1,h2,h3,h4⟩
 ·omega
 ·exact⟨b,o,c,h1,h2,h3,rangeAt_lt h4 (fun q=>by have:=cellsT_length ts;rw [q]at this;simp at this;omega),h4⟩
theorem turn_at {w:World} {b o:Nat} {ts:List (Bool × Nat × Nat)} (h:w.rangeAt b o (cellsT ts)) {k:Nat} (hk:k < ts.length) {x:Bool} {n i:Nat} (he:ts.getD k default=(x,n,i)):w.rangeAt b (o+k*3) [.bool x,.int .i64 n,.int .i64 i]:=fun j v hv=>by
 obtain⟨h0,h1,h2⟩:=cellsT_get ts k hk
 rw [he]at h0 h1 h2
 match j,hv with
 | 0,hv=>cases hv;exact h (k*3) _ h0
 | 1,hv=>cases hv;have:=h _ _ h1;rw [<-Nat.add_assoc]at this;exact this
 | 2,hv=>cases hv;have:=h _ _ h2;rw [<-Nat.add_assoc]at this;exact this
 | j+3,hv=>simp at hv
theorem there_new (w:World) (cs:Array Value) (e:TypeId) (n:Nat) (hn:cs.size=n):(w.alloc (.cells cs e)).there w.heap.size 0 n:=fun j hj=>by
 rw [Nat.zero_add,World.cell?_alloc_new]
 exact⟨by simp [hn,hj],by simp⟩
theorem drop_head {α :Type} {T:List α} {k:Nat} {x: α} {r:List α} (d: α) (h:T.drop k=x :: r):k < T.length/\T.getD k d=x/\T.drop (k+1)=r:=by
 have hk:k < T.length:=by
  have:=congrArg List.length h
  rw [List.length_drop,List.length_cons]at this;omega
 rw [List.drop_eq_getElem_cons hk]at h
 injection h with h1 h2
 exact⟨hk,by rw [List.getD_eq_getElem?_getD,List.getElem?_eq_getElem hk];exact h1,h2⟩
theorem own_pos {w:World} {base n:Nat} {e:TypeId} {v:Value} {l:List Int} (h:w.ownsRow base e 1 v n (ints .u8 l)) (hn:0 < n):∃g c,v= .slice (some ⟨g,0,none⟩) n c/\n<=c/\c<=maxLen/\w.rangeAt g 0 (ints .u8 l)/\base<=g/\g < w.heap.size/\l.length=n:=by
 have h0:=h.1
 rw [ints_length,Nat.mul_one]at h0
 rcases h.2 with ⟨_,h1⟩ | ⟨g,cap,cur,hv,hg,hh,hc,hm,hs,hx⟩
 ·omega
 ·subst hv
  exact⟨g,cap,rfl,hc,hm,fun j u hu=>by
   have:=h.cells (g:=g) rfl j u hu
   rw [Addr.add_mid]at this;exact this,hg,(h.lt g rfl).2,h0⟩
structure OutB (tS:TypeId) (X:Nat) (w:World) (base:Nat) (out:Value) (ps:List (List Int)) (vs:List Value):Prop where
 rows:w.ownsRow base tS 1 out ps.length vs
 ox:out.ownBlock≠some X
 elts:∀j,j < ps.length->∃g o c,vs.getD j undef= .slice (some ⟨g,o,none⟩) (ps.getD j []).length c/\(ps.getD j []).length<=c/\c<=maxLen/\w.rangeAt g o (ints .u8 (ps.getD j []))/\g < w.heap.size/\out.ownBlock≠some g/\g≠X
theorem OutB.len {tS:TypeId} {X:Nat} {w:World} {base:Nat} {out:Value} {ps:List (List Int)} {vs:List Value} (h:OutB tS X w base out ps vs):vs.length=ps.length:=by rw [h.rows.1,Nat.mul_one]
theorem OutB.ext {tS:TypeId} {X:Nat} {w w':World} {base:Nat} {out:Value} {ps:List (List Int)} {vs:List Value} (h:OutB tS X w base out ps vs) (hE:Ext w w'):OutB tS X w' base out ps vs:=
 ⟨owns_ext h.rows hE,h.ox,fun j hj=>by
  obtain⟨g,o,c,e1,e2,e3,e4,e5,e6,e7⟩:=h.elts j hj
  exact⟨g,o,c,e1,e2,e3,rangeAt_ext e4 hE,Nat.lt_of_lt_of_le e5 hE.size,e6,e7⟩⟩
theorem OutB.set {tS:TypeId} {X:Nat} {w:World} {base:Nat} {out:Value} {ps:List (List Int)} {vs:List Value} (h:OutB tS X w base out ps vs) (l:List Value):OutB tS X (w.setCells X 0 l) base out ps vs:=by
 have hx:Exc X w (w.setCells X 0 l):=exc_setCells l 0 w (Exc.refl X w)
 have hsz:=(below_setCells l X 0 w (Below.refl 0 w) (Nat.zero_le _)).size
 exact⟨hx.owns h.rows h.ox,h.ox,fun j hj=>by
  obtain⟨g,o,c,e1,e2,e3,e4,e5,e6,e7⟩:=h.elts j hj
  exact⟨g,o,c,e1,e2,e3,hx.range e4 e7,Nat.lt_of_lt_of_le e5 hsz,e6,e7⟩⟩
theorem OutB.rdss {tS:TypeId} {X:Nat} {w:World} {base:Nat} {out:Value} {ps:List (List Int)} {vs:List Value} (h:OutB tS X w base out ps vs):Rdss w out ps:=by
 refine⟨vs,Rds.of_owns h.rows,h.len,fun i hi=> ?_⟩
 obtain⟨g,o,c,e1,e2,e3,e4,_⟩:=h.elts i hi
 rw [e1]
 exact .inr ⟨g,o,c,rfl,e2,e3,e4⟩
theorem OutB.first {tS:TypeId} {X:Nat} {w:World} {base:Nat} {l:List Int} {g o c:Nat} (hb:base<=w.heap.size) (hr:w.rangeAt g o (ints .u8 l)) (hg:g < w.heap.size) (hc:l.length<=c) (hm:c<=maxLen) (hX:w.heap.size < X):
  OutB tS X (w.alloc (.cells #[.slice (some ⟨g,o,none⟩) l.length c] tS)) base (.slice (some ⟨w.heap.size,0,none⟩) 1 1) [l] [.slice (some ⟨g,o,none⟩) l.length c]:=by
 refine⟨owns_new w tS #[.slice (some ⟨g,o,none⟩) l.length c] base 1 1 hb (by decide) rfl,fun q=> ?_,fun j hj=> ?_⟩
 ·simp only [Value.ownBlock,Option.some.injEq]at q;omega
 ·obtain rfl:j=0:=by simpa using hj
  exact⟨g,o,c,rfl,hc,hm,rangeAt_ext hr (ext_alloc _ _),by rw [World.size_alloc];omega,fun q=>by simp only [Value.ownBlock,Option.some.injEq]at q;omega,by omega⟩
theorem OutB.step {tS:TypeId} {X:Nat} {w w2 w4:World} {base:Nat} {out out1:Value} {ps:List (List Int)} {vs:List Value} {l:List Int} {g o c:Nat}
  (h:OutB tS X w base out ps vs) (hE:Ext w w2) (hX:X < w.heap.size)
  (hr:w2.rangeAt g o (ints .u8 l)) (hg0:w.heap.size<=g) (hg1:g < w2.heap.size) (hc:l.length<=c) (hm:c<=maxLen)
  (own4:w4.ownsRow base tS 1 out1 (ps.length+1) (vs++[.slice (some ⟨g,o,none⟩) l.length c])) (hg4:(w2.alloc (.cells #[.slice (some ⟨g,o,none⟩) l.length c] tS)).grownBy w4 out.ownBlock)
  (hk4:∀k,out1.ownBlock=some k->out.ownBlock=some k\/(w2.alloc (.cells #[.slice (some ⟨g,o,none⟩) l.length c] tS)).heap.size<=k):
  OutB tS X w4 base out1 (ps++[l]) (vs++[.slice (some ⟨g,o,none⟩) l.length c]):=by
 have hs2:w.heap.size<=w2.heap.size:=hE.size
 have hE3:Ext w2 (w2.alloc (.cells #[.slice (some ⟨g,o,none⟩) l.length c] tS)):=ext_alloc _ _
 have hs3:w2.heap.size < (w2.alloc (.cells #[.slice (some ⟨g,o,none⟩) l.length c] tS)).heap.size:=by simp
 have hout:∀k,out.ownBlock=some k->k < w.heap.size:=fun k hk=>(h.rows.lt k hk).2
 have hlen:vs.length=ps.length:=h.len
 generalize hw3:w2.alloc (.cells #[.slice (some ⟨g,o,none⟩) l.length c] tS)=w3 at*
 have hs4:w3.heap.size<=w4.heap.size:=hg4.size
 refine⟨by rw [List.length_append];exact own4,fun q=> ?_,fun j hj=> ?_⟩
 ·rcases hk4 X q with h1 | h1
  ·exact h.ox h1
  ·omega
 ·rw [List.length_append]at hj
  by_cases hjl:j < ps.length
  ·obtain⟨gj,oj,cj,e1,e2,e3,e4,e5,e6,e7⟩:=h.elts j hjl
   rw [List.getD_eq_getElem?_getD,List.getElem?_append_left (by omega),<-List.getD_eq_getElem?_getD,List.getD_eq_getElem?_getD (l:=ps++[l]),List.getElem?_append_left hjl,<-List.getD_eq_getElem?_getD]
   refine⟨gj,oj,cj,e1,e2,e3,rangeAt_grown (rangeAt_ext (rangeAt_ext e4 hE) hE3) hg4 e6,by omega,fun hq=> ?_,e7⟩
   rcases hk4 gj hq with h1 | h1
   ·exact e6 h1
   ·omega
  ·obtain rfl:j=ps.length:=by simp at hj;omega
   rw [List.getD_eq_getElem?_getD,List.getElem?_append_right (by omega),List.getD_eq_getElem?_getD,List.getElem?_append_right (by omega)]
   simp only [hlen,Nat.sub_self,List.getElem?_cons_zero,Option.getD_some]
   refine⟨g,o,c,rfl,hc,hm,rangeAt_grown (rangeAt_ext hr hE3) hg4 (fun hq=> ?_),by omega,fun hq=> ?_,by omega⟩
   ·have:=hout g hq;omega
   ·rcases hk4 g hq with h1 | h1
    ·have:=hout g h1;omega
    ·omega
structure BoxD (w:World) (X:Nat) (d:List Int):Prop where
 rg:w.rangeAt X 0 (ints .u8 d)
 th:w.there X 0 32
 len:d.length=32
theorem BoxD.lt {w:World} {X:Nat} {d:List Int} (h:BoxD w X d):X < w.heap.size:=by
 have:=h.rg 0 (.int .u8 (d.getD 0 0)) (by rw [ints_get .u8 d 0 (by rw [h.len];decide)])
 exact World.block_lt_of_cell? w _ this
theorem BoxD.below {w w':World} {X:Nat} {d:List Int} (h:BoxD w X d) {B:Nat} (hb:Below B w w') (hX:X < B):BoxD w' X d:=
 ⟨rangeAt_below h.rg hb hX,fun j hj=>by rw [(bcell hb).1 _ _ hX,(bcell hb).2 _ _ hX];exact h.th j hj,h.len⟩
theorem BoxD.ext {w w':World} {X:Nat} {d:List Int} (h:BoxD w X d) (hb:Ext w w'):BoxD w' X d:=h.below hb h.lt
theorem BoxD.set {w:World} {X:Nat} {d d':List Int} (h:BoxD w X d) (hl:d'.length=32):BoxD (w.setCells X 0 (ints .u8 d')) X d':=
 ⟨World.rangeAt_setCells_same w X 0 _ (by rw [ints_length,hl];exact h.th),World.there_setCells h.th _ _ _,hl⟩
theorem BoxD.of_fam {w:World} {X:Nat} {f:Nat->Int} (h:Fam w X .u8 32 f) {d:List Int} (hl:d.length=32):BoxD (w.setCells X 0 (ints .u8 d)) X d:=
 ⟨World.rangeAt_setCells_same w X 0 _ (by rw [ints_length,hl];exact h.there),World.there_setCells h.there _ _ _,hl⟩
theorem BoxD.load {P:Program} {w:World} {X:Nat} {d:List Int} (h:BoxD w X d) {ty e:TypeId} (hu:P.underlying ty=some (.array 32 e)) (hi:(P.info? ty).map (·.size)=some 32):(Instr.loadAt ty (.pointer (some ⟨X,0,none⟩))).run P w= .ok (.agg (ints .u8 d).toArray) w:=load_ints h.rg hu hi h.len
theorem BoxD.grown {w w':World} {X:Nat} {d:List Int} {row:Option Nat} (h:BoxD w X d) (hg:w.grownBy w' row) (hne:row≠some X):BoxD w' X d:=
 ⟨rangeAt_grown h.rg hg hne,fun j hj=>by
  rw [hg.cell_far ⟨X,0+j,none⟩ h.lt (fun q=>hne q.symm),hg.frozen_far ⟨X,0+j,none⟩ h.lt (fun q=>hne q.symm)]
  exact h.th j hj,h.len⟩
def ndD (l r:List Int):List Int:=sha (1 :: (l++r))
def lfD (b:List Int):List Int:=sha (0 :: b)
def zD:List Int:=sha []
theorem ndD_length (l r:List Int):(ndD l r).length=32:=rfl
theorem lfD_length (b:List Int):(lfD b).length=32:=rfl
theorem rdss_three {w:World} {v1 v2 v3:Value} {l1 l2 l3:List Int} (h1:Rd w .u8 v1 l1) (h2:Rd w .u8 v2 l2) (h3:Rd w .u8 v3 l3) (e:TypeId):Rdss (w.alloc (.cells #[v1,v2,v3] e)) (.slice (some ⟨w.heap.size,0,none⟩) 3 3) [l1,l2,l3]:=by
 refine⟨[v1,v2,v3],.inr ⟨w.heap.size,0,3,rfl,Nat.le_refl _,show 3<=maxLen from by decide,fun j u hu=> ?_⟩,rfl,fun i hi=> ?_⟩
 ·rw [Nat.zero_add,World.cell?_alloc_new];simpa using hu
 ·have hi:i < 3:=hi
  match i,hi with
  | 0,_=>exact h1.ext (ext_alloc _ _)
  | 1,_=>exact h2.ext (ext_alloc _ _)
  | 2,_=>exact h3.ext (ext_alloc _ _)
theorem rdss_1 {w:World} {v:Value} {l:List Int} (h:Rd w .u8 v l) (e:TypeId):Rdss (w.alloc (.cells #[v] e)) (.slice (some ⟨w.heap.size,0,none⟩) 1 1) [l]:=by
 refine⟨[v],.inr ⟨w.heap.size,0,1,rfl,Nat.le_refl _,show 1<=maxLen from by decide,fun j u hu=> ?_⟩,rfl,fun i hi=> ?_⟩
 ·rw [Nat.zero_add,World.cell?_alloc_new];simpa using hu
 ·have:i=0:=by simpa using hi
  subst this
  exact h.ext (ext_alloc _ _)
theorem rd_box {w:World} {b n:Nat} {l:List Int} (h:w.rangeAt b 0 (ints .u8 l)) (hl:l.length=n) (hm:n<=maxLen):Rd w .u8 (.slice (some ⟨b,0,none⟩) n n) l:=by
 subst hl;exact .inr ⟨b,0,l.length,rfl,Nat.le_refl _,hm,h⟩
theorem range_box (w:World) (l:List Int) (e:TypeId):(w.alloc (.cells (ints .u8 l).toArray e)).rangeAt w.heap.size 0 (ints .u8 l):=fun j v hv=>by
 rw [Nat.zero_add,World.cell?_alloc_new];simpa using hv
end Go.Proofs.Bl
namespace Go.Proofs.Bl
open Go
theorem byte4 (s:St) (i j:Nat):(if j=4*i+3 then s.l.getD i 0 % 256 else if j=4*i+2 then s.l.getD i 0 / 256 % 256 else if j=4*i+1 then s.l.getD i 0 / 65536 % 256 else if j=4*i then s.l.getD i 0 / 16777216 % 256 else if j < 4*i then s.byte j else 0)=if j < 4*(i+1)then s.byte j else 0:=by
 by_cases e3:j=4*i+3
 ·subst e3;rw [if_pos rfl,if_pos (by omega)];unfold St.byte;rw [show(4*i+3) / 4=i from by omega,show(4*i+3) % 4=3 from by omega];simp
 rw [if_neg e3]
 by_cases e2:j=4*i+2
 ·subst e2;rw [if_pos rfl,if_pos (by omega)];unfold St.byte;rw [show(4*i+2) / 4=i from by omega,show(4*i+2) % 4=2 from by omega];rfl
 rw [if_neg e2]
 by_cases e1:j=4*i+1
 ·subst e1;rw [if_pos rfl,if_pos (by omega)];unfold St.byte;rw [show(4*i+1) / 4=i from by omega,show(4*i+1) % 4=1 from by omega];rfl
 rw [if_neg e1]
 by_cases e0:j=4*i
 ·subst e0;rw [if_pos rfl,if_pos (by omega)];unfold St.byte;rw [show(4*i) / 4=i from by omega,show(4*i) % 4=0 from by omega];rfl
 rw [if_neg e0]
 by_cases e:j < 4*i
 ·rw [if_pos e,if_pos (by omega)]
 ·rw [if_neg e,if_neg (by omega)]
theorem u32_in32:∀n:Int,0<=n->n < 2^32->IntKind.u32.wrap n=n:=fun n h0 h1=>by
 show n % 2^32=n
 exact Int.emod_eq_of_lt h0 h1
theorem orj (i:Nat) (x y:Int) (hx₀:0<=x) (hx:x % 2^i=0) (hx₁:x < 2^32) (h₀:0<=y) (h₁:y < 2^i) (h2:y < 2^32):bits .or .u32 x y=x+y:=
 bits_join .u32 32 (by decide) u32_in32 i x y hx₀ hx hx₁ h₀ h₁ h2
theorem st4_add (a c:Int) (h0:0<=a) (h1:a < 16777216) (c0:0<=c) (c1:c<=255):st4 a c=a*256+c:=by
 unfold st4
 rw [show a*256 % 4294967296=a*256 from by omega]
 exact orj 8 _ _ (by omega) (by omega) (by omega) (by omega) (by omega) (by omega)
theorem or4 (a b c d:Int) (a0:0<=a/\a<=255) (b0:0<=b/\b<=255) (c0:0<=c/\c<=255) (d0:0<=d/\d<=255):
  bits .or .u32 (bits .or .u32 (bits .or .u32 (a*16777216) (b*65536)) (c*256)) d=st4 (st4 (st4 (st4 0 a) b) c) d:=by
 rw [st4_add 0 a (by omega) (by omega) a0.1 a0.2,st4_add _ b (by omega) (by omega) b0.1 b0.2,st4_add _ c (by omega) (by omega) c0.1 c0.2,st4_add _ d (by omega) (by omega) d0.1 d0.2]
 rw [orj 24 (a*16777216) _ (by omega) (by omega) (by omega) (by omega) (by omega) (by omega),orj 16 (a*16777216+b*65536) _ (by omega) (by omega) (by omega) (by omega) (by omega) (by omega),orj 8 (a*16777216+b*65536+c*256) _ (by omega) (by omega) (by omega) (by omega) (by omega) (by omega)]
 omega
theorem chunk_get (L:List Int) (k i:Nat) (h:i < 64):((L.drop (64*k)).take 64).getD i 0=L.getD (64*k+i) 0:=by
 simp only [List.getD_eq_getElem?_getD,List.getElem?_take,List.getElem?_drop,if_pos h]
theorem word_at (L:List Int) (hL:Byt L) (k t:Nat) (ht:t < 16) (h:64*k+64<=L.length):
  bits .or .u32 (bits .or .u32 (bits .or .u32 (L.getD (64*k+4*t) 0*16777216) (L.getD (64*k+4*t+1) 0*65536)) (L.getD (64*k+4*t+2) 0*256)) (L.getD (64*k+4*t+3) 0)=word ((L.drop (64*k)).take 64) t:=by
 have e0:=chunk_get L k (4*t) (by omega)
 have hl:((L.drop (64*k)).take 64).length=64:=by rw [List.length_take,List.length_drop];omega
 rw [or4 _ _ _ _ (hL.get _) (hL.get _) (hL.get _) (hL.get _),<-part_four]
 rw [part_succ _ t 3 (by omega),part_succ _ t 2 (by omega),part_succ _ t 1 (by omega),part_succ _ t 0 (by omega),part_zero]
 simp only [Nat.add_zero,e0,chunk_get L k (4*t+1) (by omega),chunk_get L k (4*t+2) (by omega),chunk_get L k (4*t+3) (by omega),<-Nat.add_assoc]
theorem fam_setCells {w:World} {g:Nat} {k:IntKind} {n:Nat} {f:Nat->Int} (h:Fam w g k n f) (l:List Int) (hl:l.length=n):Fam (w.setCells g 0 (ints k l)) g k n (fun i=>l.getD i 0):=by
 have hin:=World.rangeAt_setCells_same w g 0 (ints k l) (by rw [ints_length,hl];exact h.there)
 refine⟨fun i hi=> ?_,fun i=> ?_⟩
 ·have:=hin i _ (ints_get k l i (by omega))
  rw [Nat.zero_add]at this;exact this
 ·rw [World.frozen?_setCells];exact h.2 i
end Go.Proofs.Bl
namespace Go.Proofs.Bl
open Go Go.RowKit
def SlB (w:World) (v:Value) (l:List Int):Prop:=∃p c,v= .slice p l.length c/\Rd w .u8 v l
theorem SlB.ext {w w':World} {v:Value} {l:List Int} (h:SlB w v l) (k:Ext w w'):SlB w' v l:=by
 obtain⟨p,c,h1,h2⟩:=h;exact⟨p,c,h1,h2.ext k⟩
theorem slB_one (w:World) (e:TypeId) (x:Int):SlB (w.alloc (.cells #[.int .u8 x] e)) (.slice (some ⟨w.heap.size,0,none⟩) 1 1) [x]:=⟨_,_,rfl,rds_one _ _ _ _⟩
def One1 (w:World) (v:Value) (x:Int):Prop:=∃g,v= .slice (some ⟨g,0,none⟩) 1 1/\w.rangeAt g 0 (ints .u8 [x])
theorem One1.ext {w w':World} {v:Value} {x:Int} (h:One1 w v x) (k:Ext w w'):One1 w' v x:=by
 obtain⟨g,h1,h2⟩:=h;exact⟨g,h1,rangeAt_ext h2 k⟩
theorem one1_new (w:World) (e:TypeId) (x:Int):One1 (w.alloc (.cells #[.int .u8 x] e)) (.slice (some ⟨w.heap.size,0,none⟩) 1 1) x:=
 ⟨_,rfl,fun j u hu=>by rw [Nat.zero_add,World.cell?_alloc_new];simpa [ints] using hu⟩
def OwnB (w:World) (v:Value) (B:Nat) (e:TypeId) (n:Nat) (l:List Int):Prop:=∃p c,v= .slice p n c/\w.ownsRow B e 1 v n (ints .u8 l)
theorem OwnB.ext {w w':World} {v:Value} {B:Nat} {e:TypeId} {n:Nat} {l:List Int} (h:OwnB w v B e n l) (k:Ext w w'):OwnB w' v B e n l:=by
 obtain⟨p,c,h1,h2⟩:=h;exact⟨p,c,h1,owns_ext h2 k⟩
theorem byt_cons {x:Int} {l:List Int} (h0:0<=x) (h1:x<=255) (h:Byt l):Byt (x :: l):=fun y hy=>by
 rcases List.mem_cons.1 hy with rfl | hy
 ·exact⟨h0,h1⟩
 ·exact h y hy
end Go.Proofs.Bl
namespace Go.Proofs.Bl
open Go
theorem eat_byt:∀(s:St),Byt s.bytes:=fun s x hx=>by
 obtain⟨i,hi,rfl⟩:=List.mem_iff_getElem.1 hx
 have h:=s.bytes_get i hi
 rw [List.getD_eq_getElem?_getD,List.getElem?_eq_getElem hi]at h
 simp only [Option.getD_some]at h
 rw [h];unfold St.byte;omega
theorem sha_byt (l:List Int):Byt (sha l):=eat_byt _
end Go.Proofs.Bl
namespace Go.Proofs.Bl
open Go Go.RowKit
def overD (ds:List (List Int)):List Int:=over ndD zD ds
theorem zD_length:zD.length=32:=rfl
theorem Rdss.cell' {w:World} {p:Option Addr} {n c:Nat} {ps:List (List Int)} {vs:List Value} (hv:Rds w (.slice p n c) ps.length vs) (hl:vs.length=ps.length) (k:Nat) (hk:k < ps.length):∃b o,p=some ⟨b,o,none⟩/\b < w.heap.size/\w.cell? ⟨b,o+k,none⟩=some (vs.getD k undef):=by
 rcases hv with ⟨h1,h2,h3⟩ | ⟨b,o,c',h1,h2,h3,h4⟩
 ·omega
 ·cases h1
  refine⟨b,o,rfl,rangeAt_lt h4 (fun q=>by rw [q]at hl;simp at hl;omega),h4 k _ ?_⟩
  rw [List.getD_eq_getElem?_getD,List.getElem?_eq_getElem (by omega)];rfl
theorem lfD_byt (b:List Int):Byt (lfD b):=sha_byt _
theorem ndD_byt (l r:List Int):Byt (ndD l r):=sha_byt _
theorem zD_byt:Byt zD:=sha_byt _
theorem dig_leaves (ps:List (List Int)):Dig (ps.map lfD):=fun d hd=>by
 obtain⟨b,_,rfl⟩:=List.mem_map.1 hd
 exact⟨lfD_length b,lfD_byt b⟩
theorem overD_dig:∀(n:Nat) (ds:List (List Int)),ds.length=n->Dig ds->ds.length < 2^63->(overD ds).length=32/\Byt (overD ds):=by
 intro n
 induction n using Nat.strongRecOn with
 | _ n ih=>
  intro ds hn hd h63
  unfold overD
  by_cases h0:ds.length=0
  ·obtain rfl:=List.length_eq_zero_iff.1 h0
   rw [over_nil];exact⟨zD_length,zD_byt⟩
  ·by_cases h2:2<=ds.length
   ·rw [over_hi _ _ _ h2 h63]
    exact⟨ndD_length _ _,ndD_byt _ _⟩
   ·match ds,h0,h2 with
    | [d],_,_=>rw [over_one];exact hd d (by simp)
    | _ :: _ :: _,_,h=>simp at h
end Go.Proofs.Bl
namespace Go.Proofs.Bl
def ln (n k:Nat):Nat:=if 2*k+2<=n then 2 else 1
end Go.Proofs.Bl
namespace Go.Proofs.Bl
open Go Go.RowKit
def Marks (B:Nat) (w:World):Nat->List Deferred->Prop
 | _,[]=>True
 | N,d :: ds=>∃D,d= {target:= .collected D,args:=#[]}/\B<=D/\D < N/\w.heap[D]? =some (.deferred (some []))/\Marks B w D ds
theorem Marks.keep {B:Nat} {w w':World}:∀(ds:List Deferred) (N:Nat),(∀D,B<=D->D < N->w.heap[D]? =some (.deferred (some []))->w'.heap[D]? =w.heap[D]?)->Marks B w N ds->Marks B w' N ds
 | [],_,_,_=>trivial
 | _ :: ds,_,hk,⟨D,h1,h2,h3,h4,h5⟩=>⟨D,h1,h2,h3,(hk D h2 h3 h4).trans h4,Marks.keep ds D (fun k hkB hkD=>hk k hkB (Nat.lt_trans hkD h3)) h5⟩
theorem Marks.mono {B:Nat} {w:World} {N N':Nat}:∀(ds:List Deferred),N<=N'->Marks B w N ds->Marks B w N' ds
 | [],_,_=>trivial
 | _ :: _,hN,⟨D,h1,h2,h3,h4,h5⟩=>⟨D,h1,h2,Nat.lt_of_lt_of_le h3 hN,h4,h5⟩
theorem leaves_marks {P:Program} {n:Nat} {fn:Func} {tmps:Array Value} {R:Ending->World->Prop} {B:Nat}:∀(ds:List Deferred) (N:Nat) (w:World),Marks B w N ds->
  (∀w',Below B w w'->∃v,(results fn tmps).run P w'= .ok v w'/\R (.returned v) w')->LeavesInM Fence.wide n P fn tmps R ds .returning w
 | [],_,w,_,h=>by
  simp only [LeavesInM,LeavesIn]
  exact h w (Below.refl _ _)
 | _ :: ds,_,w,⟨D,hd,hB,_,hD,hm⟩,h=>by
  subst hd
  have hlt:D < w.heap.size:=(Array.getElem?_eq_some_iff.1 hD).1
  have hb:Below B w (w.putObj D (.deferred none)):=(Below.refl B w).grown (grownBy_putObj' w D (.deferred none)) (by omega) (fun k e=>by cases e;omega)
  refine⟨by simp,.inl ⟨_,_,rfl,run_takeDeferred hD,?_⟩⟩
  refine leaves_marks ds D _ (Marks.keep ds D (fun k _ hk _=>World.putObj_heap_other (by omega)) hm) ?_
  intro w' hw'
  exact h w' (hb.trans hw')
theorem wpLI_app1 {F:Fence} {nf:Nat} {P:Program} {ops:Array Oper} {rest:List Oper} {a:Act} {w:World} {Q:Exit->Act->World->Prop} {d:Option Tmp} {tt t e:TypeId} {pp:String} {af:Array Edge} {s x:Operand} {v u z:Value} {base size bytes k:Nat} {xs news:List Value}
  (hT:SlT P t e z size bytes) (hown:w.ownsRow base e size v k xs) (hrd:Rds w u 1 news) (hs:a.eval s=v) (hx:a.eval x=u) (hl:news.length=size) (h1:∀c∈news,c.oneCell'=true)
  (hlen:k+1<=maxLen) (hbytes:(k+1)*bytes<=140737488355328) (hbase:base<=w.heap.size)
  (h:∀p c w',w'.ownsRow base e size (.slice p (k+1) c) (k+1) (xs++news)->w.grownBy w' v.ownBlock->wpListIn F nf P ops Q rest (a.put d (.slice p (k+1) c)) w'):
  wpListIn F nf P ops Q (⟨d,.call {callee:= .builtin .append,args:=#[s,x],argTypes:=#[t,t]},tt,pp,af,none⟩ :: rest) a w:=by
 obtain⟨i,hi,hz,hs1,hb1⟩:=info_parts hT.info
 rcases hrd with ⟨_,hm,_⟩ | ⟨b,o,c,hu,_,_,hr⟩
 ·omega
 ·have hnews:∀j u,news[j]? =some u->w.cell? ((⟨b,o,none⟩:Addr).add j)=some u:=fun j u hj=>by rw [Addr.add_mid];exact hr j u hj
  refine wpListIn_append_own w rfl s x t rfl base e i z size bytes hT.ht hi hz hs1 hb1 hT.hz hT.pos v k xs hs hown ⟨b,o,none⟩ 1 c news (hx.trans hu) (by omega) hnews h1 hlen hbytes hbase ?_
  intro v' w' h2 h3 _
  obtain⟨p,c',rfl,_,_⟩:=(Rds.of_owns h2).form
  exact h p c' w' h2 h3
theorem owns_grown {w w':World} {base e size n:Nat} {v:Value} {xs:List Value} {row:Option Nat} (h:w.ownsRow base e size v n xs) (hg:w.grownBy w' row) (hr:∀r,row=some r->∃o:Obj,w.heap[r]? =some o/\o.isCells=false):w'.ownsRow base e size v n xs:=by
 obtain⟨h1,h2⟩:=h
 refine⟨h1,?_⟩
 rcases h2 with h2 | ⟨g,cap,cur,hv,hb,hh,r⟩
 ·exact .inl h2
 ·refine .inr ⟨g,cap,cur,hv,hb,?_,r⟩
  rw [hg.block g (Array.getElem?_eq_some_iff.1 hh).1 (fun q=> ?_)]
  ·exact hh
  ·obtain⟨o,ho,hc⟩:=hr g q.symm
   rw [hh]at ho
   cases ho
   exact absurd hc (by simp [Obj.isCells])
theorem others_own {w w':World} {base e size n:Nat} {v:Value} {xs:List Value} (h:w.ownsRow base e size v n xs) (hg:w.grownBy w' v.ownBlock):KeepsOthers w w':=
 ⟨hg.size,fun l o ho hc=>(hg.block l (Array.getElem?_eq_some_iff.1 ho).1 (fun q=>by
  rcases h.2 with ⟨hv,_⟩ | ⟨g,cap,cur,hv,hb,hh,r⟩
  ·rw [hv]at q;cases q
  ·rw [hv]at q
   simp only [Value.ownBlock,Option.some.injEq]at q
   subst q
   rw [hh]at ho
   cases ho
   exact absurd hc (by simp [Obj.isCells]))).trans ho⟩
def UpAt {α :Type} (T:TypeId) (U n₀:Nat) (f: α ->List Int) (pre:List α) (W:World):Prop:=
 ∃p c,W.cell? ⟨U,0,none⟩=some (.slice p pre.length c)/\W.frozen? ⟨U,0,none⟩=false/\W.ownsRow n₀ T 32 (.slice p pre.length c) pre.length (cellsD (pre.map f))
theorem UpAt.from {α :Type} {T:TypeId} {U n₀:Nat} {f: α ->List Int} (hU:U < n₀):OwnFrom n₀ (fun(pre:List α) W=>UpAt T U n₀ f pre W):=by
 rintro pre W W' row ⟨p,c,h1,h2,h3⟩ hg hr
 have hlt:U < W.heap.size:=World.block_lt_of_cell? _ _ h1
 have hne:some U≠row:=fun e=>by have:=(hr U e.symm).1;omega
 exact⟨p,c,(hg.cell_far ⟨U,0,none⟩ hlt hne).trans h1,(hg.frozen_far ⟨U,0,none⟩ hlt hne).trans h2,owns_grown h3 hg (fun r e=>(hr r e).2)⟩
theorem up_post {α :Type} {T:TypeId} {U:Nat} {f: α ->List Int} {w5 W w1 w6:World} {pre:List α} {x: α} {v y:Value} {p:Option Addr} {c:Nat} {xs:List Value}
  (hU:U < w5.heap.size) (hKp:Keep U w5.heap.size w5 W) (hB:Below U w5 W) (hE:Ext W w1) (hg:w1.grownBy w6 v.ownBlock) (hown1:w1.ownsRow w5.heap.size T 32 v pre.length xs)
  (hown:w6.ownsRow w5.heap.size T 32 (.slice p (pre.length+1) c) (pre.length+1) (cellsD (pre.map f)++cellsD [f x]))
  (hcu:W.cell? ⟨U,0,none⟩=some y) (hfu:W.frozen? ⟨U,0,none⟩=false):
  KeepsOthers W (w6.setCell ⟨U,0,none⟩ (.slice p (pre.length+1) c))/\Keep U w5.heap.size W (w6.setCell ⟨U,0,none⟩ (.slice p (pre.length+1) c))/\
   (UpAt T U w5.heap.size f (pre++[x]) (w6.setCell ⟨U,0,none⟩ (.slice p (pre.length+1) c))/\(Keep U w5.heap.size w5 (w6.setCell ⟨U,0,none⟩ (.slice p (pre.length+1) c))/\Below U w5 (w6.setCell ⟨U,0,none⟩ (.slice p (pre.length+1) c)))):=by
 have hgl:U < W.heap.size:=World.block_lt_of_cell? _ _ hcu
 have hs1:W.heap.size<=w1.heap.size:=hE.size
 have hs5:w5.heap.size<=W.heap.size:=hKp.1
 have hlt:∀k,v.ownBlock=some k->w5.heap.size<=k:=fun k hk=>(hown1.lt k hk).1
 have hne:some U≠v.ownBlock:=fun q=>by have:=hlt U q.symm;omega
 have hK1:Keep U w5.heap.size W w6:=(Keep.of_below hE hs5).trans ⟨hg.size,fun k hk _=>hg.block k (by omega) (fun q=>by have:=hlt k q.symm;omega)⟩
 have hc6:w6.cell? ⟨U,0,none⟩=some y:=(hg.cell_far ⟨U,0,none⟩ (show U < _ by omega) hne).trans (((bcell hE).1 U 0 hgl).trans hcu)
 have hf6:w6.frozen? ⟨U,0,none⟩=false:=(hg.frozen_far ⟨U,0,none⟩ (show U < _ by omega) hne).trans (((bcell hE).2 U 0 hgl).trans hfu)
 have hB6:Below U w5 w6:=(hB.trans (hE.mono (by omega))).trans ((Below.refl U w1).grown hg (by omega) (fun k hk=>by have:=hlt k hk;omega))
 have hnb:(Value.slice p (pre.length+1) c).ownBlock≠some U:=fun q=>by have:=(hown.lt U q).1;omega
 refine⟨((others_ext hE).trans (others_own hown1 hg)).trans (KeepsOthers.setCell _ _ _),hK1.set 0 _,⟨p,c,?_,?_,?_⟩,(hKp.trans hK1).set 0 _,hB6.setCell (Nat.le_refl _) _⟩
 ·rw [List.length_append,List.length_singleton];exact World.cell?_setCell_same _ _ _ hc6
 ·rw [World.frozen?_setCell];exact hf6
 ·rw [List.length_append,List.length_singleton,List.map_append,cellsD_append]
  exact owns_setCell hown hnb 0 _
def upD (r:List (List Int)) (k:Nat):List Int:=if 2*k+2<=r.length then ndD (r.getD (2*k) []) (r.getD (2*k+1) [])else r.getD (2*k) []
theorem up_get:∀(r:List (List Int)) (k:Nat),k < (r.length+1) / 2->(up ndD r)[k]? =some (upD r k)
 | [],k,h=>by simp at h
 | [a],k,h=>by
  have hk:k=0:=by simp at h;omega
  subst hk;simp [up,upD]
 | a :: b :: r,0,_=>by simp [up,upD]
 | a :: b :: r,k+1,h=>by
  have ih:=up_get r k (by simp at h;omega)
  simp only [up,List.getElem?_cons_succ,ih]
  congr 1
  unfold upD
  have e1:2*(k+1)=2*k+1+1:=by omega
  have e2:2*(k+1)+1=2*k+1+1+1:=by omega
  simp only [List.length_cons]
  by_cases hh:2*k+2<=r.length
  ·rw [if_pos hh,if_pos (by omega),e2,e1,List.getD_cons_succ,List.getD_cons_succ,List.getD_cons_succ,List.getD_cons_succ]
  ·rw [if_neg hh,if_neg (by omega),e1,List.getD_cons_succ,List.getD_cons_succ]
theorem up_eq (r:List (List Int)) (m:Nat) (hm:m=(r.length+1) / 2):(List.finRange m).map (fun x=>upD r x.val)=up ndD r:=by
 apply List.ext_getElem?
 intro k
 by_cases hk:k < m
 ·rw [up_get r k (by omega),List.getElem?_map,List.getElem?_eq_getElem (by simpa using hk)]
  simp
 ·rw [List.getElem?_eq_none (by simp;omega),List.getElem?_eq_none (by rw [up_length];omega)]
theorem dig_up:∀(r:List (List Int)),Dig r->Dig (up ndD r)
 | [],h=>h
 | [_],h=>h
 | a :: b :: r,h=>by
  have ih:=dig_up r (fun d hd=>h d (by simp [hd]))
  intro d hd
  simp only [up,List.mem_cons]at hd
  rcases hd with rfl | hd
  ·exact⟨ndD_length _ _,ndD_byt _ _⟩
  ·exact ih d hd
theorem overD_up (r:List (List Int)) (h:r.length<=1048576):overD (up ndD r)=overD r:=over_up ndD zD r.length r rfl (by omega)
def rootD (ps:List (List Int)):List Int:=overD (ps.map lfD)
theorem rootD_length (ps:List (List Int)) (h:ps.length<=1048576):(rootD ps).length=32:=(overD_dig _ _ rfl (dig_leaves ps) (by rw [List.length_map];omega)).1
def longB (ps:List (List Int)) (most:Nat):Bool:= !(decide (ps.length<=most)&&ps.all fun p=>decide (p.length<=200))
theorem take_succ_getD (ps:List (List Int)) (k:Nat) (h:k < ps.length):ps.take (k+1)=ps.take k++[ps.getD k []]:=by
 rw [List.getD_eq_getElem?_getD,List.getElem?_eq_getElem h,List.take_succ_eq_append_getElem h];rfl
end Go.Proofs.Bl
