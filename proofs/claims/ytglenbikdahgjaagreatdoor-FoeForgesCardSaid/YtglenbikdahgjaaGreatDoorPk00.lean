/- Texts that stood apart, in one: Base, Base2, Region, RegJ, RegK, Range, Str, Eq, QuietT, Make, Din, Two, Digs. -/
import Derived.WalkKit
import Derived.Deep.MidRow
import Derived.Deep.QuietTactic
import Derived.Deep.AppendLies
import Derived.Laws.AppendOwnNone
import Derived.StillTail
import Derived.RangeFuncNested
import Derived.RangeFuncBound
import Derived.RangeFuncCalls
import Derived.RangeFuncLeaves
import Derived.OwnWalkIn
import Derived.TacticsInMore
import Derived.Laws.BytesString
import Derived.Laws.Cells
import Derived.Laws.Strings
import Derived.Laws.StructEq
import Derived.BigQuiet
import Derived.Laws.OwnMore
import Derived.Laws.MakeOwn
import Derived.LaidEql
import Derived.Great.BuildSlice
set_option maxRecDepth 100000
set_option maxHeartbeats 16000000
namespace Go.Proofs.Bl
theorem Q1{α:Type _}{a:α}{l:List α}{n:Nat}:(a::l)[n+1]? =l[n]? :=List.getElem?_cons_succ
theorem Q2{α:Type _}{a:α}{l:List α}:(a::l)[0]? =some a:=List.getElem?_cons_zero
theorem Q3{α:Type _}{a d:α}{l:List α}{n:Nat}:(a::l).getD (n+1) d=l.getD n d:=List.getD_cons_succ
theorem Q4{α:Type _}{a d:α}{l:List α}:(a::l).getD 0 d=a:=List.getD_cons_zero
theorem Q5{α:Type _}{a:α}{l:List α}{i:Nat}:l.toArray.setIfInBounds i a=(l.set i a).toArray:=by simp
theorem Q6{α:Type _}{a b:α}{l:List α}{i:Nat}:(a::l).set (i+1) b=a::l.set i b:=List.set_cons_succ
theorem Q7{α:Type _}{a b:α}{l:List α}:(a::l).set 0 b=b::l:=List.set_cons_zero
theorem Q8{α:Type _}{a:α}{l:List α}{n:Nat}:(a::l).drop (n+1)=l.drop n:=List.drop_succ_cons
theorem Q9{α:Type _}{l:List α}:l.drop 0=l:=List.drop_zero
theorem Qa{α:Type _}{d:α}{l:Array α}{i:Nat}:l.getD i d=l[i]?.getD d:=Array.getD_eq_getD_getElem?
theorem Qb{α:Type _}{l:List α}{i:Nat}:l.toArray[i]? =l[i]? :=List.getElem?_toArray
theorem Qc{α β:Type _}(a:α)(f:α→Option β):(some a).bind f=f a:=rfl
theorem Qd{α:Type _}{a b:α}:(some a).getD b=a:=rfl
end Go.Proofs.Bl
namespace Go.Proofs.Bl
open Go Go.RowKit
theorem hid {p:Prop} (h:p):Hid p:=h
def ints (k:IntKind) (l:List Int):List Value:=l.map (Value.int k)
@[simp] theorem ints_length (k:IntKind) (l:List Int):(ints k l).length=l.length:=by simp [ints]
theorem ints_get (k:IntKind) (l:List Int) (i:Nat) (h:i < l.length):(ints k l)[i]? =some (.int k (l.getD i 0)):=by
 simp [ints,List.getD_eq_getElem?_getD,List.getElem?_eq_getElem h]
theorem ints_append (k:IntKind) (a b:List Int):ints k (a++b)=ints k a++ints k b:=by simp [ints]
theorem ints_one (k:IntKind) (l:List Int):∀u∈ints k l,u.oneCell'=true:=by
 intro u hu
 simp only [ints,List.mem_map]at hu
 obtain⟨x,_,rfl⟩:=hu
 rfl
theorem ints_set (k:IntKind) (l:List Int) (i:Nat) (x:Int):(ints k l).set i (.int k x)=ints k (l.set i x):=by simp [ints]
abbrev Ext (w w':World):Prop:=Below w.heap.size w w'
theorem Ext.trans {a b c:World} (h:Ext a b) (k:Ext b c):Ext a c:=Below.trans h (Below.mono k h.size)
theorem _root_.Go.RowKit.Below.drewN {B:Nat} {a w:World} (h:Below B a w) (n:Nat):Below B a (w.drewN n):=⟨h.os,h.tape,h.output,h.size,h.block⟩
theorem bcell {W w1:World} {B:Nat} (hb:Below B W w1):(∀b o,b < B->w1.cell? ⟨b,o,none⟩=W.cell? ⟨b,o,none⟩)/\(∀b o,b < B->w1.frozen? ⟨b,o,none⟩=W.frozen? ⟨b,o,none⟩):=
 ⟨fun b o h=>hb.cell (p:=⟨b,o,none⟩) h,fun b o h=>hb.frozen (p:=⟨b,o,none⟩) h⟩
theorem rangeAt_lt {w:World} {b o:Nat} {cs:List Value} (h:w.rangeAt b o cs) (hne:cs≠[]):b < w.heap.size:=by
 cases cs with
 | nil=>exact absurd rfl hne
 | cons v r=>
  have:=h 0 v (by simp)
  exact World.block_lt_of_cell? w _ this
theorem rangeAt_below {w w':World} {B b o:Nat} {cs:List Value} (h:w.rangeAt b o cs) (hb:Below B w w') (hlt:b < B):w'.rangeAt b o cs:=fun j v hv=>by
 rw [hb.cell (p:=⟨b,o+j,none⟩) hlt];exact h j v hv
theorem rangeAt_ext {w w':World} {b o:Nat} {cs:List Value} (h:w.rangeAt b o cs) (hb:Ext w w'):w'.rangeAt b o cs:=by
 by_cases hne:cs=[]
 ·subst hne;intro j v hv;simp at hv
 ·exact rangeAt_below h hb (rangeAt_lt h hne)
theorem rangeAt_drop {w:World} {b o:Nat} {cs:List Value} (h:w.rangeAt b o cs) (n:Nat):w.rangeAt b (o+n) (cs.drop n):=fun j v hv=>by
 rw [List.getElem?_drop]at hv
 have:=h (n+j) v hv
 rw [<-Nat.add_assoc]at this;exact this
theorem rangeAt_take {w:World} {b o:Nat} {cs:List Value} (h:w.rangeAt b o cs) (n:Nat):w.rangeAt b o (cs.take n):=fun j v hv=>by
 refine h j v ?_
 rw [List.getElem?_take]at hv
 split at hv
 ·exact hv
 ·cases hv
def Rds (w:World) (v:Value) (n:Nat) (cs:List Value):Prop:=
 ((∃p,v= .slice p 0 0)/\n=0/\cs=[])\/∃b o c,v= .slice (some ⟨b,o,none⟩) n c/\n<=c/\c<=maxLen/\w.rangeAt b o cs
theorem Rds.ext {w w':World} {v:Value} {n:Nat} {cs:List Value} (h:Rds w v n cs) (hb:Ext w w'):Rds w' v n cs:=by
 rcases h with h | ⟨b,o,c,h1,h2,h3,h4⟩
 ·exact .inl h
 ·exact .inr ⟨b,o,c,h1,h2,h3,rangeAt_ext h4 hb⟩
theorem Rds.nil (w:World):Rds w (.slice none 0 0) 0 []:= .inl ⟨⟨_,rfl⟩,rfl,rfl⟩
abbrev Rd (w:World) (k:IntKind) (v:Value) (l:List Int):Prop:=Rds w v l.length (ints k l)
theorem Rd.ext {w w':World} {k:IntKind} {v:Value} {l:List Int} (h:Rd w k v l) (hb:Ext w w'):Rd w' k v l:=Rds.ext h hb
theorem Rd.nil (w:World) (k:IntKind):Rd w k (.slice none 0 0) []:=Rds.nil w
theorem Rd.pos {w:World} {k:IntKind} {v:Value} {l:List Int} (h:Rd w k v l) (hne:0 < l.length):
  ∃b o c,v= .slice (some ⟨b,o,none⟩) l.length c/\l.length<=c/\c<=maxLen/\b < w.heap.size/\w.rangeAt b o (ints k l)/\∀i,i < l.length->w.cell? ⟨b,o+i,none⟩=some (.int k (l.getD i 0)):=by
 rcases h with ⟨_,h,_⟩ | ⟨b,o,c,h1,h2,h3,h4⟩
 ·omega
 ·refine⟨b,o,c,h1,h2,h3,rangeAt_lt h4 ?_,h4,fun i hi=>h4 i _ (ints_get k l i hi)⟩
  intro h;have:=congrArg List.length h;rw [ints_length]at this;simp only [List.length_nil]at this;omega
theorem Rds.form {w:World} {v:Value} {n:Nat} {cs:List Value} (h:Rds w v n cs):∃p c,v= .slice p n c/\n<=c/\c<=maxLen:=by
 rcases h with ⟨⟨p,h⟩,h',_⟩ | ⟨b,o,c,h1,h2,h3,h4⟩
 ·exact⟨p,0,by rw [h,h'],by omega,by unfold maxLen;omega⟩
 ·exact⟨_,c,h1,h2,h3⟩
theorem Rds.of_owns {w:World} {base e size n:Nat} {v:Value} {xs:List Value} (h:w.ownsRow base e size v n xs):Rds w v n xs:=by
 have h2:=h
 obtain⟨h0,h1⟩:=h
 rcases h1 with ⟨rfl,h1⟩ | ⟨g,cap,cur,rfl,hg,hh,hc,hm,hs,hx⟩
 ·subst h1
  rw [Nat.zero_mul]at h0
  exact .inl ⟨⟨_,rfl⟩,rfl,List.length_eq_zero_iff.1 h0⟩
 ·refine .inr ⟨g,0,cap,rfl,hc,hm,fun j v hv=> ?_⟩
  have:=h2.cells (g:=g) rfl j v hv
  rw [Addr.add_mid]at this
  exact this
def RdsX (w:World) (g:Nat) (v:Value) (n:Nat) (cs:List Value):Prop:=
 (v= .slice none 0 0/\n=0/\cs=[])\/∃b o c,v= .slice (some ⟨b,o,none⟩) n c/\n<=c/\c<=maxLen/\b≠g/\w.rangeAt b o cs
theorem RdsX.rds {w:World} {g:Nat} {v:Value} {n:Nat} {cs:List Value} (h:RdsX w g v n cs):Rds w v n cs:=by
 rcases h with ⟨h1,h2,h3⟩ | ⟨b,o,c,h1,h2,h3,_,h4⟩
 ·exact .inl ⟨⟨_,h1⟩,h2,h3⟩
 ·exact .inr ⟨b,o,c,h1,h2,h3,h4⟩
theorem RdsX.set {w:World} {g:Nat} {v:Value} {n:Nat} {cs:List Value} (h:RdsX w g v n cs) (i:Nat) (u:Value):RdsX (w.setCell ⟨g,i,none⟩ u) g v n cs:=by
 rcases h with h | ⟨b,o,c,h1,h2,h3,hne,h4⟩
 ·exact .inl h
 ·refine .inr ⟨b,o,c,h1,h2,h3,hne,fun j x hx=> ?_⟩
  rw [World.cell?_setCell_other _ _ _ _ (by intro q;injection q with q;exact hne q.symm)]
  exact h4 j x hx
theorem RdsX.of_owns {w:World} {base e size n g:Nat} {v:Value} {xs:List Value} (h:w.ownsRow base e size v n xs) (hg:v.ownBlock≠some g):RdsX w g v n xs:=by
 have h2:=h
 obtain⟨h0,h1⟩:=h
 rcases h1 with ⟨rfl,h1⟩ | ⟨k,cap,cur,rfl,hk,hh,hc,hm,hs,hx⟩
 ·subst h1
  rw [Nat.zero_mul]at h0
  exact .inl ⟨rfl,rfl,List.length_eq_zero_iff.1 h0⟩
 ·refine .inr ⟨k,0,cap,rfl,hc,hm,fun q=>hg (by rw [<-q];rfl),fun j v hv=> ?_⟩
  have:=h2.cells (g:=k) rfl j v hv
  rw [Addr.add_mid]at this
  exact this
structure SlT (P:Program) (t e:TypeId) (z:Value) (size bytes:Nat):Prop where
 ht:P.underlying t=some (.slice e)
 info:(P.info? e).map (fun i=>(i.zero,i.size,i.bytes))=some (some z,size,bytes)
 hz:z.cells.size=size
 pos:0 < size
theorem wpL_append {P:Program} {ops:Array Oper} {rest:List Oper} {a:Act} {w:World} {Q:Exit->Act->World->Prop} {d:Option Tmp} {tt t e:TypeId} {pp:String} {af:Array Edge} {s x:Operand} {v u z:Value} {base size bytes n m:Nat} {xs news:List Value}
  (hT:SlT P t e z size bytes) (hown:w.ownsRow base e size v n xs) (hrd:Rds w u m news) (hl:news.length=m*size) (h1:∀c∈news,c.oneCell'=true)
  (hlen:n+m<=maxLen) (hbytes:(n+m)*bytes<=140737488355328) (hbase:base<=w.heap.size)
  (hs:a.eval s=v) (hx:a.eval x=u)
  (h:∀v' w',w'.ownsRow base e size v' (n+m) (xs++news)->w.grownBy w' v.ownBlock->Below base w w'->(∀k,v'.ownBlock=some k->v.ownBlock=some k\/w.heap.size<=k)->wpList P ops Q rest (a.put d v') w'):
  wpList P ops Q (⟨d,.call {callee:= .builtin .append,args:=#[s,x],argTypes:=#[t,t]},tt,pp,af,none⟩ :: rest) a w:=by
 obtain⟨i,hi,hz,hs1,hb1⟩:=info_parts hT.info
 have hB:∀w',w.grownBy w' v.ownBlock->Below base w w':=fun w' hg=>(Below.refl base w).grown hg hbase (fun k hk=>(hown.lt k hk).1)
 rcases hrd with ⟨⟨p,hu⟩,hm,hn⟩ | ⟨b,o,c,hu,hnc,hcm,hr⟩
 ·subst hm hn
  cases p with
  | none=>
   refine wpList_append_own_none rfl s x t rfl base e i size hT.ht hi v n xs hs hown (hx.trans hu) ?_
   have:=h v w (by simpa using hown) (World.grownBy.refl w _) (Below.refl _ _) (fun k hk=> .inl hk)
   exact this
  | some ad=>
   have hown0:=hown
   rcases hown.2 with ⟨hv,hn⟩ | ⟨g,cap,cur,hv,hg,hh,hc,hmx,hcs,hx2⟩
   ·refine wpList_append_own w rfl s x t rfl base e i z size bytes hT.ht hi hz hs1 hb1 hT.hz hT.pos v n xs hs hown ad 0 0 [] (hx.trans hu) hl (fun j u hj=>by simp at hj) h1 hlen hbytes hbase ?_
    intro v' w' h2 h3 h4
    refine h v' w' h2 h3 (hB w' h3) fun k hk=> ?_
    rw [h4.2 ⟨hv,rfl⟩]at hk
    cases hk
   ·subst hv
    refine wpList_append_fits_any w rfl s x t rfl base e i size hT.ht hi hs1 g n cap xs hs hown0 (some ad) 0 0 [] (hx.trans hu) hl (fun q=>by cases q) (fun _ _ j u hj=>by simp at hj) h1 (by omega) ?_
    intro w' h2 h3
    exact h _ w' h2 h3 (hB w' h3) fun k hk=> .inl hk
 ·have hnews:∀j u,news[j]? =some u->w.cell? ((⟨b,o,none⟩:Addr).add j)=some u:=fun j u hj=>by rw [Addr.add_mid];exact hr j u hj
  by_cases hm:0 < m
  ·refine wpList_append_lies w rfl s x t rfl base e i z size bytes hT.ht hi hz hs1 hb1 hT.hz hT.pos v n xs hs hown ⟨b,o,none⟩ m c news (hx.trans hu) hl hnews h1 hm hlen hbytes hbase w.heap.size rfl ?_
   intro g cap w' h2 h3 h4 _
   refine h _ w' h2 h3 (hB w' h3) fun k hk=> ?_
   simp only [Value.ownBlock,Option.some.injEq]at hk
   subst hk
   rcases h4 with h4 | h4
   ·exact .inl h4
   ·exact .inr (by omega)
  ·obtain rfl:m=0:=by omega
   have hown0:=hown
   rcases hown.2 with ⟨hv,hn⟩ | ⟨g,cap,cur,hv,hg,hh,hc,hmx,hcs,hx2⟩
   ·refine wpList_append_own w rfl s x t rfl base e i z size bytes hT.ht hi hz hs1 hb1 hT.hz hT.pos v n xs hs hown ⟨b,o,none⟩ 0 c news (hx.trans hu) hl hnews h1 hlen hbytes hbase ?_
    intro v' w' h2 h3 h4
    refine h v' w' h2 h3 (hB w' h3) fun k hk=> ?_
    rw [h4.2 ⟨hv,rfl⟩]at hk
    cases hk
   ·subst hv
    refine wpList_append_fits_any w rfl s x t rfl base e i size hT.ht hi hs1 g n cap xs hs hown0 (some ⟨b,o,none⟩) 0 c news (hx.trans hu) hl (fun q=>by cases q) (fun ad had j u hj=>by cases had;exact hnews j u hj) h1 (by omega) ?_
    intro w' h2 h3
    exact h _ w' h2 h3 (hB w' h3) fun k hk=> .inl hk
theorem owns_new (w:World) (e:TypeId) (cs:Array Value) (base n size:Nat) (hb:base<=w.heap.size) (hm:n<=maxLen) (hs:cs.size=n*size):
  (w.alloc (.cells cs e)).ownsRow base e size (.slice (some ⟨w.heap.size,0,none⟩) n n) n cs.toList:=World.ownsRow_lit w cs n hb hm hs
theorem owns_below {w w':World} {base e size n B:Nat} {v:Value} {xs:List Value} (h:w.ownsRow base e size v n xs) (hb:Below B w w') (hB:∀k,v.ownBlock=some k->k < B):w'.ownsRow base e size v n xs:=by
 obtain⟨h1,h2⟩:=h
 refine⟨h1,?_⟩
 rcases h2 with h2 | ⟨g,cap,cur,hv,hg,hh,r⟩
 ·exact .inl h2
 ·exact .inr ⟨g,cap,cur,hv,hg,by rw [hb.block g (hB g (by rw [hv];rfl))];exact hh,r⟩
theorem owns_setCell {w:World} {base e size n g:Nat} {v:Value} {xs:List Value} (h:w.ownsRow base e size v n xs) (hg:v.ownBlock≠some g) (i:Nat) (u:Value):(w.setCell ⟨g,i,none⟩ u).ownsRow base e size v n xs:=by
 obtain⟨h1,h2⟩:=h
 refine⟨h1,?_⟩
 rcases h2 with h2 | ⟨k,cap,cur,hv,hk,hh,r⟩
 ·exact .inl h2
 ·exact .inr ⟨k,cap,cur,hv,hk,by rw [Below.heap_setCell _ _ _ _ (fun q=>hg (by rw [hv];exact congrArg some q))];exact hh,r⟩
theorem owns_ext {w w':World} {base e size n:Nat} {v:Value} {xs:List Value} (h:w.ownsRow base e size v n xs) (hb:Ext w w'):w'.ownsRow base e size v n xs:=owns_below h hb (fun k hk=>(h.lt k hk).2)
theorem owns_mono {w:World} {base base' e size n:Nat} {v:Value} {xs:List Value} (h:w.ownsRow base e size v n xs) (hb:base'<=base):w.ownsRow base' e size v n xs:=by
 obtain⟨h1,h2⟩:=h
 refine⟨h1,?_⟩
 rcases h2 with h2 | ⟨g,cap,cur,hv,hg,r⟩
 ·exact .inl h2
 ·exact .inr ⟨g,cap,cur,hv,by omega,r⟩
def Fam (w:World) (g:Nat) (k:IntKind) (n:Nat) (f:Nat->Int):Prop:=
 (∀i,i < n->w.cell? ⟨g,i,none⟩=some (.int k (f i)))/\∀i,w.frozen? ⟨g,i,none⟩=false
theorem Fam.set {w:World} {g:Nat} {k:IntKind} {n:Nat} {f:Nat->Int} (h:Fam w g k n f) (i:Nat) (hi:i < n) (v:Int):
  Fam (w.setCell ⟨g,i,none⟩ (.int k v)) g k n (fun j=>if j=i then v else f j):=by
 refine⟨fun j hj=> ?_,fun j=>by rw [World.frozen?_setCell];exact h.2 j⟩
 by_cases e:j=i
 ·subst e;simp only [if_true];exact World.cell?_setCell_same _ _ _ (h.1 j hj)
 ·simp only [if_neg e]
  rw [World.cell?_setCell_other _ _ _ _ (by intro q;injection q with _ q;omega)]
  exact h.1 j hj
theorem Fam.congr {w:World} {g:Nat} {k:IntKind} {n:Nat} {f f':Nat->Int} (h:Fam w g k n f) (e:∀i,i < n->f i=f' i):Fam w g k n f':=
 ⟨fun i hi=>by rw [<-e i hi];exact h.1 i hi,h.2⟩
theorem Fam.below {w w':World} {B g:Nat} {k:IntKind} {n:Nat} {f:Nat->Int} (h:Fam w g k n f) (hb:Below B w w') (hg:g < B):Fam w' g k n f:=
 ⟨fun i hi=>by rw [(bcell hb).1 g i hg];exact h.1 i hi,fun i=>by rw [(bcell hb).2 g i hg];exact h.2 i⟩
theorem Fam.drew {w:World} {g:Nat} {k:IntKind} {n:Nat} {f:Nat->Int} (h:Fam w g k n f) (j:Nat):Fam (w.drewN j) g k n f:=by
 induction j generalizing w with
 | zero=>exact h
 | succ j ih=>exact ih (w:=w.drew) h
theorem Fam.other {w:World} {g:Nat} {k:IntKind} {n:Nat} {f:Nat->Int} (h:Fam w g k n f) (p:Addr) (v:Value) (hp:p.block≠g):Fam (w.setCell p v) g k n f:=
 ⟨fun i hi=>by rw [World.cell?_setCell_other _ _ _ _ (by intro q;rw [q]at hp;exact hp rfl)];exact h.1 i hi,fun i=>by rw [World.frozen?_setCell];exact h.2 i⟩
theorem Fam.store8 {w:World} {g:Nat} {k:IntKind} {f:Nat->Int} (h:Fam w g k 8 f) (x0 x1 x2 x3 x4 x5 x6 x7:Int):
  Fam ((((((((w.setCell ⟨g,0,none⟩ (.int k x0)).setCell ⟨g,1,none⟩ (.int k x1)).setCell ⟨g,2,none⟩ (.int k x2)).setCell ⟨g,3,none⟩ (.int k x3)).setCell ⟨g,4,none⟩ (.int k x4)).setCell ⟨g,5,none⟩ (.int k x5)).setCell ⟨g,6,none⟩ (.int k x6)).setCell ⟨g,7,none⟩ (.int k x7)) g k 8 (fun i=>([x0,x1,x2,x3,x4,x5,x6,x7]:List Int).getD i 0):=by
 refine((((((((h.set 0 (by decide) x0).set 1 (by decide) x1).set 2 (by decide) x2).set 3 (by decide) x3).set 4 (by decide) x4).set 5 (by decide) x5).set 6 (by decide) x6).set 7 (by decide) x7).congr fun i hi=> ?_
 match i,hi with
 | 0,_=>rfl
 | 1,_=>rfl
 | 2,_=>rfl
 | 3,_=>rfl
 | 4,_=>rfl
 | 5,_=>rfl
 | 6,_=>rfl
 | 7,_=>rfl
theorem Fam.other8 {w:World} {g:Nat} {k:IntKind} {n:Nat} {f:Nat->Int} (h:Fam w g k n f) (b:Nat) (hb:b≠g) (x0 x1 x2 x3 x4 x5 x6 x7:Value):
  Fam ((((((((w.setCell ⟨b,0,none⟩ x0).setCell ⟨b,1,none⟩ x1).setCell ⟨b,2,none⟩ x2).setCell ⟨b,3,none⟩ x3).setCell ⟨b,4,none⟩ x4).setCell ⟨b,5,none⟩ x5).setCell ⟨b,6,none⟩ x6).setCell ⟨b,7,none⟩ x7) g k n f:=
 (((((((h.other _ _ hb).other _ _ hb).other _ _ hb).other _ _ hb).other _ _ hb).other _ _ hb).other _ _ hb).other _ _ hb
theorem below8 {B:Nat} {a w:World} (h:Below B a w) (b:Nat) (hb:B<=b) (x0 x1 x2 x3 x4 x5 x6 x7:Value):
  Below B a ((((((((w.setCell ⟨b,0,none⟩ x0).setCell ⟨b,1,none⟩ x1).setCell ⟨b,2,none⟩ x2).setCell ⟨b,3,none⟩ x3).setCell ⟨b,4,none⟩ x4).setCell ⟨b,5,none⟩ x5).setCell ⟨b,6,none⟩ x6).setCell ⟨b,7,none⟩ x7):=
 (((((((h.setCell hb _).setCell hb _).setCell hb _).setCell hb _).setCell hb _).setCell hb _).setCell hb _).setCell hb _
theorem Fam.grown {w w':World} {g:Nat} {k:IntKind} {n:Nat} {f:Nat->Int} {row:Option Nat} (h:Fam w g k n f) (hg:w.grownBy w' row) (hlt:g < w.heap.size) (hne:some g≠row):Fam w' g k n f:=
 ⟨fun i hi=>(hg.cell_far ⟨g,i,none⟩ hlt hne).trans (h.1 i hi),fun i=>(hg.frozen_far ⟨g,i,none⟩ hlt hne).trans (h.2 i)⟩
theorem Fam.range {w:World} {g:Nat} {k:IntKind} {n:Nat} {f:Nat->Int} (h:Fam w g k n f):w.rangeAt g 0 (ints k ((List.range n).map f)):=fun j v hv=>by
 have hj:j < n:=by
  have:=(List.getElem?_eq_some_iff.1 hv).1;simpa using this
 rw [ints_get _ _ _ (by simpa using hj)]at hv
 cases hv
 rw [Nat.zero_add,h.1 j hj]
 simp [List.getD_eq_getElem?_getD,hj]
theorem Fam.alloc {w:World} {g:Nat} {k:IntKind} {n:Nat} {f:Nat->Int} (h:Fam w g k n f) (hg:g < w.heap.size) (o:Obj):Fam (w.alloc o) g k n f:=
 h.below ((Below.refl w.heap.size w).alloc (Nat.le_refl _) o) hg
def Byt (l:List Int):Prop:=∀x∈l,0<=x/\x<=255
theorem Byt.get {l:List Int} (h:Byt l) (i:Nat):0<=l.getD i 0/\l.getD i 0<=255:=by
 rw [List.getD_eq_getElem?_getD]
 by_cases hi:i < l.length
 ·rw [List.getElem?_eq_getElem hi];exact h _ (List.getElem_mem hi)
 ·rw [List.getElem?_eq_none (by omega)];simp
theorem Byt.append {a b:List Int} (h:Byt a) (k:Byt b):Byt (a++b):=fun x hx=>by
 rcases List.mem_append.1 hx with hx | hx
 ·exact h x hx
 ·exact k x hx
theorem Byt.take {a:List Int} (h:Byt a) (n:Nat):Byt (a.take n):=fun x hx=>h x (List.mem_of_mem_take hx)
theorem Byt.drop {a:List Int} (h:Byt a) (n:Nat):Byt (a.drop n):=fun x hx=>h x (List.mem_of_mem_drop hx)
theorem Byt.nil:Byt []:=fun x hx=>by cases hx
section
variable {P:Program} {ops:Array Oper} {rest:List Oper} {a:Act} {w w':World} {Q:Exit->Act->World->Prop} {d:Option Tmp} {tt ty:TypeId} {pp:String} {af:Array Edge} {x y:Operand} {p v:Value}
theorem wpL_load (hx:a.eval x=p) (hld:(Instr.loadAt ty p).run P w= .ok v w) (h:wpList P ops Q rest (a.put d v) w):
  wpList P ops Q (⟨d,.load ty x,tt,pp,af,none⟩ :: rest) a w:=
 wpList_plain rfl fun K hK=>by
  unfold Oper.wp execOp
  simp only [hx,Sem.run_bind,Sem.run_pure,Result.andThen_ok,hld]
  exact hK _ _ h
theorem wpL_store (hx:a.eval x=p) (hy:a.eval y=v) (hst:(Instr.storeAt ty p v).run P w= .ok () w') (h:wpList P ops Q rest (a.put d undef) w'):
  wpList P ops Q (⟨d,.store ty x y,tt,pp,af,none⟩ :: rest) a w:=
 wpList_plain rfl fun K hK=>by
  unfold Oper.wp execOp
  simp only [hx,hy,Sem.run_bind,Sem.run_pure,Result.andThen_ok,hst]
  exact hK _ _ h
theorem wpL_index (hx:a.eval x=p) (hy:a.eval y=v) {r:Value} (hix:(Instr.index ty p v).run P w= .ok r w) (h:wpList P ops Q rest (a.put d r) w):
  wpList P ops Q (⟨d,.index ty x y,tt,pp,af,none⟩ :: rest) a w:=
 wpList_plain rfl fun K hK=>by
  unfold Oper.wp execOp
  simp only [hx,hy,Sem.run_bind,Sem.run_pure,Result.andThen_ok,hix]
  exact hK _ _ h
end
theorem load_ints {P:Program} {w:World} {b o:Nat} {ty e:TypeId} {k:IntKind} {l:List Int} {n:Nat} (hc:w.rangeAt b o (ints k l)) (hu:P.underlying ty=some (.array n e)) (hi:(P.info? ty).map (·.size)=some n) (hl:l.length=n):
  (Instr.loadAt ty (.pointer (some ⟨b,o,none⟩))).run P w= .ok (.agg (ints k l).toArray) w:=
 run_loadAt_mid w b o ty (ints k l) _ hc hu rfl (by rw [hi,ints_length,hl])
theorem store_ints {P:Program} {w:World} {b o:Nat} {ty:TypeId} {k:IntKind} {l:List Int} {n:Nat} (ht:w.there b o n) (hi:(P.info? ty).map (·.size)=some n) (hl:l.length=n):
  (Instr.storeAt ty (.pointer (some ⟨b,o,none⟩)) (.agg (ints k l).toArray)).run P w= .ok () (w.setCells b o (ints k l)):=by
 have h:=run_storeAt_mid (P:=P) w b o ty (ints k l).toArray (by simpa [hl] using ht) (by rw [hi];simp [hl]) (all_oneCell_toArray (ints_one _ _))
 simpa using h
theorem Fam.there {w:World} {g:Nat} {k:IntKind} {n:Nat} {f:Nat->Int} (h:Fam w g k n f):w.there g 0 n:=fun j hj=>by
 rw [Nat.zero_add,h.1 j hj];exact⟨rfl,h.2 j⟩
theorem below_setCells {B:Nat} {a:World}:∀(vs:List Value) (b o:Nat) (w:World),Below B a w->B<=b->Below B a (w.setCells b o vs)
 | [],_,_,_,h,_=>h
 | v :: r,b,o,w,h,hb=>by rw [World.setCells];exact below_setCells r b (o+1) _ (h.setCell (p:=⟨b,o,none⟩) hb _) hb
theorem index_ints {P:Program} {w:World} {ty e:TypeId} {k:IntKind} {l:List Int} {n i:Nat} (hu:P.underlying ty=some (.array n e)) (hz:∀w,(sizeOf e).run P w= .ok 1 w) (ha:∀w,(isAgg e).run P w= .ok false w) (hl:l.length=n) (hi:i < n):
  (Instr.index ty (.agg (ints k l).toArray) (.int .i64 i)).run P w= .ok (.int k (l.getD i 0)) w:=by
 have hg:=ints_get k l i (by omega)
 have h1:(0:Int)<=(i:Int)/\(i:Int) < (n:Int):=by omega
 simp only [Instr.index,asIntOf,Sem.run_bind,Sem.run_pure,Result.andThen_ok,run_underlying hu,if_pos h1,hz,part,ha,Bool.false_eq_true,if_false,Nat.mul_one,Int.toNat_natCast,List.getElem?_toArray,hg]
theorem results_cell {P:Program} {fn:Func} {p:Tmp} {ty:TypeId} {tmps:Array Value} {w:World} {b:Addr} {v:Value} (h:fn.results=#[.cell p ty]) (hp:tmps.getD p undef= .pointer (some b)) (hl:(loadVar ty b).run P w= .ok v w):
  (results fn tmps).run P w= .ok v w:=by
 have hp':tmps[p]?.getD undef= .pointer (some b):=by simpa using hp
 simp [results,h,hp',asAddr,hl]
def Exc (g:Nat) (w w':World):Prop:=∀k,k≠g->w'.heap[k]? =w.heap[k]?
theorem Exc.refl (g:Nat) (w:World):Exc g w w:=fun _ _=>rfl
theorem Exc.set {g:Nat} {a w:World} (h:Exc g a w) (i:Nat) (u:Value):Exc g a (w.setCell ⟨g,i,none⟩ u):=fun k hk=>(Below.heap_setCell _ _ _ _ hk).trans (h k hk)
theorem Exc.store8 {g:Nat} {a w:World} (h:Exc g a w) (x0 x1 x2 x3 x4 x5 x6 x7:Value):
  Exc g a ((((((((w.setCell ⟨g,0,none⟩ x0).setCell ⟨g,1,none⟩ x1).setCell ⟨g,2,none⟩ x2).setCell ⟨g,3,none⟩ x3).setCell ⟨g,4,none⟩ x4).setCell ⟨g,5,none⟩ x5).setCell ⟨g,6,none⟩ x6).setCell ⟨g,7,none⟩ x7):=
 (((((((h.set 0 _).set 1 _).set 2 _).set 3 _).set 4 _).set 5 _).set 6 _).set 7 _
theorem Exc.range {g:Nat} {w w':World} (h:Exc g w w') {b o:Nat} {cs:List Value} (hr:w.rangeAt b o cs) (hb:b≠g):w'.rangeAt b o cs:=fun j v hv=>by
 rw [World.cell?_of_block (w:=w) (h b hb)];exact hr j v hv
theorem Exc.owns {g:Nat} {w w':World} (h:Exc g w w') {base e size n:Nat} {v:Value} {xs:List Value} (ho:w.ownsRow base e size v n xs) (hg:v.ownBlock≠some g):w'.ownsRow base e size v n xs:=by
 obtain⟨h1,h2⟩:=ho
 refine⟨h1,?_⟩
 rcases h2 with h2 | ⟨k,cap,cur,hv,hk,hh,r⟩
 ·exact .inl h2
 ·exact .inr ⟨k,cap,cur,hv,hk,by rw [h k (fun q=>hg (by rw [hv];exact congrArg some q))];exact hh,r⟩
theorem Fam.setHi {w:World} {g:Nat} {k:IntKind} {n:Nat} {f:Nat->Int} (h:Fam w g k n f) (i:Nat) (hi:n<=i) (u:Value):Fam (w.setCell ⟨g,i,none⟩ u) g k n f:=
 ⟨fun j hj=>by rw [World.cell?_setCell_other _ _ _ _ (by intro q;injection q with _ q;omega)];exact h.1 j hj,fun j=>by rw [World.frozen?_setCell];exact h.2 j⟩
theorem cell_hi8 {w:World} {g j:Nat} {v:Value} (h:w.cell? ⟨g,j,none⟩=some v) (hj:8<=j) (x0 x1 x2 x3 x4 x5 x6 x7:Value):
  ((((((((w.setCell ⟨g,0,none⟩ x0).setCell ⟨g,1,none⟩ x1).setCell ⟨g,2,none⟩ x2).setCell ⟨g,3,none⟩ x3).setCell ⟨g,4,none⟩ x4).setCell ⟨g,5,none⟩ x5).setCell ⟨g,6,none⟩ x6).setCell ⟨g,7,none⟩ x7).cell? ⟨g,j,none⟩=some v:=by
 rw [World.cell?_setCell_other _ _ _ _ (by intro q;injection q with _ q;omega),World.cell?_setCell_other _ _ _ _ (by intro q;injection q with _ q;omega),World.cell?_setCell_other _ _ _ _ (by intro q;injection q with _ q;omega),World.cell?_setCell_other _ _ _ _ (by intro q;injection q with _ q;omega),World.cell?_setCell_other _ _ _ _ (by intro q;injection q with _ q;omega),World.cell?_setCell_other _ _ _ _ (by intro q;injection q with _ q;omega),World.cell?_setCell_other _ _ _ _ (by intro q;injection q with _ q;omega),World.cell?_setCell_other _ _ _ _ (by intro q;injection q with _ q;omega)]
 exact h
theorem cell_set_ne {w:World} {g i j:Nat} {u v:Value} (h:w.cell? ⟨g,j,none⟩=some v) (hne:i≠j):(w.setCell ⟨g,i,none⟩ u).cell? ⟨g,j,none⟩=some v:=by
 rw [World.cell?_setCell_other _ _ _ _ (by intro q;injection q with _ q;omega)];exact h
theorem ext_alloc (w:World) (o:Obj):Ext w (w.alloc o):=(Below.refl _ _).alloc (Nat.le_refl _) o
theorem below_alloc {B:Nat} (w:World) (o:Obj) (h:B<=w.heap.size):Below B w (w.alloc o):=(Below.refl _ _).alloc h o
theorem rds_lit (w:World) (e:TypeId) (k:IntKind) (l:List Int) (hm:l.length<=maxLen):
  Rds (w.alloc (.cells (ints k l).toArray e)) (.slice (some ⟨w.heap.size,0,none⟩) l.length l.length) l.length (ints k l):=by
 refine .inr ⟨w.heap.size,0,l.length,rfl,Nat.le_refl _,hm,fun j v hv=> ?_⟩
 rw [Nat.zero_add,World.cell?_alloc_new]
 simpa using hv
def lenS:Value->Nat
 | .slice _ n _=>n
 | _=>0
def Stuck (p:Prop):Prop:=p
theorem go_on {p:Prop} (h:p):Stuck p:=h
section
variable {P:Program} {ops:Array Oper} {rest:List Oper} {a:Act} {w w':World} {Q:Exit->Act->World->Prop} {d:Option Tmp} {tt ty:TypeId} {pp:String} {af:Array Edge} {x y:Operand} {p v:Value}
theorem stop_load (h:Stuck (wpList P ops Q (⟨d,.load ty x,tt,pp,af,none⟩ :: rest) a w)):wpList P ops Q (⟨d,.load ty x,tt,pp,af,none⟩ :: rest) a w:=h
theorem stop_store (h:Stuck (wpList P ops Q (⟨d,.store ty x y,tt,pp,af,none⟩ :: rest) a w)):wpList P ops Q (⟨d,.store ty x y,tt,pp,af,none⟩ :: rest) a w:=h
theorem stop_append {args:Array Operand} {ts:Array TypeId} (h:Stuck (wpList P ops Q (⟨d,.call {callee:= .builtin .append,args:=args,argTypes:=ts},tt,pp,af,none⟩ :: rest) a w)):wpList P ops Q (⟨d,.call {callee:= .builtin .append,args:=args,argTypes:=ts},tt,pp,af,none⟩ :: rest) a w:=h
end
theorem wpL_app {P:Program} {ops:Array Oper} {rest:List Oper} {a:Act} {w:World} {Q:Exit->Act->World->Prop} {d:Option Tmp} {tt t e:TypeId} {pp:String} {af:Array Edge} {s x:Operand} {v u z:Value} {base size bytes n m:Nat} {xs news:List Value}
  (hT:SlT P t e z size bytes) (hown:w.ownsRow base e size v n xs) (hrd:Rds w u m news) (hs:a.eval s=v) (hx:a.eval x=u) (hl:news.length=m*size) (h1:∀c∈news,c.oneCell'=true)
  (hlen:n+m<=maxLen) (hbytes:(n+m)*bytes<=140737488355328) (hbase:base<=w.heap.size)
  (h:∀p c w',w'.ownsRow base e size (.slice p (n+m) c) (n+m) (xs++news)->w.grownBy w' v.ownBlock->Below base w w'->(∀k,(Value.slice p (n+m) c).ownBlock=some k->v.ownBlock=some k\/w.heap.size<=k)->n+m<=c->c<=maxLen->wpList P ops Q rest (a.put d (.slice p (n+m) c)) w'):
  wpList P ops Q (⟨d,.call {callee:= .builtin .append,args:=#[s,x],argTypes:=#[t,t]},tt,pp,af,none⟩ :: rest) a w:=
 wpL_append hT hown hrd hl h1 hlen hbytes hbase hs hx fun v' w' h1 h2 h3 h4=>by
  obtain⟨p,c,rfl,hc,hm⟩:=(Rds.of_owns h1).form
  exact h p c w' h1 h2 h3 h4 hc hm
theorem owns_nil_lit (w:World) (e:TypeId) (B:Nat) (h:B<=w.heap.size) (size:Nat):(w.alloc (.cells #[] e)).ownsRow B e size (.slice (some ⟨w.heap.size,0,none⟩) 0 0) 0 []:=owns_new w e #[] B 0 size h (Nat.zero_le _) (by simp)
theorem rds_one (w:World) (e:TypeId) (k:IntKind) (x:Int):Rds (w.alloc (.cells #[.int k x] e)) (.slice (some ⟨w.heap.size,0,none⟩) 1 1) 1 (ints k [x]):=rds_lit w e k [x] (show 1<=maxLen from by decide)
def fillAct (a:Act):List Tmp->(Nat->Value)->Act
 | [],_=>a
 | t :: r,u=> {tmps:=(fillAct a r u).tmps.setIfInBounds t (u t),defers:=a.defers}
theorem fillAct_defers (a:Act) (ts:List Tmp) (u:Nat->Value):(fillAct a ts u).defers=a.defers:=by
 cases ts<;>rfl
theorem fillAct_size (a:Act) (ts:List Tmp) (u:Nat->Value):(fillAct a ts u).tmps.size=a.tmps.size:=by
 induction ts with
 | nil=>rfl
 | cons t r ih=>simp [fillAct,ih]
theorem fillAct_get (a:Act) (ts:List Tmp) (u:Nat->Value) (j:Nat):(fillAct a ts u).tmps[j]? =if j∈ts/\j < a.tmps.size then some (u j)else a.tmps[j]? :=by
 induction ts with
 | nil=>simp [fillAct]
 | cons t r ih=>
  simp only [fillAct,Array.getElem?_setIfInBounds,fillAct_size,ih]
  by_cases e:t=j
  ·subst e
   by_cases h:t < a.tmps.size
   ·simp [h]
   ·simp [h]
  ·have e':¬j=t:=fun q=>e q.symm
   simp [e,e']
theorem act_ext {a b:Act} (h:a.defers=b.defers) (k:∀j:Nat,a.tmps[j]? =b.tmps[j]?):a=b:=by
 cases a;cases b
 simp only [Act.mk.injEq]
 exact⟨Array.ext_getElem? k,h⟩
theorem fillAct_put (a:Act) (ts:List Tmp) (u:Nat->Value) (t:Tmp) (v:Value) (ht:t∈ts):
  (fillAct a ts u).put (some t) v=fillAct a ts (fun j=>if j=t then v else u j):=by
 refine act_ext (by simp [Act.put,fillAct_defers]) fun j=> ?_
 simp only [Act.put,Array.getElem?_setIfInBounds,fillAct_size,fillAct_get]
 by_cases e:t=j
 ·subst e
  by_cases h:t < a.tmps.size
  ·simp [h,ht]
  ·simp [h]
 ·have e':¬j=t:=fun q=>e q.symm
  simp [e,e']
theorem fillAct_self (a:Act) (ts:List Tmp):∃u,a=fillAct a ts u:=by
 refine⟨fun j=>a.tmps.getD j undef,act_ext (by rw [fillAct_defers]) fun j=> ?_⟩
 rw [fillAct_get]
 split
 ·rename_i h
  simp [h.2]
 ·rfl
def dstsOf (l:List Oper):List Tmp:=l.filterMap (·.dst)
def Yld (l:List Oper) (V:Nat->Value->World->Prop) (u:Nat->Value) (w:World) (j:Nat):Prop:=
 match (l[j]?).bind (·.dst)with
 | some d=>V j (u d) w
 | none=>True
def DepsOk (l:List Oper) (V:Nat->Value->World->Prop) (u:Nat->Value) (w:World):List Edge->Prop
 | []=>True
 | e :: r=>Yld l V u w e.on/\DepsOk l V u w r
def StepOk (P:Program) (Q:Exit->Act->World->Prop) (l:List Oper) (hs:List Tmp) (a0:Act) (w0:World) (V:Nat->Value->World->Prop) (i:Nat) (o:Oper):Prop:=
 ∀(u:Nat->Value) (w:World),Ext w0 w->DepsOk l V u w o.after.toList->∀K:Act->World->Prop,
  (∀a' w',(∃v,a'=(fillAct a0 hs u).put o.dst v/\Ext w w'/\(o.dst.isSome=true->V i v w'))->K a' w')->
  if Region.wanted o (yielded l.toArray (fillAct a0 hs u).tmps)=true then o.wp P (fillAct a0 hs u) w K Q else K ((fillAct a0 hs u).put o.dst undef) w
def StepsOk (P:Program) (Q:Exit->Act->World->Prop) (l:List Oper) (hs:List Tmp) (a0:Act) (w0:World) (V:Nat->Value->World->Prop):List Oper->Nat->Prop
 | [],_=>True
 | o :: r,i=>StepOk P Q l hs a0 w0 V i o/\StepsOk P Q l hs a0 w0 V r (i+1)
theorem StepsOk.get {P:Program} {Q:Exit->Act->World->Prop} {l:List Oper} {hs:List Tmp} {a0:Act} {w0:World} {V:Nat->Value->World->Prop}:
  ∀(r:List Oper) (i:Nat),StepsOk P Q l hs a0 w0 V r i->∀j o,r[j]? =some o->StepOk P Q l hs a0 w0 V (i+j) o
 | [],_,_,j,o,h=>by simp at h
 | x :: r,i,h,0,o,hj=>by simp at hj;subst hj;exact h.1
 | x :: r,i,h,j+1,o,hj=>by
  have:=StepsOk.get r (i+1) h.2 j o (by simpa using hj)
  rw [show i+(j+1)=i+1+j from by omega];exact this
def trues (m n:Nat):Array Bool:=((List.range m).map (fun j=>decide (j < n))).toArray
def backB (l:List Oper):Bool:=l.zipIdx.all fun(o,i)=>o.after.toList.all fun e=> !Region.binds .any e||decide (e.on < i)
def distB:List (Option Tmp)->Bool
 | []=>true
 | none :: r=>distB r
 | some t :: r=> !r.contains (some t)&&distB r
def regB (l:List Oper) (n:Nat):Bool:=
 decide (n < l.length)&&Region.sinkB .any l.toArray n&&Region.chainB .any l.toArray n&&backB l&&distB ((l.take n).map (·.dst))&&l.all (fun o=>o.after.toList.all fun e=>Region.binds .any e)&&
  Region.seqB .any l.toArray (l.length - n) n (trues l.length n)
theorem cnt_set (p q:Nat->Bool) (i:Nat) (hp:p i=false) (hq:q i=true) (ho:∀j,j≠i->q j=p j):∀n,i < n->(List.range n).countP q=(List.range n).countP p+1:=by
 intro n
 induction n with
 | zero=>intro h;omega
 | succ n ih=>
  intro h
  rw [List.range_succ,List.countP_append,List.countP_append]
  by_cases e:i=n
  ·subst e
   have:∀m,m<=i->(List.range m).countP q=(List.range m).countP p:=by
    intro m
    induction m with
    | zero=>intro _;rfl
    | succ m ihm=>intro hm;rw [List.range_succ,List.countP_append,List.countP_append,ihm (by omega)];simp [ho m (by omega)]
   rw [this i (Nat.le_refl _)]
   simp [hp,hq]
  ·rw [ih (by omega)]
   simp [ho n (by omega)]
   omega
theorem cnt_all (p:Nat->Bool):∀n,(List.range n).countP p=n->∀j,j < n->p j=true:=by
 intro n
 induction n with
 | zero=>intro _ j hj;omega
 | succ n ih=>
  intro h j hj
  rw [List.range_succ,List.countP_append]at h
  have h1:(List.range n).countP p<=n:=by simpa using List.countP_le_length (p:=p) (l:=List.range n)
  have h2: [n].countP p<=1:=List.countP_le_length (p:=p) (l:=[n])
  have h3: [n].countP p=1:=by omega
  by_cases e:j=n
  ·subst e
   by_cases hp:p j=true
   ·exact hp
   ·simp [hp]at h3
  ·exact ih (by omega) j (by omega)
theorem cnt_lt (p:Nat->Bool):∀n,(List.range n).countP p < n->∃j,j < n/\p j=false/\∀k,k < j->p k=true:=by
 intro n
 induction n with
 | zero=>intro h;omega
 | succ n ih=>
  intro h
  by_cases hlt:(List.range n).countP p < n
  ·obtain⟨j,a,b,c⟩:=ih hlt
   exact⟨j,by omega,b,c⟩
  ·have h1:(List.range n).countP p<=n:=by simpa using List.countP_le_length (p:=p) (l:=List.range n)
   have he:(List.range n).countP p=n:=by omega
   refine⟨n,by omega,?_,cnt_all p n he⟩
   rw [List.range_succ,List.countP_append,he]at h
   by_cases hp:p n=true
   ·simp [hp]at h
   ·simpa using hp
theorem distB_spec:∀(r:List (Option Tmp)),distB r=true->∀(i j:Nat) (t:Tmp),r[i]? =some (some t)->r[j]? =some (some t)->i=j
 | [],_,i,j,t,h,_=>by simp at h
 | x :: r,hd,i,j,t,h,k=>by
  have hr:distB r=true:=by cases x<;>simp [distB]at hd<;>first | exact hd | exact hd.2
  cases i with
  | zero=>
   cases j with
   | zero=>rfl
   | succ j=>
    simp at h k
    subst h
    simp [distB]at hd
    exact absurd (List.mem_of_getElem? k) hd.1
  | succ i=>
   cases j with
   | zero=>
    simp at h k
    subst k
    simp [distB]at hd
    exact absurd (List.mem_of_getElem? h) hd.1
   | succ j=>
    simp at h k
    rw [distB_spec r hr i j t h k]
theorem DepsOk.of {l:List Oper} {V:Nat->Value->World->Prop} {u:Nat->Value} {w:World}:∀(es:List Edge),(∀e∈es,Yld l V u w e.on)->DepsOk l V u w es
 | [],_=>trivial
 | e :: r,h=>⟨h e (by simp),DepsOk.of r (fun e' he=>h e' (by simp [he]))⟩
theorem Yld.mono {l:List Oper} {V:Nat->Value->World->Prop} (hmono:∀i v w w',V i v w->Ext w w'->V i v w') {u:Nat->Value} {w w':World} {j:Nat} (h:Yld l V u w j) (hw:Ext w w'):Yld l V u w' j:=by
 unfold Yld at h⊢
 cases hd:(l[j]?).bind (·.dst)with
 | none=>trivial
 | some d=>simp only [hd]at h⊢;exact hmono _ _ _ _ h hw
theorem Yld.upd {l:List Oper} {V:Nat->Value->World->Prop} {u:Nat->Value} {w:World} {j d:Nat} {v:Value} (h:Yld l V u w j) (hne:(l[j]?).bind (·.dst)≠some d):Yld l V (fun k=>if k=d then v else u k) w j:=by
 unfold Yld at h⊢
 cases hd:(l[j]?).bind (·.dst)with
 | none=>trivial
 | some d'=>
  simp only [hd]at h⊢hne
  rw [if_neg (fun q=>hne (by rw [q]))]
  exact h
section
variable {P:Program} {Q:Exit->Act->World->Prop} {l:List Oper} {n:Nat} {a0:Act} {w0:World} {V:Nat->Value->World->Prop}
theorem heads_any (hB:regB l n=true)
  (hmono:∀i v w w',V i v w->Ext w w'->V i v w')
  (hsteps:StepsOk P Q l (dstsOf (l.take n)) a0 w0 V (l.take n) 0)
  (hend:∀(u:Nat->Value) (w:World),Ext w0 w->(∀j,j < n->Yld l V u w j)->wpList P l.toArray Q (l.drop n) (fillAct a0 (dstsOf (l.take n)) u) w):
  ∀(f:Nat) (listed:Array Bool) (u:Nat->Value) (w:World),HeadInv .any l.toArray n listed->(List.range n).countP (fun j=>listed.getD j false)+f=n->
   Ext w0 w->(∀j,j < n->listed.getD j false=true->Yld l V u w j)->
   wpAny P .any l.toArray Q (f+(l.length - n)) listed (fillAct a0 (dstsOf (l.take n)) u) w:=by
 simp only [regB,Bool.and_eq_true,decide_eq_true_eq]at hB
 obtain⟨⟨⟨⟨⟨⟨hn,hs⟩,hc⟩,hb⟩,hdist⟩,hbinds⟩,hseq⟩:=hB
 intro f
 induction f with
 | zero=>
  intro listed u w inv hcnt hext hy
  rw [Nat.zero_add]
  have hall:=cnt_all (fun j=>listed.getD j false) n (by omega)
  have hl:listed=trues l.length n:=by
   have hsz:listed.size=l.length:=by rw [inv.size];simp
   refine Array.ext (by rw [hsz];simp [trues]) fun j h1 h2=> ?_
   simp only [trues,List.getElem_toArray,List.getElem_map,List.getElem_range]
   by_cases hj:j < n
   ·have:=hall j hj
    simp [h1]at this
    simp [hj,this]
   ·have:=inv.tail j (by omega) (by simp;omega)
    simp [h1]at this
    simp [hj,this]
  have hw:=hend u w hext (fun j hj=>hy j hj (hall j hj))
  have:=wpAny_of_seq (P:=P) (md:= .any) (ops:=l.toArray) (Q':=Q) (l.drop n) n listed (fillAct a0 (dstsOf (l.take n)) u) w (fun j=>by simp [List.getElem?_drop])
   (by rw [List.length_drop,hl];exact hseq) hw
  rwa [List.length_drop]at this
 | succ f ih=>
  intro listed u w inv hcnt hext hy
  rw [show f+1+(l.length - n)=(f+(l.length - n))+1 from by omega]
  obtain⟨i0,hi0,hun0,hmin⟩:=cnt_lt (fun j=>listed.getD j false) n (by omega)
  have hlsz:listed.size=l.length:=by rw [inv.size];simp
  have hun0':listed.getD i0 true=false:=getD_in (by omega) hun0
  have hready:i0∈Region.ready .any l.toArray listed:=by
   refine mem_ready.2 ⟨hun0',l[i0]'(by omega),by simp,fun e he hbe=> ?_⟩
   have h1:=List.all_eq_true.1 hb (l[i0]'(by omega),i0) (by
    rw [List.mem_zipIdx_iff_getElem?];simp)
   have h2:=List.all_eq_true.1 h1 e (by simpa using he)
   simp only [hbe,Bool.not_true,Bool.false_or,decide_eq_true_eq]at h2
   exact hmin e.on h2
  refine⟨fun h=>(by rw [h]at hready;cases hready),fun i hi=> ?_⟩
  have hin:i < n:=by
   rcases Nat.lt_or_ge i n with h | h
   ·exact h
   ·exact absurd hi (tail_waits hs hc (by simpa using hn) inv _ i0 rfl hi0 hun0' i h)
  obtain⟨hui,o,ho,hall⟩:=mem_ready.1 hi
  have ho':(l.take n)[i]? =some o:=by
   rw [List.getElem?_take,if_pos hin];simpa using ho
  have hol:l[i]? =some o:=by simpa using ho
  have hst:=hsteps.get _ 0 i o ho'
  rw [Nat.zero_add]at hst
  have hdeps:DepsOk l V u w o.after.toList:=DepsOk.of _ fun e he=>by
   have hbe:Region.binds .any e=true:=by
    have h1:=List.all_eq_true.1 hbinds o (List.mem_of_getElem? hol)
    exact List.all_eq_true.1 h1 e he
   have hle:=hall e (by simpa using he) hbe
   have h1:=List.all_eq_true.1 hb (o,i) (by rw [List.mem_zipIdx_iff_getElem?];simpa using hol)
   have h2:=List.all_eq_true.1 h1 e he
   simp only [hbe,Bool.not_true,Bool.false_or,decide_eq_true_eq]at h2
   exact hy e.on (by omega) hle
  have hmemd:∀d,o.dst=some d->d∈dstsOf (l.take n):=fun d hd=>by
   refine List.mem_filterMap.2 ⟨o,List.mem_of_getElem? ho',hd⟩
  have hdd:∀j d,j < n->(l[j]?).bind (·.dst)=some d->o.dst=some d->j=i:=fun j d hj h1 h2=>by
   have hd1:((l.take n).map (·.dst))[i]? =some (some d):=by rw [List.getElem?_map,ho'];simp [h2]
   have hd2:((l.take n).map (·.dst))[j]? =some (some d):=by
    rw [List.getElem?_map,List.getElem?_take,if_pos hj]
    cases hlj:l[j]? with
    | none=>rw [hlj]at h1;cases h1
    | some oj=>rw [hlj]at h1;simpa using h1
   exact distB_spec _ hdist j i d hd2 hd1
  have hnext:∀a' w',(∃v,a'=(fillAct a0 (dstsOf (l.take n)) u).put o.dst v/\Ext w w'/\(o.dst.isSome=true->V i v w'))->
    wpAny P .any l.toArray Q (f+(l.length - n)) (listed.setIfInBounds i true) a' w':=by
   rintro a' w' ⟨v,rfl,hww,hv⟩
   have hcnt':(List.range n).countP (fun j=>(listed.setIfInBounds i true).getD j false)+f=n:=by
    rw [cnt_set (fun j=>listed.getD j false) (fun j=>(listed.setIfInBounds i true).getD j false) i (getD_both hui) (by simp [show i < listed.size by omega]) (fun j hj=>getD_set_ne false (Ne.symm hj)) n hin]
    omega
   have inv':=inv.set hi hin
   cases hd:o.dst with
   | none=>
    simp only [Act.put]
    refine ih _ u w' inv' hcnt' (hext.trans hww) fun j hj hlj=> ?_
    by_cases e:j=i
    ·subst e
     simp only [Yld,hol,Option.bind_some,hd]
    ·rw [getD_set_ne false (Ne.symm e)]at hlj
     exact(hy j hj hlj).mono hmono hww
   | some d=>
    rw [fillAct_put _ _ _ _ _ (hmemd d hd)]
    refine ih _ _ w' inv' hcnt' (hext.trans hww) fun j hj hlj=> ?_
    by_cases e:j=i
    ·subst e
     simp only [Yld,hol,Option.bind_some,hd,if_true]
     exact hv (by rw [hd];rfl)
    ·rw [getD_set_ne false (Ne.symm e)]at hlj
     exact((hy j hj hlj).mono hmono hww).upd (fun q=>e (hdd j d hj q hd))
  have hstep:=hst u w hext hdeps _ hnext
  unfold wpOp
  simp only [ho]
  split
  ·rename_i hw;rw [if_pos hw]at hstep;exact .inl hstep
  ·rename_i hw;rw [if_neg hw]at hstep;exact hstep
theorem wp_region_heads {id:Nat} (n:Nat) (V:Nat->Value->World->Prop) (hm:P.follows .mixedOrders=true) (hB:regB l n=true)
  (hmono:∀i v w w',V i v w->Ext w w'->V i v w')
  (hsteps:StepsOk P Q l (dstsOf (l.take n)) a0 w0 V (l.take n) 0)
  (hend:∀(u:Nat->Value) (w:World),Ext w0 w->(∀j,j < n->Yld l V u w j)->wpList P l.toArray Q (l.drop n) (fillAct a0 (dstsOf (l.take n)) u) w):
  (Code.region id l.toArray true).wp P Q a0 w0:=by
 refine wp_region_any hm ?_
 obtain⟨u,hu⟩:=fillAct_self a0 (dstsOf (l.take n))
 have hn:n < l.length:=by
  simp only [regB,Bool.and_eq_true,decide_eq_true_eq]at hB
  exact hB.1.1.1.1.1.1
 have inv0:HeadInv .any l.toArray n (Array.replicate l.toArray.size false):=
  ⟨by simp,fun j oj _ hl=>(by rw [getD_replicate_false]at hl;cases hl),fun t _ ht=>getD_in (by simpa using ht) (getD_replicate_false _ _)⟩
 have:=heads_any hB hmono hsteps hend n (Array.replicate l.toArray.size false) u {w0 with drawn:=w0.drawn+1} inv0 (by
  have:(List.range n).countP (fun j=>(Array.replicate l.toArray.size false).getD j false)=0:=by
   rw [List.countP_eq_zero]
   intro j _ hq
   rw [getD_replicate_false]at hq
   cases hq
  omega) ((Below.refl _ _).drew) (fun j _ hl=>by rw [getD_replicate_false]at hl;cases hl)
 rw [<-hu]at this
 rw [show n+(l.length - n)=l.length from by omega]at this
 simpa using this
end
def evalE (ev:Nat->Value):Operand->Value
 | .tmp t=>ev t
 | .const v=>v
 | .global g=> .pointer (some ⟨g,0,none⟩)
 | .func f=> .func (.func f) #[] #[]
def yieldE (l:List Oper) (ev:Nat->Value) (j:Nat):Option Bool:=
 match (l[j]?).bind (·.dst)with
 | some d=>match ev d with | .bool b=>some b | _=>none
 | none=>none
def GoodR (P:Program) (w:World) (φ :Value->World->Prop):Result Next->Prop
 | .ok (.value v) w'=>Ext w w'/\ φ v w'
 | .ok .skip w'=>Ext w w'/\ φ undef w'
 | .ok (.enter f args) w'=>Calls P f args w' (fun e w''=>∃v,e= .returned v/\Ext w w''/\ φ v w'')
 | _=>False
def Good (P:Program) (l:List Oper) (o:Oper) (ev:Nat->Value) (w:World) (φ :Value->World->Prop):Prop:=
 if Region.wanted o (yieldE l ev)=true then GoodR P w φ ((execOp (evalE ev) o).run P w)else φ undef w
def DepsE (l:List Oper) (Vs:List (Value->World->Prop)) (ev:Nat->Value) (w:World):List Edge->Prop
 | []=>True
 | e :: r=>(match (l[e.on]?).bind (·.dst)with | some d=>Vs.getD e.on (fun _ _=>True) (ev d) w | none=>True)/\DepsE l Vs ev w r
def StepE (P:Program) (l:List Oper) (hs:List Tmp) (a0:Act) (w0:World) (Vs:List (Value->World->Prop)) (i:Nat) (o:Oper):Prop:=
 ∀(ev:Nat->Value) (w:World),Ext w0 w->(∀t,t ∉ hs->ev t=a0.tmps.getD t undef)->DepsE l Vs ev w o.after.toList->Good P l o ev w (Vs.getD i (fun _ _=>True))
def StepsE (P:Program) (l:List Oper) (hs:List Tmp) (a0:Act) (w0:World) (Vs:List (Value->World->Prop)):List Oper->Nat->Prop
 | [],_=>True
 | o :: r,i=>StepE P l hs a0 w0 Vs i o/\StepsE P l hs a0 w0 Vs r (i+1)
def MonoL:List (Value->World->Prop)->Prop
 | []=>True
 | V :: r=>(∀v w w',V v w->Ext w w'->V v w')/\MonoL r
theorem MonoL.get:∀(Vs:List (Value->World->Prop)),MonoL Vs->∀i v w w',Vs.getD i (fun _ _=>True) v w->Ext w w'->Vs.getD i (fun _ _=>True) v w'
 | [],_,_,_,_,_,_,_=>by simp
 | V :: r,h,0,v,w,w',hv,hw=>by simpa using h.1 v w w' (by simpa using hv) hw
 | V :: r,h,i+1,v,w,w',hv,hw=>by
  have:=MonoL.get r h.2 i v w w' (by simpa using hv) hw
  simpa using this
def eqv (m:Value):Value->World->Prop:=fun v _=>v=m
theorem mono_eqv (m:Value):∀v w w',eqv m v w->Ext w w'->eqv m v w':=fun _ _ _ h _=>h
def anyv:Value->World->Prop:=fun _ _=>True
theorem mono_anyv:∀v w w',anyv v w->Ext w w'->anyv v w':=fun _ _ _ h _=>h
theorem eval_fill (a0:Act) (hs:List Tmp) (u:Nat->Value):(fillAct a0 hs u).eval=evalE (fun t=>(fillAct a0 hs u).tmps.getD t undef):=by
 funext x;cases x<;>rfl
theorem yield_fill (l:List Oper) (a:Act):yielded l.toArray a.tmps=yieldE l (fun t=>a.tmps.getD t undef):=by
 funext j
 unfold yielded yieldE
 simp only [List.getElem?_toArray]
 cases (l[j]?).bind (·.dst)with
 | none=>rfl
 | some d=>
  simp only [Option.bind_some,Array.getD_eq_getD_getElem?]
  cases h:a.tmps[d]? with
  | none=>simp [undef]
  | some v=>cases v<;>simp
theorem wp_of_goodR {P:Program} {o:Oper} {a:Act} {w:World} {K:Act->World->Prop} {Q:Exit->Act->World->Prop} {φ :Value->World->Prop} {ev:Nat->Value}
  (he:a.eval=evalE ev) (h:GoodR P w φ ((execOp (evalE ev) o).run P w)) (hK:∀v w',Ext w w'-> φ v w'->K (a.put o.dst v) w'):o.wp P a w K Q:=by
 unfold Oper.wp
 rw [he]
 generalize (execOp (evalE ev) o).run P w=r at*
 cases r with
 | ok n w'=>
  cases n<;>simp only [GoodR]at h<;>simp only [Oper.upon]
  case value v=>exact hK _ _ h.1 h.2
  case skip=>exact hK _ _ h.1 h.2
  case enter f args=>
   exact h.mono fun e w'' ⟨v,hv,h1,h2⟩=>by subst hv;exact hK _ _ h1 h2
 | halt x w'=>simp only [GoodR]at h
section
variable {P:Program} {Q:Exit->Act->World->Prop} {l:List Oper} {n:Nat} {a0:Act} {w0:World} {Vs:List (Value->World->Prop)}
theorem StepE.ok {hs:List Tmp} {i:Nat} {o:Oper} (hsz:∀t∈hs,t < a0.tmps.size) (hin:∀j oj d,l[j]? =some oj->oj.dst=some d->(∃e∈o.after.toList,e.on=j)->d∈hs)
  (h:StepE P l hs a0 w0 Vs i o):StepOk P Q l hs a0 w0 (fun i=>Vs.getD i (fun _ _=>True)) i o:=by
 intro u w hext hdeps K hK
 have hev:∀d,d∈hs->(fillAct a0 hs u).tmps.getD d undef=u d:=fun d hd=>by
  rw [Array.getD_eq_getD_getElem?,fillAct_get,if_pos ⟨hd,hsz d hd⟩];rfl
 have hD:∀(es:List Edge),(∀e∈es,e∈o.after.toList)->DepsOk l (fun i=>Vs.getD i (fun _ _=>True)) u w es->DepsE l Vs (fun t=>(fillAct a0 hs u).tmps.getD t undef) w es:=by
  intro es
  induction es with
  | nil=>intro _ _;trivial
  | cons e r ih=>
   intro hm hd
   refine⟨?_,ih (fun x hx=>hm x (by simp [hx])) hd.2⟩
   have h1:=hd.1
   unfold Yld at h1
   cases hl:(l[e.on]?)with
   | none=>simp
   | some oj=>
    simp only [hl,Option.bind_some]at h1⊢
    cases hdj:oj.dst with
    | none=>simp
    | some d=>
     simp only [hdj]at h1⊢
     rw [hev d (hin e.on oj d hl hdj ⟨e,hm e (by simp),rfl⟩)]
     exact h1
 have hg:=h (fun t=>(fillAct a0 hs u).tmps.getD t undef) w hext (fun t ht=>by
  rw [Array.getD_eq_getD_getElem?,fillAct_get,if_neg (fun q=>ht q.1),Array.getD_eq_getD_getElem?]) (hD _ (fun _ h=>h) hdeps)
 unfold Good at hg
 rw [yield_fill]
 split
 ·rename_i hw
  rw [if_pos hw]at hg
  exact wp_of_goodR (eval_fill a0 hs u) hg fun v w' h1 h2=>by
   cases hd:o.dst with
   | none=>exact hK _ _ ⟨v,by rw [hd],h1,fun q=>by rw [hd]at q;cases q⟩
   | some d=>exact hK _ _ ⟨v,by rw [hd],h1,fun _=>h2⟩
 ·rename_i hw
  rw [if_neg hw]at hg
  exact hK _ _ ⟨undef,rfl,Below.refl _ _,fun _=>hg⟩
theorem StepsE.ok {hs:List Tmp} (hsz:∀t∈hs,t < a0.tmps.size):∀(r:List Oper) (i:Nat),(∀(j:Nat) (o:Oper),r[j]? =some o->∀(k:Nat) (oj:Oper) (d:Tmp),l[k]? =some oj->oj.dst=some d->(∃e∈o.after.toList,e.on=k)->d∈hs)->
  StepsE P l hs a0 w0 Vs r i->StepsOk P Q l hs a0 w0 (fun i=>Vs.getD i (fun _ _=>True)) r i
 | [],_,_,_=>trivial
 | o :: r,i,hin,h=>⟨StepE.ok hsz (hin 0 o (by simp)) h.1,StepsE.ok hsz r (i+1) (fun j o' hj=>hin (j+1) o' (by simpa using hj)) h.2⟩
def sizeB (a:Act) (hs:List Tmp):Bool:=hs.all fun t=>decide (t < a.tmps.size)
def EndE (l:List Oper) (Vs:List (Value->World->Prop)) (u:Nat->Value) (w:World):Nat->Prop
 | 0=>True
 | j+1=>EndE l Vs u w j/\(match (l[j]?).bind (·.dst)with | some d=>Vs.getD j (fun _ _=>True) (u d) w | none=>True)
theorem EndE.of {u:Nat->Value} {w:World}:∀n,(∀j,j < n->Yld l (fun i=>Vs.getD i (fun _ _=>True)) u w j)->EndE l Vs u w n
 | 0,_=>trivial
 | j+1,h=>⟨EndE.of j (fun k hk=>h k (by omega)),h j (by omega)⟩
theorem wp_region_ev {id:Nat} (n:Nat) (hs:List Tmp) (Vs:List (Value->World->Prop)) (hm:P.follows .mixedOrders=true) (hB:regB l n=true) (hhs:dstsOf (l.take n)=hs) (hsz:sizeB a0 hs=true)
  (hmono:MonoL Vs)
  (hsteps:StepsE P l hs a0 w0 Vs (l.take n) 0)
  (hend:∀(u:Nat->Value) (w:World),Ext w0 w->EndE l Vs u w n->wpList P l.toArray Q (l.drop n) (fillAct a0 hs u) w):
  (Code.region id l.toArray true).wp P Q a0 w0:=by
 subst hhs
 have hback:∀(i:Nat) (o:Oper),(l.take n)[i]? =some o->∀e∈o.after.toList,e.on < i:=fun i o ho e he=>by
  have hB':=hB
  simp only [regB,Bool.and_eq_true,decide_eq_true_eq]at hB'
  obtain⟨⟨⟨⟨⟨⟨hn,hs⟩,hc⟩,hb⟩,hdist⟩,hbinds⟩,hseq⟩:=hB'
  have hin:i < n:=by
   have:=(List.getElem?_eq_some_iff.1 ho).1
   simp at this;omega
  have hol:l[i]? =some o:=by rw [List.getElem?_take,if_pos hin]at ho;exact ho
  have h1:=List.all_eq_true.1 hb (o,i) (by rw [List.mem_zipIdx_iff_getElem?];simpa using hol)
  have h2:=List.all_eq_true.1 h1 e he
  have h3:=List.all_eq_true.1 hbinds o (List.mem_of_getElem? hol)
  have h4:=List.all_eq_true.1 h3 e he
  simp only [h4,Bool.not_true,Bool.false_or,decide_eq_true_eq]at h2
  exact h2
 refine wp_region_heads n (fun i=>Vs.getD i (fun _ _=>True)) hm hB (MonoL.get Vs hmono) (StepsE.ok (fun t ht=>by
   have:=List.all_eq_true.1 hsz t ht;simpa using this) _ 0 ?_ hsteps) (fun u w h1 h2=>hend u w h1 (EndE.of n h2))
 rintro i o ho k oj d hk hd ⟨e,he,rfl⟩
 have hlt:=hback i o ho e he
 have hin:i < n:=by
  have:=(List.getElem?_eq_some_iff.1 ho).1
  simp at this;omega
 refine List.mem_filterMap.2 ⟨oj,List.mem_of_getElem? (i:=e.on) ?_,hd⟩
 rw [List.getElem?_take,if_pos (by omega)];exact hk
end
@[go_sem] theorem evalE_tmp (ev:Nat->Value) (t:Tmp):evalE ev (.tmp t)=ev t:=rfl
@[go_sem] theorem evalE_const (ev:Nat->Value) (v:Value):evalE ev (.const v)=v:=rfl
@[go_sem] theorem evalE_global (ev:Nat->Value) (g:Nat):evalE ev (.global g)= .pointer (some ⟨g,0,none⟩):=rfl
@[go_sem] theorem evalE_func (ev:Nat->Value) (f:FuncId):evalE ev (.func f)= .func (.func f) #[] #[]:=rfl
section
variable (P:Program) (w w':World) (φ :Value->World->Prop)
@[go_sem] theorem GoodR_value (v:Value):GoodR P w φ (.ok (.value v) w')=(Ext w w'/\ φ v w'):=rfl
@[go_sem] theorem GoodR_skip:GoodR P w φ (.ok .skip w')=(Ext w w'/\ φ undef w'):=rfl
@[go_sem] theorem GoodR_enter (f:FuncId) (args:Array Value):GoodR P w φ (.ok (.enter f args) w')=Calls P f args w' (fun e w''=>∃v,e= .returned v/\Ext w w''/\ φ v w''):=rfl
end
def updv (o:Option Tmp) (u:Nat->Value) (v:Value):Nat->Value:=match o with | some t=>fun j=>if j=t then v else u j | none=>u
def upd (d:Nat->Bool) (i:Nat):Nat->Bool:=fun j=>if j=i then true else d j
def ancN (l:List Oper):Nat->Nat->Nat->Bool
 | 0,_,_=>false
 | f+1,j,i=>match l[i]? with
  | some o=>o.after.toList.any fun e=>e.on==j||ancN l f j e.on
  | none=>false
section
variable (R:World->World->Prop) (J:(Nat->Bool)->(Nat->Value)->World->Prop)
def StepJ (P:Program) (Q:Exit->Act->World->Prop) (l:List Oper) (hs:List Tmp) (a0:Act) (w0:World) (V:Nat->Value->World->Prop) (i:Nat) (o:Oper):Prop:=
 ∀(d:Nat->Bool) (u:Nat->Value) (w:World),(∀t,t ∉ hs->u t=a0.tmps.getD t undef)->R w0 w->J d u w->(∀j,ancN l l.length j i=true->d j=true)->(∀j,ancN l l.length i j=true->d j=false)->d i=false->DepsOk l V u w o.after.toList->∀K:Act->World->Prop,
  (∀a' w',(∃v,a'=(fillAct a0 hs u).put o.dst v/\R w w'/\J (upd d i) (updv o.dst u v) w'/\(o.dst.isSome=true->V i v w'))->K a' w')->
  if Region.wanted o (yielded l.toArray (fillAct a0 hs u).tmps)=true then o.wp P (fillAct a0 hs u) w K Q else K ((fillAct a0 hs u).put o.dst undef) w
def StepsJ (P:Program) (Q:Exit->Act->World->Prop) (l:List Oper) (hs:List Tmp) (a0:Act) (w0:World) (V:Nat->Value->World->Prop):List Oper->Nat->Prop
 | [],_=>True
 | o :: r,i=>StepJ R J P Q l hs a0 w0 V i o/\StepsJ P Q l hs a0 w0 V r (i+1)
end
theorem Yld.monoR {R:World->World->Prop} {l:List Oper} {V:Nat->Value->World->Prop} (hmono:∀i v w w',V i v w->R w w'->V i v w') {u:Nat->Value} {w w':World} {j:Nat} (h:Yld l V u w j) (hw:R w w'):Yld l V u w' j:=by
 unfold Yld at h⊢
 cases hd:(l[j]?).bind (·.dst)with
 | none=>trivial
 | some d=>simp only [hd]at h⊢;exact hmono _ _ _ _ h hw
section
variable {R:World->World->Prop} {J:(Nat->Bool)->(Nat->Value)->World->Prop} {P:Program} {Q:Exit->Act->World->Prop} {l:List Oper} {n:Nat} {a0:Act} {w0:World} {V:Nat->Value->World->Prop}
end
def GoodX (R:World->World->Prop) (P:Program) (w:World) (φ :Value->World->Prop):Result Next->Prop
 | .ok (.value v) w'=>R w w'/\ φ v w'
 | .ok .skip w'=>R w w'/\ φ undef w'
 | .ok (.enter f args) w'=>Calls P f args w' (fun e w''=>∃v,e= .returned v/\R w w''/\ φ v w'')
 | _=>False
theorem wp_of_goodX {R:World->World->Prop} {P:Program} {o:Oper} {a:Act} {w:World} {K:Act->World->Prop} {Q:Exit->Act->World->Prop} {φ :Value->World->Prop} {ev:Nat->Value}
  (he:a.eval=evalE ev) (h:GoodX R P w φ ((execOp (evalE ev) o).run P w)) (hK:∀v w',R w w'-> φ v w'->K (a.put o.dst v) w'):o.wp P a w K Q:=by
 unfold Oper.wp
 rw [he]
 generalize (execOp (evalE ev) o).run P w=r at*
 cases r with
 | ok n w'=>
  cases n<;>simp only [GoodX]at h<;>simp only [Oper.upon]
  case value v=>exact hK _ _ h.1 h.2
  case skip=>exact hK _ _ h.1 h.2
  case enter f args=>
   exact h.mono fun e w'' ⟨v,hv,h1,h2⟩=>by subst hv;exact hK _ _ h1 h2
 | halt x w'=>simp only [GoodX]at h
section
variable (R:World->World->Prop) (J:(Nat->Bool)->(Nat->Value)->World->Prop)
def StepEJ (P:Program) (l:List Oper) (hs:List Tmp) (a0:Act) (w0:World) (Vs:List (Value->World->Prop)) (i:Nat) (o:Oper):Prop:=
 ∀(d:Nat->Bool) (ev:Nat->Value) (w:World),R w0 w->J d ev w->(∀j,ancN l l.length j i=true->d j=true)->(∀j,ancN l l.length i j=true->d j=false)->d i=false->(∀t,t ∉ hs->ev t=a0.tmps.getD t undef)->DepsE l Vs ev w o.after.toList->
  if Region.wanted o (yieldE l ev)=true then GoodX R P w (fun v w'=>Vs.getD i (fun _ _=>True) v w'/\J (upd d i) (updv o.dst ev v) w') ((execOp (evalE ev) o).run P w)else(Vs.getD i (fun _ _=>True) undef w/\J (upd d i) (updv o.dst ev undef) w)
def StepsEJ (P:Program) (l:List Oper) (hs:List Tmp) (a0:Act) (w0:World) (Vs:List (Value->World->Prop)):List Oper->Nat->Prop
 | [],_=>True
 | o :: r,i=>StepEJ R J P l hs a0 w0 Vs i o/\StepsEJ P l hs a0 w0 Vs r (i+1)
def MonoR:List (Value->World->Prop)->Prop
 | []=>True
 | V :: r=>(∀v w w',V v w->R w w'->V v w')/\MonoR r
end
theorem MonoR.get {R:World->World->Prop}:∀(Vs:List (Value->World->Prop)),MonoR R Vs->∀i v w w',Vs.getD i (fun _ _=>True) v w->R w w'->Vs.getD i (fun _ _=>True) v w'
 | [],_,_,_,_,_,_,_=>by simp
 | V :: r,h,0,v,w,w',hv,hw=>by simpa using h.1 v w w' (by simpa using hv) hw
 | V :: r,h,i+1,v,w,w',hv,hw=>by
  have:=MonoR.get r h.2 i v w w' (by simpa using hv) hw
  simpa using this
theorem monoR_eqv {R:World->World->Prop} (m:Value):∀v w w',eqv m v w->R w w'->eqv m v w':=fun _ _ _ h _=>h
theorem monoR_anyv {R:World->World->Prop}:∀v w w',anyv v w->R w w'->anyv v w':=fun _ _ _ h _=>h
section
variable {R:World->World->Prop} {J:(Nat->Bool)->(Nat->Value)->World->Prop} {P:Program} {Q:Exit->Act->World->Prop} {l:List Oper} {n:Nat} {a0:Act} {w0:World} {Vs:List (Value->World->Prop)}
end
section
variable (R:World->World->Prop) (P:Program) (w w':World) (φ :Value->World->Prop)
@[go_sem] theorem GoodX_value (v:Value):GoodX R P w φ (.ok (.value v) w')=(R w w'/\ φ v w'):=rfl
@[go_sem] theorem GoodX_skip:GoodX R P w φ (.ok .skip w')=(R w w'/\ φ undef w'):=rfl
@[go_sem] theorem GoodX_enter (f:FuncId) (args:Array Value):GoodX R P w φ (.ok (.enter f args) w')=Calls P f args w' (fun e w''=>∃v,e= .returned v/\R w w''/\ φ v w''):=rfl
end
def ancK (l:List Oper):Nat->Nat->Nat->Bool
 | 0,_,_=>false
 | f+1,j,i=>match l[i]? with
  | some o=>o.after.toList.any fun e=>Region.binds .any e&&(e.on==j||ancK l f j e.on)
  | none=>false
theorem ancK_done {l:List Oper} {d:Nat->Bool} (hcl:∀j oj,l[j]? =some oj->d j=true->∀e∈oj.after.toList,Region.binds .any e=true->d e.on=true):∀(f j i:Nat),ancK l f j i=true->d i=true->d j=true
 | 0,_,_,h,_=>by simp [ancK]at h
 | f+1,j,i,h,hi=>by
  unfold ancK at h
  split at h
  ·rename_i o ho
   obtain⟨e,he,h1⟩:=List.any_eq_true.1 h
   simp only [Bool.and_eq_true,Bool.or_eq_true,beq_iff_eq]at h1
   obtain⟨hb,h1⟩:=h1
   have hd:=hcl i o ho hi e he hb
   rcases h1 with h1 | h1
   ·rw [<-h1];exact hd
   ·exact ancK_done hcl f j e.on h1 hd
  ·cases h
theorem ancK_ready {l:List Oper} {d:Nat->Bool} (hcl:∀j oj,l[j]? =some oj->d j=true->∀e∈oj.after.toList,Region.binds .any e=true->d e.on=true) (f j i:Nat) {o:Oper} (ho:l[i]? =some o) (hall:∀e∈o.after.toList,Region.binds .any e=true->d e.on=true) (h:ancK l f j i=true):d j=true:=by
 cases f with
 | zero=>simp [ancK]at h
 | succ f=>
  unfold ancK at h
  rw [ho]at h
  obtain⟨e,he,h1⟩:=List.any_eq_true.1 h
  simp only [Bool.and_eq_true,Bool.or_eq_true,beq_iff_eq]at h1
  obtain⟨hb,h1⟩:=h1
  rcases h1 with h1 | h1
  ·rw [<-h1];exact hall e he hb
  ·exact ancK_done hcl f j e.on h1 (hall e he hb)
def DepsOk2 (l:List Oper) (V:Nat->Value->World->Prop) (u:Nat->Value) (w:World):List Edge->Prop
 | []=>True
 | e :: r=>(match e.ground with | .textOnly _=>True | .gcOnly _=>True | _=>Yld l V u w e.on)/\DepsOk2 l V u w r
theorem DepsOk2.of {l:List Oper} {V:Nat->Value->World->Prop} {u:Nat->Value} {w:World}:∀(es:List Edge),(∀e∈es,Region.binds .any e=true->Yld l V u w e.on)->DepsOk2 l V u w es
 | [],_=>trivial
 | e :: r,h=>⟨by
  have h1:=h e (by simp)
  unfold Region.binds at h1
  split<;>rename_i q<;>first | trivial | (refine h1 ?_;rw [q];done) | (refine h1 ?_;split<;>simp_all),DepsOk2.of r (fun e' he=>h e' (by simp [he]))⟩
def DepsE2 (l:List Oper) (Vs:List (Value->World->Prop)) (ev:Nat->Value) (w:World):List Edge->Prop
 | []=>True
 | e :: r=>(match e.ground with | .textOnly _=>True | .gcOnly _=>True | _=>(match (l[e.on]?).bind (·.dst)with | some d=>Vs.getD e.on (fun _ _=>True) (ev d) w | none=>True))/\DepsE2 l Vs ev w r
def regK (l:List Oper) (n:Nat):Bool:=
 decide (n<=l.length)&&(decide (n=l.length)||(decide (n < l.length)&&Region.sinkB .any l.toArray n&&Region.chainB .any l.toArray n))&&backB l&&distB ((l.take n).map (·.dst))&&Region.seqB .any l.toArray (l.length - n) n (trues l.length n)
section
variable (R:World->World->Prop) (J:(Nat->Bool)->(Nat->Value)->World->Prop)
def StepK (P:Program) (Q:Exit->Act->World->Prop) (l:List Oper) (hs:List Tmp) (a0:Act) (w0:World) (V:Nat->Value->World->Prop) (i:Nat) (o:Oper):Prop:=
 ∀(d:Nat->Bool) (u:Nat->Value) (w:World),(∀t,t ∉ hs->u t=a0.tmps.getD t undef)->R w0 w->J d u w->(∀j,ancK l l.length j i=true->d j=true)->(∀j,ancK l l.length i j=true->d j=false)->d i=false->DepsOk2 l V u w o.after.toList->∀K:Act->World->Prop,
  (∀a' w',(∃v,a'=(fillAct a0 hs u).put o.dst v/\R w w'/\J (upd d i) (updv o.dst u v) w'/\(o.dst.isSome=true->V i v w'))->K a' w')->
  if Region.wanted o (yielded l.toArray (fillAct a0 hs u).tmps)=true then o.wp P (fillAct a0 hs u) w K Q else K ((fillAct a0 hs u).put o.dst undef) w
def StepsK (P:Program) (Q:Exit->Act->World->Prop) (l:List Oper) (hs:List Tmp) (a0:Act) (w0:World) (V:Nat->Value->World->Prop):List Oper->Nat->Prop
 | [],_=>True
 | o :: r,i=>StepK R J P Q l hs a0 w0 V i o/\StepsK P Q l hs a0 w0 V r (i+1)
end
theorem StepsK.get {R:World->World->Prop} {J:(Nat->Bool)->(Nat->Value)->World->Prop} {P:Program} {Q:Exit->Act->World->Prop} {l:List Oper} {hs:List Tmp} {a0:Act} {w0:World} {V:Nat->Value->World->Prop}:
  ∀(r:List Oper) (i:Nat),StepsK R J P Q l hs a0 w0 V r i->∀j o,r[j]? =some o->StepK R J P Q l hs a0 w0 V (i+j) o
 | [],_,_,j,o,h=>by simp at h
 | x :: r,i,h,0,o,hj=>by simp at hj;subst hj;exact h.1
 | x :: r,i,h,j+1,o,hj=>by
  have:=StepsK.get r (i+1) h.2 j o (by simpa using hj)
  rw [show i+(j+1)=i+1+j from by omega];exact this
section
variable {R:World->World->Prop} {J:(Nat->Bool)->(Nat->Value)->World->Prop} {P:Program} {Q:Exit->Act->World->Prop} {l:List Oper} {n:Nat} {a0:Act} {w0:World} {V:Nat->Value->World->Prop}
theorem heads_K (hRt:∀a b c,R a b->R b c->R a c) (hB:regK l n=true)
  (hmono:∀i v w w',V i v w->R w w'->V i v w')
  (hsteps:StepsK R J P Q l (dstsOf (l.take n)) a0 w0 V (l.take n) 0)
  (hend:∀(u:Nat->Value) (w:World),R w0 w->J (fun j=>decide (j < n)) u w->(∀j,j < n->Yld l V u w j)->wpList P l.toArray Q (l.drop n) (fillAct a0 (dstsOf (l.take n)) u) w):
  ∀(f:Nat) (listed:Array Bool) (u:Nat->Value) (w:World),HeadInv .any l.toArray n listed->(List.range n).countP (fun j=>listed.getD j false)+f=n->
   (∀t,t ∉ dstsOf (l.take n)->u t=a0.tmps.getD t undef)->R w0 w->J (fun j=>listed.getD j false) u w->(∀j,j < n->listed.getD j false=true->Yld l V u w j)->
   wpAny P .any l.toArray Q (f+(l.length - n)) listed (fillAct a0 (dstsOf (l.take n)) u) w:=by
 simp only [regK,Bool.and_eq_true,Bool.or_eq_true,decide_eq_true_eq]at hB
 obtain⟨⟨⟨⟨hn,hsc⟩,hb⟩,hdist⟩,hseq⟩:=hB
 intro f
 induction f with
 | zero=>
  intro listed u w inv hcnt hu hext hJ hy
  rw [Nat.zero_add]
  have hall:=cnt_all (fun j=>listed.getD j false) n (by omega)
  have hl:listed=trues l.length n:=by
   have hsz:listed.size=l.length:=by rw [inv.size];simp
   refine Array.ext (by rw [hsz];simp [trues]) fun j h1 h2=> ?_
   simp only [trues,List.getElem_toArray,List.getElem_map,List.getElem_range]
   by_cases hj:j < n
   ·have:=hall j hj
    simp [h1]at this
    simp [hj,this]
   ·have:=inv.tail j (by omega) (by simp;omega)
    simp [h1]at this
    simp [hj,this]
  have hJe:(fun j=>listed.getD j false)=fun j=>decide (j < n):=by
   funext j
   by_cases hj:j < n
   ·rw [hall j hj];simp [hj]
   ·have h2:decide (j < n)=false:=decide_eq_false hj
    rw [h2,hl]
    by_cases hjl:j < l.length
    ·simp [trues,hjl,hj]
    ·simp [trues,hjl]
  rw [hJe]at hJ
  have hw:=hend u w hext hJ (fun j hj=>hy j hj (hall j hj))
  have:=wpAny_of_seq (P:=P) (md:= .any) (ops:=l.toArray) (Q':=Q) (l.drop n) n listed (fillAct a0 (dstsOf (l.take n)) u) w (fun j=>by simp [List.getElem?_drop])
   (by rw [List.length_drop,hl];exact hseq) hw
  rwa [List.length_drop]at this
 | succ f ih=>
  intro listed u w inv hcnt hu hext hJ hy
  rw [show f+1+(l.length - n)=(f+(l.length - n))+1 from by omega]
  obtain⟨i0,hi0,hun0,hmin⟩:=cnt_lt (fun j=>listed.getD j false) n (by omega)
  have hlsz:listed.size=l.length:=by rw [inv.size];simp
  have hun0':listed.getD i0 true=false:=getD_in (by omega) hun0
  have hready:i0∈Region.ready .any l.toArray listed:=by
   refine mem_ready.2 ⟨hun0',l[i0]'(by omega),by simp,fun e he hbe=> ?_⟩
   have h1:=List.all_eq_true.1 hb (l[i0]'(by omega),i0) (by
    rw [List.mem_zipIdx_iff_getElem?];simp)
   have h2:=List.all_eq_true.1 h1 e (by simpa using he)
   simp only [hbe,Bool.not_true,Bool.false_or,decide_eq_true_eq]at h2
   exact hmin e.on h2
  refine⟨fun h=>(by rw [h]at hready;cases hready),fun i hi=> ?_⟩
  have hin:i < n:=by
   rcases Nat.lt_or_ge i n with h | h
   ·exact h
   ·rcases hsc with hsc | ⟨⟨hlt,hs⟩,hc⟩
    ·obtain⟨_,o,ho,_⟩:=mem_ready.1 hi
     have:=(Array.getElem?_eq_some_iff.1 ho).1
     simp at this;omega
    ·exact absurd hi (tail_waits hs hc (by simpa using hlt) inv _ i0 rfl hi0 hun0' i h)
  obtain⟨hui,o,ho,hall⟩:=mem_ready.1 hi
  have ho':(l.take n)[i]? =some o:=by
   rw [List.getElem?_take,if_pos hin];simpa using ho
  have hol:l[i]? =some o:=by simpa using ho
  have hst:=hsteps.get _ 0 i o ho'
  rw [Nat.zero_add]at hst
  have hcl:∀j oj,l[j]? =some oj->(fun j=>listed.getD j false) j=true->∀e∈oj.after.toList,Region.binds .any e=true->(fun j=>listed.getD j false) e.on=true:=fun j oj hoj hlj e he hbe=>
   inv.closed j oj (by simpa using hoj) hlj e (by simpa using he) hbe
  have hallR:∀e∈o.after.toList,Region.binds .any e=true->(fun j=>listed.getD j false) e.on=true:=fun e he hbe=>hall e (by simpa using he) hbe
  have hunf:listed.getD i false=false:=getD_both hui
  have hanc:∀j,ancK l l.length j i=true->(fun j=>listed.getD j false) j=true:=fun j hj=>ancK_ready hcl _ j i hol hallR hj
  have hdes:∀j,ancK l l.length i j=true->(fun j=>listed.getD j false) j=false:=fun j hj=>by
   rcases Bool.eq_false_or_eq_true (listed.getD j false)with hlj | hlj
   ·have:=ancK_done hcl _ i j hj hlj
    simp only [hunf]at this
    cases this
   ·exact hlj
  have hdeps:DepsOk2 l V u w o.after.toList:=DepsOk2.of _ fun e he hbe=>by
   have hle:=hall e (by simpa using he) hbe
   have h1:=List.all_eq_true.1 hb (o,i) (by rw [List.mem_zipIdx_iff_getElem?];simpa using hol)
   have h2:=List.all_eq_true.1 h1 e he
   simp only [hbe,Bool.not_true,Bool.false_or,decide_eq_true_eq]at h2
   exact hy e.on (by omega) hle
  have hmemd:∀d,o.dst=some d->d∈dstsOf (l.take n):=fun d hd=>by
   refine List.mem_filterMap.2 ⟨o,List.mem_of_getElem? ho',hd⟩
  have hdd:∀j d,j < n->(l[j]?).bind (·.dst)=some d->o.dst=some d->j=i:=fun j d hj h1 h2=>by
   have hd1:((l.take n).map (·.dst))[i]? =some (some d):=by rw [List.getElem?_map,ho'];simp [h2]
   have hd2:((l.take n).map (·.dst))[j]? =some (some d):=by
    rw [List.getElem?_map,List.getElem?_take,if_pos hj]
    cases hlj:l[j]? with
    | none=>rw [hlj]at h1;cases h1
    | some oj=>rw [hlj]at h1;simpa using h1
   exact distB_spec _ hdist j i d hd2 hd1
  have hupd:(fun j=>(listed.setIfInBounds i true).getD j false)=upd (fun j=>listed.getD j false) i:=by
   funext j
   unfold upd
   by_cases e:j=i
   ·subst e;rw [if_pos rfl];simp [show j < listed.size by omega]
   ·rw [if_neg e];exact getD_set_ne false (Ne.symm e)
  have hnext:∀a' w',(∃v,a'=(fillAct a0 (dstsOf (l.take n)) u).put o.dst v/\R w w'/\J (upd (fun j=>listed.getD j false) i) (updv o.dst u v) w'/\(o.dst.isSome=true->V i v w'))->
    wpAny P .any l.toArray Q (f+(l.length - n)) (listed.setIfInBounds i true) a' w':=by
   rintro a' w' ⟨v,rfl,hww,hJ',hv⟩
   have hcnt':(List.range n).countP (fun j=>(listed.setIfInBounds i true).getD j false)+f=n:=by
    rw [cnt_set (fun j=>listed.getD j false) (fun j=>(listed.setIfInBounds i true).getD j false) i (getD_both hui) (by simp [show i < listed.size by omega]) (fun j hj=>getD_set_ne false (Ne.symm hj)) n hin]
    omega
   have inv':=inv.set hi hin
   rw [<-hupd]at hJ'
   cases hd:o.dst with
   | none=>
    simp only [Act.put]
    rw [hd]at hJ'
    refine ih _ u w' inv' hcnt' hu (hRt _ _ _ hext hww) hJ' fun j hj hlj=> ?_
    by_cases e:j=i
    ·subst e
     simp only [Yld,hol,Option.bind_some,hd]
    ·rw [getD_set_ne false (Ne.symm e)]at hlj
     exact(hy j hj hlj).monoR hmono hww
   | some d=>
    rw [fillAct_put _ _ _ _ _ (hmemd d hd)]
    rw [hd]at hJ'
    refine ih _ _ w' inv' hcnt' (fun t ht=> ?_) (hRt _ _ _ hext hww) hJ' fun j hj hlj=> ?_
    ·rw [if_neg (fun q=>ht (by rw [q];exact hmemd d hd))];exact hu t ht
    by_cases e:j=i
    ·subst e
     simp only [Yld,hol,Option.bind_some,hd,if_true]
     exact hv (by rw [hd];rfl)
    ·rw [getD_set_ne false (Ne.symm e)]at hlj
     exact((hy j hj hlj).monoR hmono hww).upd (fun q=>e (hdd j d hj q hd))
  have hstep:=hst _ u w hu hext hJ hanc hdes hunf hdeps _ hnext
  unfold wpOp
  simp only [ho]
  split
  ·rename_i hw;rw [if_pos hw]at hstep;exact .inl hstep
  ·rename_i hw;rw [if_neg hw]at hstep;exact hstep
theorem wp_region_hK {id:Nat} (n:Nat) (V:Nat->Value->World->Prop) (hRt:∀a b c,R a b->R b c->R a c) (hm:P.follows .mixedOrders=true) (hB:regK l n=true)
  (hmono:∀i v w w',V i v w->R w w'->V i v w') (hR0:R w0 w0.drew) (hJ0:J (fun _=>false) (fun t=>a0.tmps.getD t undef) w0.drew)
  (hsteps:StepsK R J P Q l (dstsOf (l.take n)) a0 w0 V (l.take n) 0)
  (hend:∀(u:Nat->Value) (w:World),R w0 w->J (fun j=>decide (j < n)) u w->(∀j,j < n->Yld l V u w j)->wpList P l.toArray Q (l.drop n) (fillAct a0 (dstsOf (l.take n)) u) w):
  (Code.region id l.toArray true).wp P Q a0 w0:=by
 refine wp_region_any hm ?_
 have hu:a0=fillAct a0 (dstsOf (l.take n)) (fun t=>a0.tmps.getD t undef):=by
  refine act_ext (by rw [fillAct_defers]) fun j=> ?_
  rw [fillAct_get]
  split
  ·rename_i h
   simp [h.2]
  ·rfl
 have hn:n<=l.length:=by
  simp only [regK,Bool.and_eq_true,decide_eq_true_eq]at hB
  exact hB.1.1.1.1
 have inv0:HeadInv .any l.toArray n (Array.replicate l.toArray.size false):=
  ⟨by simp,fun j oj _ hl=>(by rw [getD_replicate_false]at hl;cases hl),fun t _ ht=>getD_in (by simpa using ht) (getD_replicate_false _ _)⟩
 have hJ0':J (fun j=>(Array.replicate l.toArray.size false).getD j false) (fun t=>a0.tmps.getD t undef) {w0 with drawn:=w0.drawn+1}:=by
  have:(fun j=>(Array.replicate l.toArray.size false).getD j false)=fun _=>false:=by
   funext j;exact getD_replicate_false _ _
  rw [this];exact hJ0
 have:=heads_K hRt hB hmono hsteps hend n (Array.replicate l.toArray.size false) (fun t=>a0.tmps.getD t undef) {w0 with drawn:=w0.drawn+1} inv0 (by
  have:(List.range n).countP (fun j=>(Array.replicate l.toArray.size false).getD j false)=0:=by
   rw [List.countP_eq_zero]
   intro j _ hq
   rw [getD_replicate_false]at hq
   cases hq
  omega) (fun _ _=>rfl) hR0 hJ0' (fun j _ hl=>by rw [getD_replicate_false]at hl;cases hl)
 rw [<-hu]at this
 rw [show n+(l.length - n)=l.length from by omega]at this
 simpa using this
end
section
variable (R:World->World->Prop) (J:(Nat->Bool)->(Nat->Value)->World->Prop)
def StepEK (P:Program) (l:List Oper) (hs:List Tmp) (a0:Act) (w0:World) (Vs:List (Value->World->Prop)) (i:Nat) (o:Oper):Prop:=
 ∀(d:Nat->Bool) (ev:Nat->Value) (w:World),R w0 w->J d ev w->(∀j,ancK l l.length j i=true->d j=true)->(∀j,ancK l l.length i j=true->d j=false)->d i=false->(∀t,t ∉ hs->ev t=a0.tmps.getD t undef)->DepsE2 l Vs ev w o.after.toList->
  if Region.wanted o (yieldE l ev)=true then GoodX R P w (fun v w'=>Vs.getD i (fun _ _=>True) v w'/\J (upd d i) (updv o.dst ev v) w') ((execOp (evalE ev) o).run P w)else(Vs.getD i (fun _ _=>True) undef w/\J (upd d i) (updv o.dst ev undef) w)
def StepsEK (P:Program) (l:List Oper) (hs:List Tmp) (a0:Act) (w0:World) (Vs:List (Value->World->Prop)):List Oper->Nat->Prop
 | [],_=>True
 | o :: r,i=>StepEK R J P l hs a0 w0 Vs i o/\StepsEK P l hs a0 w0 Vs r (i+1)
end
section
variable {R:World->World->Prop} {J:(Nat->Bool)->(Nat->Value)->World->Prop} {P:Program} {Q:Exit->Act->World->Prop} {l:List Oper} {n:Nat} {a0:Act} {w0:World} {Vs:List (Value->World->Prop)}
theorem StepEK.ok (hRr:∀w,R w w) {hs:List Tmp} {i:Nat} {o:Oper} (hsz:∀t∈hs,t < a0.tmps.size) (hin:∀j oj d,l[j]? =some oj->oj.dst=some d->(∃e∈o.after.toList,Region.binds .any e=true/\e.on=j)->d∈hs)
  (h:StepEK R J P l hs a0 w0 Vs i o):StepK R J P Q l hs a0 w0 (fun i=>Vs.getD i (fun _ _=>True)) i o:=by
 intro d u w hu hext hJ hanc hdes hni hdeps K hK
 have hev:∀d,d∈hs->(fillAct a0 hs u).tmps.getD d undef=u d:=fun d hd=>by
  rw [Array.getD_eq_getD_getElem?,fillAct_get,if_pos ⟨hd,hsz d hd⟩];rfl
 have hevu:(fun t=>(fillAct a0 hs u).tmps.getD t undef)=u:=by
  funext t
  by_cases ht:t∈hs
  ·exact hev t ht
  ·rw [Array.getD_eq_getD_getElem?,fillAct_get,if_neg (fun q=>ht q.1),hu t ht,Array.getD_eq_getD_getElem?]
 have hD:∀(es:List Edge),(∀e∈es,e∈o.after.toList)->DepsOk2 l (fun i=>Vs.getD i (fun _ _=>True)) u w es->DepsE2 l Vs (fun t=>(fillAct a0 hs u).tmps.getD t undef) w es:=by
  intro es
  induction es with
  | nil=>intro _ _;trivial
  | cons e r ih=>
   intro hm hd
   refine⟨?_,ih (fun x hx=>hm x (by simp [hx])) hd.2⟩
   have h1:=hd.1
   have key:Region.binds .any e=true->Yld l (fun i=>Vs.getD i (fun _ _=>True)) u w e.on->(match (l[e.on]?).bind (·.dst)with | some d=>Vs.getD e.on (fun _ _=>True) ((fillAct a0 hs u).tmps.getD d undef) w | none=>True):=fun hbe h1=>by
    unfold Yld at h1
    cases hl:(l[e.on]?)with
    | none=>simp
    | some oj=>
     simp only [hl,Option.bind_some]at h1⊢
     cases hdj:oj.dst with
     | none=>simp
     | some d=>
      simp only [hdj]at h1⊢
      rw [hev d (hin e.on oj d hl hdj ⟨e,hm e (by simp),hbe,rfl⟩)]
      exact h1
   have hbe:Region.binds .any e=(match e.ground with | .textOnly _=>false | .gcOnly _=>false | _=>true):=by
    unfold Region.binds;cases e.ground<;>rfl
   generalize e.ground=gg at h1 hbe⊢
   cases gg<;>first | trivial | exact key hbe h1
 have hg:=h d (fun t=>(fillAct a0 hs u).tmps.getD t undef) w hext (by rw [hevu];exact hJ) hanc hdes hni (fun t ht=>by
  rw [Array.getD_eq_getD_getElem?,fillAct_get,if_neg (fun q=>ht q.1),Array.getD_eq_getD_getElem?]) (hD _ (fun _ h=>h) hdeps)
 rw [yield_fill]
 have hevK:∀v,updv o.dst (fun t=>(fillAct a0 hs u).tmps.getD t undef) v=updv o.dst u v:=fun v=>by rw [hevu]
 split
 ·rename_i hw
  rw [if_pos hw]at hg
  exact wp_of_goodX (eval_fill a0 hs u) hg fun v w' h1 h2=>by
   cases hd:o.dst with
   | none=>exact hK _ _ ⟨v,by rw [hd],h1,by rw [<-hevK];exact h2.2,fun q=>by rw [hd]at q;cases q⟩
   | some d=>exact hK _ _ ⟨v,by rw [hd],h1,by rw [<-hevK];exact h2.2,fun _=>h2.1⟩
 ·rename_i hw
  rw [if_neg hw]at hg
  exact hK _ _ ⟨undef,rfl,hRr _,by rw [<-hevK];exact hg.2,fun _=>hg.1⟩
theorem StepsEK.ok (hRr:∀w,R w w) {hs:List Tmp} (hsz:∀t∈hs,t < a0.tmps.size):∀(r:List Oper) (i:Nat),(∀(j:Nat) (o:Oper),r[j]? =some o->∀(k:Nat) (oj:Oper) (d:Tmp),l[k]? =some oj->oj.dst=some d->(∃e∈o.after.toList,Region.binds .any e=true/\e.on=k)->d∈hs)->
  StepsEK R J P l hs a0 w0 Vs r i->StepsK R J P Q l hs a0 w0 (fun i=>Vs.getD i (fun _ _=>True)) r i
 | [],_,_,_=>trivial
 | o :: r,i,hin,h=>⟨StepEK.ok hRr hsz (hin 0 o (by simp)) h.1,StepsEK.ok hRr hsz r (i+1) (fun j o' hj=>hin (j+1) o' (by simpa using hj)) h.2⟩
theorem wp_region_evK {id:Nat} (R:World->World->Prop) (J:(Nat->Bool)->(Nat->Value)->World->Prop) (n:Nat) (hs:List Tmp) (Vs:List (Value->World->Prop)) (hRr:∀w,R w w) (hRt:∀a b c,R a b->R b c->R a c) (hm:P.follows .mixedOrders=true) (hB:regK l n=true) (hhs:dstsOf (l.take n)=hs) (hsz:sizeB a0 hs=true)
  (hmono:MonoR R Vs) (hR0:R w0 w0.drew) (hJ0:J (fun _=>false) (fun t=>a0.tmps.getD t undef) w0.drew)
  (hsteps:StepsEK R J P l hs a0 w0 Vs (l.take n) 0)
  (hend:∀(u:Nat->Value) (w:World),R w0 w->J (fun j=>decide (j < n)) u w->EndE l Vs u w n->wpList P l.toArray Q (l.drop n) (fillAct a0 hs u) w):
  (Code.region id l.toArray true).wp P Q a0 w0:=by
 subst hhs
 have hback:∀(i:Nat) (o:Oper),(l.take n)[i]? =some o->∀e∈o.after.toList,Region.binds .any e=true->e.on < i:=fun i o ho e he hbe=>by
  have hB':=hB
  simp only [regK,Bool.and_eq_true,decide_eq_true_eq]at hB'
  obtain⟨⟨⟨⟨hn,hsc⟩,hb⟩,hdist⟩,hseq⟩:=hB'
  have hin:i < n:=by
   have:=(List.getElem?_eq_some_iff.1 ho).1
   simp at this;omega
  have hol:l[i]? =some o:=by rw [List.getElem?_take,if_pos hin]at ho;exact ho
  have h1:=List.all_eq_true.1 hb (o,i) (by rw [List.mem_zipIdx_iff_getElem?];simpa using hol)
  have h2:=List.all_eq_true.1 h1 e he
  simp only [hbe,Bool.not_true,Bool.false_or,decide_eq_true_eq]at h2
  exact h2
 refine wp_region_hK n (fun i=>Vs.getD i (fun _ _=>True)) hRt hm hB (MonoR.get Vs hmono) hR0 hJ0 (StepsEK.ok hRr (fun t ht=>by
   have:=List.all_eq_true.1 hsz t ht;simpa using this) _ 0 ?_ hsteps) (fun u w h1 h3 h2=>hend u w h1 h3 (EndE.of n h2))
 rintro i o ho k oj d hk hd ⟨e,he,hbe,rfl⟩
 have hlt:=hback i o ho e he hbe
 have hin:i < n:=by
  have:=(List.getElem?_eq_some_iff.1 ho).1
  simp at this;omega
 refine List.mem_filterMap.2 ⟨oj,List.mem_of_getElem? (i:=e.on) ?_,hd⟩
 rw [List.getElem?_take,if_pos (by omega)];exact hk
end
variable {lr nf:Nat}
theorem wpAnyIn_of_seq {P:Program} {md:Region.Mode} {ops:Array Oper} {Q':Exit->Act->World->Prop}:∀(l:List Oper) (k:Nat) (listed:Array Bool) (a:Act) (w:World),(∀j:Nat,l[j]? =ops[k+j]?)->
  Region.seqB md ops l.length k listed=true->wpListIn (Fence.wide.inRound lr) nf P ops Q' l a w->wpAnyIn (Fence.wide.inRound lr) nf P md ops Q' l.length listed a w
 | [],_,_,_,_,_,hB,h=>⟨by simpa [Region.seqB] using hB,h⟩
 | o :: l,k,listed,a,w,hl,hB,h=>by
  have h0:ops[k]? =some o:=by simpa using (hl 0).symm
  simp only [List.length_cons,Region.seqB,Bool.and_eq_true,decide_eq_true_eq]at hB
  refine⟨fun h1=>(by rw [hB.1]at h1;cases h1),fun i hi=> ?_⟩
  rw [hB.1]at hi
  have hik:i=k:=by simpa using hi
  subst hik
  have hw:wpOpIn (Fence.wide.inRound lr) nf P ops Q' i (wpListIn (Fence.wide.inRound lr) nf P ops Q' l) a w:=by unfold wpOpIn;simp only [h0];exact h
  exact wpOpIn_mono (fun a' w' h'=>wpAnyIn_of_seq l (i+1) _ a' w' (fun j=>by have:=hl (j+1);simpa [Nat.add_assoc,Nat.add_comm 1 j] using this) hB.2 h') hw
def StepOkIn (lr nf:Nat) (P:Program) (Q:Exit->Act->World->Prop) (l:List Oper) (hs:List Tmp) (a0:Act) (w0:World) (V:Nat->Value->World->Prop) (i:Nat) (o:Oper):Prop:=
 ∀(u:Nat->Value) (w:World),Ext w0 w->DepsOk l V u w o.after.toList->∀K:Act->World->Prop,
  (∀a' w',(∃v,a'=(fillAct a0 hs u).put o.dst v/\Ext w w'/\(o.dst.isSome=true->V i v w'))->K a' w')->
  if Region.wanted o (yielded l.toArray (fillAct a0 hs u).tmps)=true then o.wpIn (Fence.wide.inRound lr) nf P (fillAct a0 hs u) w K Q else K ((fillAct a0 hs u).put o.dst undef) w
def StepsOkIn (lr nf:Nat) (P:Program) (Q:Exit->Act->World->Prop) (l:List Oper) (hs:List Tmp) (a0:Act) (w0:World) (V:Nat->Value->World->Prop):List Oper->Nat->Prop
 | [],_=>True
 | o :: r,i=>StepOkIn lr nf P Q l hs a0 w0 V i o/\StepsOkIn lr nf P Q l hs a0 w0 V r (i+1)
theorem StepsOkIn.get {P:Program} {Q:Exit->Act->World->Prop} {l:List Oper} {hs:List Tmp} {a0:Act} {w0:World} {V:Nat->Value->World->Prop}:
  ∀(r:List Oper) (i:Nat),StepsOkIn lr nf P Q l hs a0 w0 V r i->∀j o,r[j]? =some o->StepOkIn lr nf P Q l hs a0 w0 V (i+j) o
 | [],_,_,j,o,h=>by simp at h
 | x :: r,i,h,0,o,hj=>by simp at hj;subst hj;exact h.1
 | x :: r,i,h,j+1,o,hj=>by
  have:=StepsOkIn.get r (i+1) h.2 j o (by simpa using hj)
  rw [show i+(j+1)=i+1+j from by omega];exact this
section
variable {P:Program} {Q:Exit->Act->World->Prop} {l:List Oper} {n:Nat} {a0:Act} {w0:World} {V:Nat->Value->World->Prop}
theorem heads_anyIn (hB:regB l n=true)
  (hmono:∀i v w w',V i v w->Ext w w'->V i v w')
  (hsteps:StepsOkIn lr nf P Q l (dstsOf (l.take n)) a0 w0 V (l.take n) 0)
  (hend:∀(u:Nat->Value) (w:World),Ext w0 w->(∀j,j < n->Yld l V u w j)->wpListIn (Fence.wide.inRound lr) nf P l.toArray Q (l.drop n) (fillAct a0 (dstsOf (l.take n)) u) w):
  ∀(f:Nat) (listed:Array Bool) (u:Nat->Value) (w:World),HeadInv .any l.toArray n listed->(List.range n).countP (fun j=>listed.getD j false)+f=n->
   Ext w0 w->(∀j,j < n->listed.getD j false=true->Yld l V u w j)->
   wpAnyIn (Fence.wide.inRound lr) nf P .any l.toArray Q (f+(l.length - n)) listed (fillAct a0 (dstsOf (l.take n)) u) w:=by
 simp only [regB,Bool.and_eq_true,decide_eq_true_eq]at hB
 obtain⟨⟨⟨⟨⟨⟨hn,hs⟩,hc⟩,hb⟩,hdist⟩,hbinds⟩,hseq⟩:=hB
 intro f
 induction f with
 | zero=>
  intro listed u w inv hcnt hext hy
  rw [Nat.zero_add]
  have hall:=cnt_all (fun j=>listed.getD j false) n (by omega)
  have hl:listed=trues l.length n:=by
   have hsz:listed.size=l.length:=by rw [inv.size];simp
   refine Array.ext (by rw [hsz];simp [trues]) fun j h1 h2=> ?_
   simp only [trues,List.getElem_toArray,List.getElem_map,List.getElem_range]
   by_cases hj:j < n
   ·have:=hall j hj
    simp [h1]at this
    simp [hj,this]
   ·have:=inv.tail j (by omega) (by simp;omega)
    simp [h1]at this
    simp [hj,this]
  have hw:=hend u w hext (fun j hj=>hy j hj (hall j hj))
  have:=wpAnyIn_of_seq (lr:=lr) (nf:=nf) (P:=P) (md:= .any) (ops:=l.toArray) (Q':=Q) (l.drop n) n listed (fillAct a0 (dstsOf (l.take n)) u) w (fun j=>by simp [List.getElem?_drop])
   (by rw [List.length_drop,hl];exact hseq) hw
  rwa [List.length_drop]at this
 | succ f ih=>
  intro listed u w inv hcnt hext hy
  rw [show f+1+(l.length - n)=(f+(l.length - n))+1 from by omega]
  obtain⟨i0,hi0,hun0,hmin⟩:=cnt_lt (fun j=>listed.getD j false) n (by omega)
  have hlsz:listed.size=l.length:=by rw [inv.size];simp
  have hun0':listed.getD i0 true=false:=getD_in (by omega) hun0
  have hready:i0∈Region.ready .any l.toArray listed:=by
   refine mem_ready.2 ⟨hun0',l[i0]'(by omega),by simp,fun e he hbe=> ?_⟩
   have h1:=List.all_eq_true.1 hb (l[i0]'(by omega),i0) (by
    rw [List.mem_zipIdx_iff_getElem?];simp)
   have h2:=List.all_eq_true.1 h1 e (by simpa using he)
   simp only [hbe,Bool.not_true,Bool.false_or,decide_eq_true_eq]at h2
   exact hmin e.on h2
  refine⟨fun h=>(by rw [h]at hready;cases hready),fun i hi=> ?_⟩
  have hin:i < n:=by
   rcases Nat.lt_or_ge i n with h | h
   ·exact h
   ·exact absurd hi (tail_waits hs hc (by simpa using hn) inv _ i0 rfl hi0 hun0' i h)
  obtain⟨hui,o,ho,hall⟩:=mem_ready.1 hi
  have ho':(l.take n)[i]? =some o:=by
   rw [List.getElem?_take,if_pos hin];simpa using ho
  have hol:l[i]? =some o:=by simpa using ho
  have hst:=hsteps.get _ 0 i o ho'
  rw [Nat.zero_add]at hst
  have hdeps:DepsOk l V u w o.after.toList:=DepsOk.of _ fun e he=>by
   have hbe:Region.binds .any e=true:=by
    have h1:=List.all_eq_true.1 hbinds o (List.mem_of_getElem? hol)
    exact List.all_eq_true.1 h1 e he
   have hle:=hall e (by simpa using he) hbe
   have h1:=List.all_eq_true.1 hb (o,i) (by rw [List.mem_zipIdx_iff_getElem?];simpa using hol)
   have h2:=List.all_eq_true.1 h1 e he
   simp only [hbe,Bool.not_true,Bool.false_or,decide_eq_true_eq]at h2
   exact hy e.on (by omega) hle
  have hmemd:∀d,o.dst=some d->d∈dstsOf (l.take n):=fun d hd=>by
   refine List.mem_filterMap.2 ⟨o,List.mem_of_getElem? ho',hd⟩
  have hdd:∀j d,j < n->(l[j]?).bind (·.dst)=some d->o.dst=some d->j=i:=fun j d hj h1 h2=>by
   have hd1:((l.take n).map (·.dst))[i]? =some (some d):=by rw [List.getElem?_map,ho'];simp [h2]
   have hd2:((l.take n).map (·.dst))[j]? =some (some d):=by
    rw [List.getElem?_map,List.getElem?_take,if_pos hj]
    cases hlj:l[j]? with
    | none=>rw [hlj]at h1;cases h1
    | some oj=>rw [hlj]at h1;simpa using h1
   exact distB_spec _ hdist j i d hd2 hd1
  have hnext:∀a' w',(∃v,a'=(fillAct a0 (dstsOf (l.take n)) u).put o.dst v/\Ext w w'/\(o.dst.isSome=true->V i v w'))->
    wpAnyIn (Fence.wide.inRound lr) nf P .any l.toArray Q (f+(l.length - n)) (listed.setIfInBounds i true) a' w':=by
   rintro a' w' ⟨v,rfl,hww,hv⟩
   have hcnt':(List.range n).countP (fun j=>(listed.setIfInBounds i true).getD j false)+f=n:=by
    rw [cnt_set (fun j=>listed.getD j false) (fun j=>(listed.setIfInBounds i true).getD j false) i (getD_both hui) (by simp [show i < listed.size by omega]) (fun j hj=>getD_set_ne false (Ne.symm hj)) n hin]
    omega
   have inv':=inv.set hi hin
   cases hd:o.dst with
   | none=>
    simp only [Act.put]
    refine ih _ u w' inv' hcnt' (hext.trans hww) fun j hj hlj=> ?_
    by_cases e:j=i
    ·subst e
     simp only [Yld,hol,Option.bind_some,hd]
    ·rw [getD_set_ne false (Ne.symm e)]at hlj
     exact(hy j hj hlj).mono hmono hww
   | some d=>
    rw [fillAct_put _ _ _ _ _ (hmemd d hd)]
    refine ih _ _ w' inv' hcnt' (hext.trans hww) fun j hj hlj=> ?_
    by_cases e:j=i
    ·subst e
     simp only [Yld,hol,Option.bind_some,hd,if_true]
     exact hv (by rw [hd];rfl)
    ·rw [getD_set_ne false (Ne.symm e)]at hlj
     exact((hy j hj hlj).mono hmono hww).upd (fun q=>e (hdd j d hj q hd))
  have hstep:=hst u w hext hdeps _ hnext
  unfold wpOpIn
  simp only [ho]
  split
  ·rename_i hw;rw [if_pos hw]at hstep;exact hstep
  ·rename_i hw;rw [if_neg hw]at hstep;exact⟨fun _ _=>trivial,hstep⟩
theorem wpIn_region_heads {id:Nat} (n:Nat) (V:Nat->Value->World->Prop) (hm:P.follows .mixedOrders=true) (hB:regB l n=true)
  (hmono:∀i v w w',V i v w->Ext w w'->V i v w')
  (hsteps:StepsOkIn lr nf P Q l (dstsOf (l.take n)) a0 w0 V (l.take n) 0)
  (hend:∀(u:Nat->Value) (w:World),Ext w0 w->(∀j,j < n->Yld l V u w j)->wpListIn (Fence.wide.inRound lr) nf P l.toArray Q (l.drop n) (fillAct a0 (dstsOf (l.take n)) u) w):
  (Code.region id l.toArray true).wpIn (Fence.wide.inRound lr) nf P Q a0 w0:=by
 refine wpIn_region_any hm ?_
 obtain⟨u,hu⟩:=fillAct_self a0 (dstsOf (l.take n))
 have hn:n < l.length:=by
  simp only [regB,Bool.and_eq_true,decide_eq_true_eq]at hB
  exact hB.1.1.1.1.1.1
 have inv0:HeadInv .any l.toArray n (Array.replicate l.toArray.size false):=
  ⟨by simp,fun j oj _ hl=>(by rw [getD_replicate_false]at hl;cases hl),fun t _ ht=>getD_in (by simpa using ht) (getD_replicate_false _ _)⟩
 have:=heads_anyIn hB hmono hsteps hend n (Array.replicate l.toArray.size false) u {w0 with drawn:=w0.drawn+1} inv0 (by
  have:(List.range n).countP (fun j=>(Array.replicate l.toArray.size false).getD j false)=0:=by
   rw [List.countP_eq_zero]
   intro j _ hq
   rw [getD_replicate_false]at hq
   cases hq
  omega) ((Below.refl _ _).drew) (fun j _ hl=>by rw [getD_replicate_false]at hl;cases hl)
 rw [<-hu]at this
 rw [show n+(l.length - n)=l.length from by omega]at this
 simpa using this
end
def notDefer:Op->Bool
 | .defer _=>false
 | _=>true
theorem notDefer_spec {o:Op} (h:notDefer o=true):∀c,o≠ .defer c:=by
 intro c q;rw [q]at h;cases h
theorem wpIn_of_goodR {P:Program} {o:Oper} {a:Act} {w:World} {K:Act->World->Prop} {Q:Exit->Act->World->Prop} {φ :Value->World->Prop} {ev:Nat->Value}
  (hd:∀c,o.op≠ .defer c) (he:a.eval=evalE ev) (h:GoodR P w φ ((execOp (evalE ev) o).run P w)) (hK:∀v w',Ext w w'-> φ v w'->K (a.put o.dst v) w'):o.wpIn (Fence.wide.inRound lr) nf P a w K Q:=by
 refine⟨fun f _=>trivial,?_⟩
 rw [show(Fence.wide.inRound lr).round=some lr from rfl,Oper.semAt_some lr _ _ hd,he]
 generalize (execOp (evalE ev) o).run P w=r at*
 cases r with
 | ok x w'=>
  cases x<;>simp only [GoodR]at h<;>simp only [Oper.uponIn]
  case value v=>exact hK _ _ h.1 h.2
  case skip=>exact hK _ _ h.1 h.2
  case enter f args=>
   exact⟨fun q=>by simp [Fence.wide]at q,CallsIn.inRound lr (callsIn_wide.2 (h.mono fun e w'' ⟨v,hv,h1,h2⟩=>by subst hv;exact hK _ _ h1 h2))⟩
 | halt x w'=>simp only [GoodR]at h
section
variable {P:Program} {Q:Exit->Act->World->Prop} {l:List Oper} {n:Nat} {a0:Act} {w0:World} {Vs:List (Value->World->Prop)}
theorem StepE.okIn {hs:List Tmp} {i:Nat} {o:Oper} (hdf:notDefer o.op=true) (hsz:∀t∈hs,t < a0.tmps.size) (hin:∀j oj d,l[j]? =some oj->oj.dst=some d->(∃e∈o.after.toList,e.on=j)->d∈hs)
  (h:StepE P l hs a0 w0 Vs i o):StepOkIn lr nf P Q l hs a0 w0 (fun i=>Vs.getD i (fun _ _=>True)) i o:=by
 intro u w hext hdeps K hK
 have hev:∀d,d∈hs->(fillAct a0 hs u).tmps.getD d undef=u d:=fun d hd=>by
  rw [Array.getD_eq_getD_getElem?,fillAct_get,if_pos ⟨hd,hsz d hd⟩];rfl
 have hD:∀(es:List Edge),(∀e∈es,e∈o.after.toList)->DepsOk l (fun i=>Vs.getD i (fun _ _=>True)) u w es->DepsE l Vs (fun t=>(fillAct a0 hs u).tmps.getD t undef) w es:=by
  intro es
  induction es with
  | nil=>intro _ _;trivial
  | cons e r ih=>
   intro hm hd
   refine⟨?_,ih (fun x hx=>hm x (by simp [hx])) hd.2⟩
   have h1:=hd.1
   unfold Yld at h1
   cases hl:(l[e.on]?)with
   | none=>simp
   | some oj=>
    simp only [hl,Option.bind_some]at h1⊢
    cases hdj:oj.dst with
    | none=>simp
    | some d=>
     simp only [hdj]at h1⊢
     rw [hev d (hin e.on oj d hl hdj ⟨e,hm e (by simp),rfl⟩)]
     exact h1
 have hg:=h (fun t=>(fillAct a0 hs u).tmps.getD t undef) w hext (fun t ht=>by
  rw [Array.getD_eq_getD_getElem?,fillAct_get,if_neg (fun q=>ht q.1),Array.getD_eq_getD_getElem?]) (hD _ (fun _ h=>h) hdeps)
 unfold Good at hg
 rw [yield_fill]
 split
 ·rename_i hw
  rw [if_pos hw]at hg
  exact wpIn_of_goodR (notDefer_spec hdf) (eval_fill a0 hs u) hg fun v w' h1 h2=>by
   cases hd:o.dst with
   | none=>exact hK _ _ ⟨v,by rw [hd],h1,fun q=>by rw [hd]at q;cases q⟩
   | some d=>exact hK _ _ ⟨v,by rw [hd],h1,fun _=>h2⟩
 ·rename_i hw
  rw [if_neg hw]at hg
  exact hK _ _ ⟨undef,rfl,Below.refl _ _,fun _=>hg⟩
theorem StepsE.okIn {hs:List Tmp} (hsz:∀t∈hs,t < a0.tmps.size):∀(r:List Oper) (i:Nat),(∀o∈r,notDefer o.op=true)->(∀(j:Nat) (o:Oper),r[j]? =some o->∀(k:Nat) (oj:Oper) (d:Tmp),l[k]? =some oj->oj.dst=some d->(∃e∈o.after.toList,e.on=k)->d∈hs)->
  StepsE P l hs a0 w0 Vs r i->StepsOkIn lr nf P Q l hs a0 w0 (fun i=>Vs.getD i (fun _ _=>True)) r i
 | [],_,_,_,_=>trivial
 | o :: r,i,hdf,hin,h=>⟨StepE.okIn (hdf o (by simp)) hsz (hin 0 o (by simp)) h.1,StepsE.okIn hsz r (i+1) (fun x hx=>hdf x (by simp [hx])) (fun j o' hj=>hin (j+1) o' (by simpa using hj)) h.2⟩
theorem wpIn_region_ev {id:Nat} (n:Nat) (hs:List Tmp) (Vs:List (Value->World->Prop)) (hm:P.follows .mixedOrders=true) (hB:regB l n=true) (hhs:dstsOf (l.take n)=hs) (hsz:sizeB a0 hs=true) (hdf:(l.all fun o=>notDefer o.op)=true)
  (hmono:MonoL Vs)
  (hsteps:StepsE P l hs a0 w0 Vs (l.take n) 0)
  (hend:∀(u:Nat->Value) (w:World),Ext w0 w->EndE l Vs u w n->wpListIn (Fence.wide.inRound lr) nf P l.toArray Q (l.drop n) (fillAct a0 hs u) w):
  (Code.region id l.toArray true).wpIn (Fence.wide.inRound lr) nf P Q a0 w0:=by
 subst hhs
 have hback:∀(i:Nat) (o:Oper),(l.take n)[i]? =some o->∀e∈o.after.toList,e.on < i:=fun i o ho e he=>by
  have hB':=hB
  simp only [regB,Bool.and_eq_true,decide_eq_true_eq]at hB'
  obtain⟨⟨⟨⟨⟨⟨hn,hs⟩,hc⟩,hb⟩,hdist⟩,hbinds⟩,hseq⟩:=hB'
  have hin:i < n:=by
   have:=(List.getElem?_eq_some_iff.1 ho).1
   simp at this;omega
  have hol:l[i]? =some o:=by rw [List.getElem?_take,if_pos hin]at ho;exact ho
  have h1:=List.all_eq_true.1 hb (o,i) (by rw [List.mem_zipIdx_iff_getElem?];simpa using hol)
  have h2:=List.all_eq_true.1 h1 e he
  have h3:=List.all_eq_true.1 hbinds o (List.mem_of_getElem? hol)
  have h4:=List.all_eq_true.1 h3 e he
  simp only [h4,Bool.not_true,Bool.false_or,decide_eq_true_eq]at h2
  exact h2
 refine wpIn_region_heads n (fun i=>Vs.getD i (fun _ _=>True)) hm hB (MonoL.get Vs hmono) (StepsE.okIn (fun t ht=>by
   have:=List.all_eq_true.1 hsz t ht;simpa using this) _ 0 (fun o ho=>List.all_eq_true.1 hdf o (List.mem_of_mem_take ho)) ?_ hsteps) (fun u w h1 h2=>hend u w h1 (EndE.of n h2))
 rintro i o ho k oj d hk hd ⟨e,he,rfl⟩
 have hlt:=hback i o ho e he
 have hin:i < n:=by
  have:=(List.getElem?_eq_some_iff.1 ho).1
  simp at this;omega
 refine List.mem_filterMap.2 ⟨oj,List.mem_of_getElem? (i:=e.on) ?_,hd⟩
 rw [List.getElem?_take,if_pos (by omega)];exact hk
end
def bstr (l:List Int):ByteArray:=⟨(l.map fun x=>UInt8.ofNat x.toNat).toArray⟩
theorem bstr_push (l:List Int):∀s:ByteArray,l.foldl (fun r n=>r.push (UInt8.ofNat n.toNat)) s=⟨s.data++(l.map fun x=>UInt8.ofNat x.toNat).toArray⟩:=by
 induction l with
 | nil=>intro s;simp
 | cons x r ih=>
  intro s
  rw [List.foldl_cons,ih]
  simp [ByteArray.push]
theorem bstr_fold (l:List Int):l.foldl (fun r n=>r.push (UInt8.ofNat n.toNat)) ByteArray.empty=bstr l:=by
 rw [bstr_push];simp [bstr,ByteArray.empty,ByteArray.emptyWithCapacity];rfl
theorem u8_ofNat_inj {a b:Nat} (ha:a<=255) (hb:b<=255) (h:UInt8.ofNat a=UInt8.ofNat b):a=b:=by
 have:=congrArg UInt8.toNat h
 simp at this
 omega
theorem bstr_inj:∀ {a b:List Int},Byt a->Byt b->bstr a=bstr b->a=b:=by
 intro a b ha hb h
 have h1:(a.map fun x=>UInt8.ofNat x.toNat)=(b.map fun x=>UInt8.ofNat x.toNat):=by
  have:=congrArg (fun s=>s.data.toList) h
  simpa [bstr] using this
 clear h
 induction a generalizing b with
 | nil=>cases b with
  | nil=>rfl
  | cons=>simp at h1
 | cons x r ih=>
  cases b with
  | nil=>simp at h1
  | cons y t=>
   simp only [List.map_cons,List.cons.injEq]at h1
   have hx:=ha x (by simp)
   have hy:=hb y (by simp)
   have:=u8_ofNat_inj (by omega) (by omega) h1.1
   rw [ih (fun z hz=>ha z (List.mem_cons_of_mem _ hz)) (fun z hz=>hb z (List.mem_cons_of_mem _ hz)) h1.2,show x=y from by omega]
theorem bstr_eq_iff {a b:List Int} (ha:Byt a) (hb:Byt b):(bstr a=bstr b)↔a=b:=⟨bstr_inj ha hb,fun h=>by rw [h]⟩
theorem bstr_beq {a b:List Int} (ha:Byt a) (hb:Byt b):((bstr a).toList==(bstr b).toList)=decide (a=b):=by
 have h:(bstr a).toList=(bstr b).toList↔a=b:=⟨fun h=>by
  rw [ByteArray.toList_eq,ByteArray.toList_eq]at h
  exact bstr_inj ha hb (ByteArray.ext (Array.toList_inj.1 h)),fun h=>by rw [h]⟩
 rw [Bool.eq_iff_iff];simp [h]
theorem conv_bytes {P:Program} {w:World} {v:Value} {l:List Int} {src dst e:TypeId} (h:Rd w .u8 v l)
  (hs:P.underlying src=some (.slice e)) (he:P.underlying e=some (.int .u8)) (hd:P.underlying dst=some .string):
  (convert src dst v).run P w= .ok (.string (bstr l)) w:=by
 rcases h with ⟨⟨p,rfl⟩,hn,hc⟩ | ⟨b,o,c,rfl,hnc,hcm,hr⟩
 ·obtain rfl:l=[]:=List.length_eq_zero_iff.1 hn
  rw [run_convert_bytes_string w src dst e _ _ _ hs he hd]
  cases p<;>rfl
 ·rw [run_convert_bytes_string w src dst e _ _ _ hs he hd,run_bytesToString w ⟨b,o,none⟩ l.length c l,bstr_fold]
  have:=run_loadCells_list (P:=P) (w:=w) ⟨b,o,none⟩ (ints .u8 l) (fun j v hv=>by rw [Addr.add_mid];exact hr j v hv)
  rw [ints_length]at this
  exact this
theorem all_range_eqI:∀(xs ys:List Int),xs.length=ys.length->((List.range xs.length).all fun i=>xs.getD i 0==ys.getD i 0)=decide (xs=ys)
 | [],[],_=>rfl
 | x :: xs,y :: ys,h=>by
  have ih:=all_range_eqI xs ys (by simpa using h)
  rw [List.length_cons,List.range_succ_eq_map,List.all_cons,List.all_map]
  simp only [List.getD_cons_zero,Function.comp_def,List.getD_cons_succ,ih]
  rw [Bool.eq_iff_iff]
  simp
 | [],_ :: _,h=>by simp at h
 | _ :: _,[],h=>by simp at h
theorem eqIn_ints {P:Program} (w:World) (d:Nat) {t e:TypeId} {n:Nat} {k:IntKind} (ht:P.underlying t=some (.array n e)) (he:P.underlying e=some (.int k)) (hsz:∀w,(sizeOf e).run P w= .ok 1 w)
  (xs ys:List Int) (hx:xs.length=n) (hy:ys.length=n):
  (Op.equalIn (d+2) t (.agg (ints k xs).toArray) (.agg (ints k ys).toArray)).run P w= .ok (decide (xs=ys)) w:=by
 rw [<-all_range_eqI xs ys (hx.trans hy.symm),hx,List.range_eq_range',Op.equalIn]
 simp only [Sem.run_bind,run_underlying ht,Result.andThen_ok,hsz,Std.Legacy.Range.forIn_eq_forIn_range',Std.Legacy.Range.size,Nat.sub_zero,Nat.add_sub_cancel,Nat.div_one]
 have hl:∀i∈List.range' 0 n 1,i < n:=fun i hi=>by simpa using (List.mem_range'_1.1 hi).2
 generalize List.range' 0 n 1=l at hl⊢
 induction l with
 | nil=>simp
 | cons i l ih=>
  have hi:i < n:=hl i (by simp)
  have px:(part e (ints k xs).toArray (i*1)).run P w= .ok (.int k (xs.getD i 0)) w:=by
   have:=ints_get k xs i (by omega)
   simp [part,isAgg,run_underlying he,this]
  have py:(part e (ints k ys).toArray (i*1)).run P w= .ok (.int k (ys.getD i 0)) w:=by
   have:=ints_get k ys i (by omega)
   simp [part,isAgg,run_underlying he,this]
  have pe:(Op.equalIn (d+1) e (.int k (xs.getD i 0)) (.int k (ys.getD i 0))).run P w= .ok (xs.getD i 0==ys.getD i 0) w:=run_equalIn_int w d e k k _ _ he
  simp only [List.forIn_cons,Sem.run_bind,px,py,pe,Result.andThen_ok,List.all_cons]
  cases hb:(xs.getD i 0==ys.getD i 0)
  ·simp
  ·simp only [Bool.not_true,Bool.false_eq_true,if_false,Sem.run_pure,Result.andThen_ok,Bool.true_and]
   exact ih fun j hj=>hl j (by simp [hj])
theorem eq10k {P:Program} {t e:TypeId} {n:Nat} {k:IntKind} (ht:P.underlying t=some (.array n e)) (he:P.underlying e=some (.int k)) (hsz:∀w,(sizeOf e).run P w= .ok 1 w)
  (xs ys:List Int) (hx:xs.length=n) (hy:ys.length=n) (w:World):
  (Op.equalIn 10000 t (.agg (ints k xs).toArray) (.agg (ints k ys).toArray)).run P w= .ok (decide (xs=ys)) w:=eqIn_ints w 9998 ht he hsz xs ys hx hy
theorem eq10k_same {P:Program} {t e:TypeId} {n:Nat} {k:IntKind} (ht:P.underlying t=some (.array n e)) (he:P.underlying e=some (.int k)) (hsz:∀w,(sizeOf e).run P w= .ok 1 w)
  (xs:List Int) (hx:xs.length=n) (w:World):
  (Op.equalIn 10000 t (.agg (ints k xs).toArray) (.agg (ints k xs).toArray)).run P w= .ok true w:=by
 rw [eq10k ht he hsz xs xs hx hx w];simp
end Go.Proofs.Bl
namespace Go.Proofs.Bl
open Go
section
variable {P:Program} {ops:Array Oper}
theorem still_of_quiet {w:World} {Q:Act->Prop}:∀(l:List Oper) (a:Act),wpQuiet P ops (fun w'=>w'=w) Q l a->wpStill P ops w Q l a
 | [],_,h=>h
 | o :: rest,a,h=>by
  unfold wpQuiet at h
  unfold wpStill
  by_cases hw:Region.wanted o (yielded ops a.tmps)
  ·rw [if_pos hw]at h⊢
   obtain⟨v,hv,hK⟩:=h
   have h1:=hv w rfl
   unfold Oper.quietAt at h1
   unfold Oper.still
   have h2:=still_of_quiet rest _ hK
   generalize (execOp a.eval o).run P w=r at h1⊢
   unfold Oper.quietUpon at h1
   unfold Oper.stillUpon
   split at h1
   ·obtain⟨h3,h4⟩:=h1;subst h4;exact⟨h3,h2⟩
   ·obtain⟨h3,h4⟩:=h1;subst h4;exact⟨h3,h2⟩
   ·obtain⟨h3,h4⟩:=h1;exact⟨h3,v,h4,h2⟩
   ·exact h1.elim
  ·rw [if_neg hw]at h⊢
   exact still_of_quiet rest _ h
theorem wp_region_qt {id:Nat} {Q:Exit->Act->World->Prop} {a:Act} {w:World} {l:List Oper} (n:Nat) (hm:P.follows .mixedOrders=true) (hB:Region.lexTailB .any l.toArray n=true)
  (h:wpQuiet P l.toArray (fun w'=>w'=w.drewN 1) (fun a'=>wpList P l.toArray Q (l.drop n) a' (w.drewN 1)) (l.take n) a):(Code.region id l.toArray true).wp P Q a w:=
 wp_region_still_tail n hm hB (still_of_quiet _ _ h)
end
end Go.Proofs.Bl
namespace Go.Proofs.Bl
open Go Go.RowKit
theorem madeCells_int (k:IntKind) (n:Nat):(madeCells (Value.int k 0).cells (n*1)).toList=ints k (List.replicate n 0):=by
 apply List.ext_getElem
 ·simp [madeCells]
 ·intro i h1 h2
  simp [madeCells,ints,Value.cells,show i % 1=0 from Nat.mod_one i]
theorem make_ints {P:Program} {t e:TypeId} {k:IntKind} {bytes:Nat} (hT:SlT P t e (.int k 0) 1 bytes) (n:Nat) (hb:bytes*n<=281474976710656) (hm:n<=maxLen) (w:World):
  ∃w',(Instr.makeSlice t (.int .i64 (n:Int)) (.int .i64 (n:Int))).run P w= .ok (.slice (some ⟨w.heap.size,0,none⟩) n n) w'/\
   w'.ownsRow w.heap.size e 1 (.slice (some ⟨w.heap.size,0,none⟩) n n) n (ints k (List.replicate n 0))/\Ext w w'/\w.heap.size < w'.heap.size:=by
 obtain⟨i,hi,hz,hs1,hb1⟩:=info_parts hT.info
 have h63:(n:Int)<=9223372036854775807:=by unfold maxLen at hm;omega
 have hb':(i.bytes:Int)*(n:Int)<=281474976710656:=by
  rw [hb1]
  have h:((bytes*n:Nat):Int)<=281474976710656:=by omega
  rwa [Int.natCast_mul]at h
 have hr:=run_make (P:=P) w t e i (.int k 0) hT.ht hi hz .i64 .i64 n n (by omega) (Int.le_refl _) hb' h63
 simp only [Int.toNat_natCast,hs1]at hr
 refine⟨_,hr,?_,ext_alloc _ _,by simp⟩
 have:=owns_new w e (madeCells (Value.int k 0).cells (n*1)) w.heap.size n 1 (Nat.le_refl _) hm (size_madeCells _ _)
 rwa [madeCells_int]at this
def marks:List Int:=[201,202,203,204,205,206]
theorem rangeAt_grown {w w':World} {row:Option Nat} {b o:Nat} {cs:List Value} (h:w.rangeAt b o cs) (hg:w.grownBy w' row) (hne:row≠some b):w'.rangeAt b o cs:=fun j v hv=>hg.cell (h j v hv) (fun q=>hne q.symm)
def Elt (w:World) (u:Value) (l:List Int) (all inn:Value):Prop:=
 ∃g c,u= .slice (some ⟨g,0,none⟩) l.length c/\l.length+6<=c/\c<=maxLen/\w.rangeAt g 0 (ints .u8 (l++marks))/\all.ownBlock≠some g/\inn.ownBlock≠some g
structure Din (tB tS:TypeId) (w:World) (base:Nat) (all inn:Value) (ps:List (List Int)) (vs:List Value):Prop where
 own:w.ownsRow base tB 1 all ps.flatten.length (ints .u8 ps.flatten)
 rows:w.ownsRow base tS 1 inn ps.length vs
 elts:∀j,j < ps.length->Elt w (vs.getD j undef) (ps.getD j []) all inn
 ne:∀q,all.ownBlock=some q->inn.ownBlock≠some q
theorem rds_val (w:World) (e:TypeId) (v:Value):Rds (w.alloc (.cells #[v] e)) (.slice (some ⟨w.heap.size,0,none⟩) 1 1) 1 [v]:=
 .inr ⟨w.heap.size,0,1,rfl,Nat.le_refl _,show 1<=maxLen from by decide,fun j u hu=>by
  rw [Nat.zero_add,World.cell?_alloc_new];simpa using hu⟩
theorem one_slice (p:Option Addr) (n c:Nat):∀x∈[Value.slice p n c],x.oneCell'=true:=fun x hx=>by
 obtain rfl:x=_:=by simpa using hx
 rfl
def HJ (p:Nat) (A B:World->Prop):(Nat->Bool)->(Nat->Value)->World->Prop:=fun d _ w=>(d p=true->B w)/\(d p=false->A w)
theorem HJ.keep {p i:Nat} {A B:World->Prop} {d:Nat->Bool} {u u':Nat->Value} {w w':World} (hi:decide (p=i)=false) (h:HJ p A B d u w) (hA:A w->A w') (hB:B w->B w'):HJ p A B (upd d i) u' w':=by
 have hne:p≠i:=of_decide_eq_false hi
 refine⟨fun q=>hB (h.1 ?_),fun q=>hA (h.2 ?_)⟩
 ·unfold upd at q;rw [if_neg hne]at q;exact q
 ·unfold upd at q;rw [if_neg hne]at q;exact q
theorem HJ.same {p i:Nat} {A B:World->Prop} {d:Nat->Bool} {u u':Nat->Value} {w:World} (hi:decide (p=i)=false) (h:HJ p A B d u w):HJ p A B (upd d i) u' w:=h.keep hi (fun x=>x) (fun x=>x)
theorem HJ.set {p:Nat} {A B:World->Prop} {d:Nat->Bool} {u:Nat->Value} {w:World} (h:B w):HJ p A B (upd d p) u w:=⟨fun _=>h,fun q=>by unfold upd at q;rw [if_pos rfl]at q;cases q⟩
theorem HJ.start {p:Nat} {A B:World->Prop} {u:Nat->Value} {w:World} (h:A w):HJ p A B (fun _=>false) u w:=⟨fun q=>(by cases q),fun _=>h⟩
theorem wpL_store0 {P:Program} {ops:Array Oper} {rest:List Oper} {a:Act} {w w':World} {Q:Exit->Act->World->Prop} {tt ty:TypeId} {pp:String} {af:Array Edge} {x y:Operand} {p v:Value} (hx:a.eval x=p) (hy:a.eval y=v) (hst:(Instr.storeAt ty p v).run P w= .ok () w') (h:wpList P ops Q rest a w'):
  wpList P ops Q (⟨none,.store ty x y,tt,pp,af,none⟩ :: rest) a w:=wpL_store hx hy hst h
theorem wpL_appr {P:Program} {ops:Array Oper} {rest:List Oper} {a:Act} {w w':World} {Q:Exit->Act->World->Prop} {d:Option Tmp} {tt t t2:TypeId} {pp:String} {af:Array Edge} {s x:Operand} {v u r:Value} (hr:∀ty,(Builtin.append_ #[t,t2] ty #[v,u]).run P w= .ok r w') (hs:a.eval s=v) (hx:a.eval x=u) (h:wpList P ops Q rest (a.put d r) w'):
  wpList P ops Q (⟨d,.call {callee:= .builtin .append,args:=#[s,x],argTypes:=#[t,t2]},tt,pp,af,none⟩ :: rest) a w:=
 wpList_plain rfl fun K hK=>by
  unfold Oper.wp execOp
  simp only [resolve,invoke,builtin,Sem.run_bind,Sem.run_pure,Result.andThen_ok,List.map_toArray,List.map_cons,List.map_nil,hs,hx,hr]
  exact hK _ _ h
theorem goodR_appr {P:Program} {ev:Nat->Value} {w w':World} {φ :Value->World->Prop} {d:Option Tmp} {tt t t2:TypeId} {pp:String} {af:Array Edge} {g:Option (Nat × Bool)} {s x:Operand} {v u r:Value} (hr:∀ty,(Builtin.append_ #[t,t2] ty #[v,u]).run P w= .ok r w') (hs:evalE ev s=v) (hx:evalE ev x=u) (hE:Ext w w') (hφ: φ r w'):
  GoodR P w φ ((execOp (evalE ev) ⟨d,.call {callee:= .builtin .append,args:=#[s,x],argTypes:=#[t,t2]},tt,pp,af,g⟩).run P w):=by
 unfold execOp
 simp only [resolve,invoke,builtin,Sem.run_bind,Sem.run_pure,Result.andThen_ok,List.map_toArray,List.map_cons,List.map_nil,hs,hx,hr]
 exact⟨hE,hφ⟩
theorem app1 {P:Program} {w:World} {t e:TypeId} {bytes:Nat} (hT:SlT P t e (.int .u8 0) 1 bytes) (hby:bytes<=1) {v u:Value} {a:Int} {l:List Int} {m B:Nat} (hv:∃g,v= .slice (some ⟨g,0,none⟩) 1 1/\w.rangeAt g 0 (ints .u8 [a])) (hu:∃b,u= .slice (some ⟨b,0,none⟩) m m/\w.rangeAt b 0 (ints .u8 l)) (hl:l.length=m) (hm0:0 < m) (hm:m<=1099511627776) (hB:B<=w.heap.size):
  ∃c w',(∀ty,(Builtin.append_ #[t,t] ty #[v,u]).run P w= .ok (.slice (some ⟨w.heap.size,0,none⟩) (1+m) c) w')/\Ext w w'/\w'.ownsRow B e 1 (.slice (some ⟨w.heap.size,0,none⟩) (1+m) c) (1+m) (ints .u8 (a :: l)):=by
 obtain⟨i,hi,hz,hs1,hb1⟩:=info_parts hT.info
 obtain⟨g,rfl,hg⟩:=hv
 obtain⟨b,rfl,hb⟩:=hu
 have hge:=grownCap_ge w (1+m) 1 e
 have hcm:grownCap w (1+m) 1 e<=maxLen:=grownCap_le_maxLen w (1+m) 1 e (by unfold maxLen;omega)
 have hfit:Builtin.nextslicecap (1+m) 1*i.bytes<=281474976710656:=growslice_fits (by omega) (by rw [hb1];have:(1+m)*bytes<=(1+m)*1:=Nat.mul_le_mul_left _ hby;omega)
 refine⟨_,_,fun ty=>run_append_grow (P:=P) w t ty e i _ hT.ht hi hz ⟨g,0,none⟩ 1 1 (ints .u8 [a]) (by rw [hs1];rfl) (fun j x hx=>by rw [Addr.add_mid];exact hg j x hx) ⟨b,0,none⟩ m m (ints .u8 l) (by rw [hs1,ints_length,hl];omega) (fun j x hx=>by rw [Addr.add_mid];exact hb j x hx) (by omega) (by omega) hfit,((Below.refl _ _).drew).alloc (Nat.le_refl _) _,?_⟩
 refine⟨by simp [hl];omega,.inr ⟨w.heap.size,_,_,rfl,hB,heap_alloc_new w.drew _,hge,hcm,?_,?_⟩⟩
 ·simp only [Array.size_append,List.size_toArray,size_zeroCells,ints_length,hl,Value.cells,List.length_cons,List.length_nil];omega
 ·simp only [Array.toList_append,List.append_assoc,Nat.mul_one]
  rw [<-List.append_assoc,<-ints_append]
  exact List.take_left' (by simp [hl];omega)
theorem goodR_load {P:Program} {ev:Nat->Value} {w:World} {φ :Value->World->Prop} {d:Option Tmp} {tt ty:TypeId} {pp:String} {af:Array Edge} {g:Option (Nat × Bool)} {x:Operand} {p v:Value} (hx:evalE ev x=p) (hld:(Instr.loadAt ty p).run P w= .ok v w) (hφ: φ v w):
  GoodR P w φ ((execOp (evalE ev) ⟨d,.load ty x,tt,pp,af,g⟩).run P w):=by
 unfold execOp
 simp only [hx,Sem.run_bind,Sem.run_pure,Result.andThen_ok,hld]
 exact⟨Below.refl _ _,hφ⟩
structure JT (B n i7 i8 s7 t7 t8:Nat) (l:List Value) (d:Nat->Bool) (u:Nat->Value) (w:World):Prop where
 a7:d i7=true->∃g,u t7= .pointer (some ⟨g,0,none⟩)/\B<=g/\w.there g 0 n
 a8:d i8=true->∃g,u t8= .pointer (some ⟨g,0,none⟩)/\B<=g/\w.there g 0 n
 ne:d i7=true->d i8=true->u t7≠u t8
 s:d s7=true->∃g,u t7= .pointer (some ⟨g,0,none⟩)/\w.rangeAt g 0 l
 le:B<=w.heap.size
section
variable {B n i7 i8 s7 t7 t8:Nat} {l:List Value} {d:Nat->Bool} {u:Nat->Value} {w:World}
end
theorem goodX_load {R:World->World->Prop} (hr:∀w,R w w) {P:Program} {ev:Nat->Value} {w:World} {φ :Value->World->Prop} {d:Option Tmp} {tt ty:TypeId} {pp:String} {af:Array Edge} {g:Option (Nat × Bool)} {x:Operand} {p v:Value} (hx:evalE ev x=p) (hld:(Instr.loadAt ty p).run P w= .ok v w) (hφ: φ v w):
  GoodX R P w φ ((execOp (evalE ev) ⟨d,.load ty x,tt,pp,af,g⟩).run P w):=by
 unfold execOp
 simp only [hx,Sem.run_bind,Sem.run_pure,Result.andThen_ok,hld]
 exact⟨hr _,hφ⟩
theorem goodX_store {R:World->World->Prop} {P:Program} {ev:Nat->Value} {w w':World} {φ :Value->World->Prop} {d:Option Tmp} {tt ty:TypeId} {pp:String} {af:Array Edge} {g:Option (Nat × Bool)} {x y:Operand} {p v:Value} (hx:evalE ev x=p) (hy:evalE ev y=v) (hst:(Instr.storeAt ty p v).run P w= .ok () w') (hR:R w w') (hφ: φ undef w'):
  GoodX R P w φ ((execOp (evalE ev) ⟨d,.store ty x y,tt,pp,af,g⟩).run P w):=by
 unfold execOp
 simp only [hx,hy,Sem.run_bind,Sem.run_pure,Result.andThen_ok,hst]
 exact⟨hR,hφ⟩
def cellsD (ds:List (List Int)):List Value:=ds.flatMap (ints .u8)
def Dig (ds:List (List Int)):Prop:=∀d∈ds,d.length=32/\Byt d
theorem Dig.nil:Dig []:=fun d hd=>by cases hd
theorem Dig.append {a b:List (List Int)} (h:Dig a) (k:Dig b):Dig (a++b):=fun d hd=>by
 rcases List.mem_append.1 hd with hd | hd
 ·exact h d hd
 ·exact k d hd
theorem Dig.one {d:List Int} (h:d.length=32) (k:Byt d):Dig [d]:=fun x hx=>by
 obtain rfl:x=d:=by simpa using hx
 exact⟨h,k⟩
theorem Dig.take {a:List (List Int)} (h:Dig a) (n:Nat):Dig (a.take n):=fun d hd=>h d (List.mem_of_mem_take hd)
theorem Dig.drop {a:List (List Int)} (h:Dig a) (n:Nat):Dig (a.drop n):=fun d hd=>h d (List.mem_of_mem_drop hd)
theorem Dig.get {a:List (List Int)} (h:Dig a) {i:Nat} (hi:i < a.length):(a.getD i []).length=32/\Byt (a.getD i []):=by
 rw [List.getD_eq_getElem?_getD,List.getElem?_eq_getElem hi];exact h _ (List.getElem_mem hi)
theorem cellsD_one (d:List Int):cellsD [d]=ints .u8 d:=by simp [cellsD]
theorem cellsD_append (a b:List (List Int)):cellsD (a++b)=cellsD a++cellsD b:=by simp [cellsD]
theorem cellsD_length:∀ {ds:List (List Int)},Dig ds->(cellsD ds).length=ds.length*32
 | [],_=>rfl
 | d :: r,h=>by
  have h1:=(h d (by simp)).1
  have h2:=cellsD_length (ds:=r) (fun x hx=>h x (List.mem_cons_of_mem _ hx))
  show(ints .u8 d++cellsD r).length=_
  rw [List.length_append,ints_length,h1,h2,List.length_cons];omega
theorem cellsD_one' (ds:List (List Int)):∀c∈cellsD ds,c.oneCell'=true:=fun c hc=>by
 obtain⟨d,_,hd⟩:=List.mem_flatMap.1 hc
 exact ints_one _ _ c hd
theorem cellsD_drop {ds:List (List Int)} (h:Dig ds) (k:Nat):(cellsD ds).drop (k*32)=cellsD (ds.drop k):=by
 by_cases hk:k<=ds.length
 ·have e:ds=ds.take k++ds.drop k:=(List.take_append_drop k ds).symm
  conv=>lhs;rw [e,cellsD_append]
  exact List.drop_left' (by rw [cellsD_length (h.take k),List.length_take,Nat.min_eq_left hk])
 ·rw [List.drop_of_length_le (by rw [cellsD_length h];omega),List.drop_of_length_le (by omega)];rfl
theorem cellsD_take {ds:List (List Int)} (h:Dig ds) (k:Nat):(cellsD ds).take (k*32)=cellsD (ds.take k):=by
 by_cases hk:k<=ds.length
 ·have e:ds=ds.take k++ds.drop k:=(List.take_append_drop k ds).symm
  conv=>lhs;rw [e,cellsD_append]
  exact List.take_left' (by rw [cellsD_length (h.take k),List.length_take,Nat.min_eq_left hk])
 ·rw [List.take_of_length_le (by rw [cellsD_length h];omega),List.take_of_length_le (by omega)]
abbrev RdD (w:World) (v:Value) (ds:List (List Int)):Prop:=Rds w v ds.length (cellsD ds)
theorem digit_at {w:World} {b o:Nat} {ds:List (List Int)} (h:w.rangeAt b o (cellsD ds)) (hd:Dig ds) {i:Nat} (hi:i < ds.length):w.rangeAt b (o+i*32) (ints .u8 (ds.getD i [])):=by
 have h1:=rangeAt_drop h (i*32)
 rw [cellsD_drop hd,List.drop_eq_getElem_cons hi]at h1
 have h2:=rangeAt_take h1 32
 have e:(cellsD (ds[i] :: ds.drop (i+1))).take 32=ints .u8 ds[i]:=by
  show(ints .u8 ds[i]++_).take 32=_
  exact List.take_left' (by rw [ints_length];exact(hd _ (List.getElem_mem hi)).1)
 rw [e]at h2
 rw [List.getD_eq_getElem?_getD,List.getElem?_eq_getElem hi];exact h2
theorem rangeD_sub {w:World} {b o:Nat} {ds:List (List Int)} (h:w.rangeAt b o (cellsD ds)) (hd:Dig ds) (k m:Nat):w.rangeAt b (o+k*32) (cellsD ((ds.drop k).take m)):=by
 have h1:=rangeAt_drop h (k*32)
 rw [cellsD_drop hd]at h1
 have h2:=rangeAt_take h1 (m*32)
 rw [cellsD_take (hd.drop k)]at h2
 exact h2
theorem RdD.pos {w:World} {v:Value} {ds:List (List Int)} (h:RdD w v ds) (hd:Dig ds) (hne:0 < ds.length):∃b o c,v= .slice (some ⟨b,o,none⟩) ds.length c/\ds.length<=c/\c<=maxLen/\b < w.heap.size/\w.rangeAt b o (cellsD ds):=by
 rcases h with ⟨_,h,_⟩ | ⟨b,o,c,h1,h2,h3,h4⟩
 ·omega
 ·exact⟨b,o,c,h1,h2,h3,rangeAt_lt h4 (fun q=>by have:=cellsD_length hd;rw [q]at this;simp at this;omega),h4⟩
theorem foldl_set:∀(l:List Value) (k:Nat) (init:List Value),k+l.length=init.length->((l.zipIdx k).foldl (fun(cs:List Value) (p:Value × Nat)=>cs.set p.2 p.1) init)=init.take k++l
 | [],k,init,h=>by simp at h;simp [h]
 | x :: r,k,init,h=>by
  simp only [List.zipIdx_cons,List.foldl_cons]
  rw [foldl_set r (k+1) (init.set k x) (by simp at h⊢;omega)]
  rw [List.take_add_one,List.take_set_of_le (Nat.le_refl _),List.getElem?_set_self (by simp at h;omega)]
  simp
theorem fill_one (cells cs:Array Value) (n:Nat) (hc:cells.size=n) (hs:cs.size=n):Instr.fill (fun i=>some (i*n,n)) cells [(0,.agg cs)]=some cs:=by
 simp only [Instr.fill,Value.cells,Nat.zero_mul,Nat.zero_add]
 rw [if_neg (by simp [hc,hs])]
 have key:∀(l:List (Value × Nat)) (init:Array Value),(l.foldl (fun(a:Array Value) (p:Value × Nat)=>a.setIfInBounds p.2 p.1) init).toList=l.foldl (fun(a:List Value) (p:Value × Nat)=>a.set p.2 p.1) init.toList:=by
  intro l
  induction l with
  | nil=>intro init;rfl
  | cons p r ih=>intro init;rw [List.foldl_cons,List.foldl_cons,ih];simp
 congr 1
 apply Array.toList_inj.1
 rw [<-Array.foldl_toList,key,Array.toList_zipIdx,foldl_set cs.toList 0 cells.toList (by simp [hc,hs])]
 simp
section
variable {P:Program} {t e:TypeId} {z:Value} {bytes n:Nat}
theorem build1 (hT:SlT P t e z n bytes) (hn:n<=1000) (w:World) (cs:Array Value) (hs:cs.size=n):
  (Instr.buildSlice t 1 #[(0,.agg cs)]).run P w= .ok (.slice (some ⟨w.heap.size,0,none⟩) 1 1) (w.alloc (.cells cs e)):=by
 obtain⟨i,hi,hz,hs1,hb1⟩:=info_parts hT.info
 have hp:=hT.pos
 refine run_buildSlice w t e 1 #[(0,.agg cs)] cs i z hT.ht hi hz (by rw [hs1];omega) (by rw [hs1];omega) ?_
 rw [hs1]
 exact fill_one _ cs n (by simp) hs
theorem goodR_build1 (hT:SlT P t e z n bytes) (hn:n<=1000) {ev:Nat->Value} {w:World} {φ :Value->World->Prop} {d:Option Tmp} {tt:TypeId} {pp:String} {af:Array Edge} {g:Option (Nat × Bool)} {x:Operand} {cs:Array Value} (hx:evalE ev x= .agg cs) (hs:cs.size=n) (hφ: φ (.slice (some ⟨w.heap.size,0,none⟩) 1 1) (w.alloc (.cells cs e))):
  GoodR P w φ ((execOp (evalE ev) ⟨d,.buildSlice t 1 #[(0,x)],tt,pp,af,g⟩).run P w):=by
 have h:=build1 hT hn w cs hs
 unfold execOp
 simp only [hx,List.map_toArray,List.map_cons,List.map_nil,Sem.run_bind,Sem.run_pure,h,Result.andThen_ok]
 exact⟨ext_alloc _ _,hφ⟩
theorem wpL_build1 (hT:SlT P t e z n bytes) (hn:n<=1000) {ops:Array Oper} {rest:List Oper} {a:Act} {w:World} {Q:Exit->Act->World->Prop} {d:Option Tmp} {tt:TypeId} {pp:String} {af:Array Edge} {x:Operand} {cs:Array Value} (hx:a.eval x= .agg cs) (hs:cs.size=n)
  (h:wpList P ops Q rest (a.put d (.slice (some ⟨w.heap.size,0,none⟩) 1 1)) (w.alloc (.cells cs e))):wpList P ops Q (⟨d,.buildSlice t 1 #[(0,x)],tt,pp,af,none⟩ :: rest) a w:=
 wpList_plain rfl fun K hK=>by
  have h1:=build1 hT hn w cs hs
  unfold Oper.wp execOp
  simp only [hx,List.map_toArray,List.map_cons,List.map_nil,Sem.run_bind,Sem.run_pure,h1,Result.andThen_ok]
  exact hK _ _ h
end
theorem stop_build {P:Program} {ops:Array Oper} {rest:List Oper} {a:Act} {w:World} {Q:Exit->Act->World->Prop} {d:Option Tmp} {tt ty:TypeId} {pp:String} {af:Array Edge} {n:Nat} {xs:Array (Nat × Operand)} (h:Stuck (wpList P ops Q (⟨d,.buildSlice ty n xs,tt,pp,af,none⟩ :: rest) a w)):wpList P ops Q (⟨d,.buildSlice ty n xs,tt,pp,af,none⟩ :: rest) a w:=h
theorem rds_dig (w:World) (e:TypeId) (d:List Int) (_h:d.length=32):Rds (w.alloc (.cells (ints .u8 d).toArray e)) (.slice (some ⟨w.heap.size,0,none⟩) 1 1) 1 (cellsD [d]):=by
 refine .inr ⟨w.heap.size,0,1,rfl,Nat.le_refl _,show 1<=maxLen from by decide,fun j v hv=> ?_⟩
 rw [Nat.zero_add,World.cell?_alloc_new]
 rw [cellsD_one]at hv
 simpa using hv
end Go.Proofs.Bl
