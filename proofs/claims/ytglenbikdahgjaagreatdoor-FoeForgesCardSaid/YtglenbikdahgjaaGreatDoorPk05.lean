/- Texts that stood apart, in one: Row, Dia, Acts. -/
import Derived.Test.YtglenbikdahgjaaGreatDoorPk04
import Derived.Test.YtglenbikdahgjaaGreatDoorPk03
import Derived.Test.YtglenbikdahgjaaGreatDoorPk00
set_option maxRecDepth 100000
set_option maxHeartbeats 16000000
namespace Go.Proofs.Bl
open Go Go.RowKit
section
variable {α :Type} {f: α ->List Value} {s:Nat}
def cellsR (f: α ->List Value) (L:List α):List Value:=L.flatMap f
theorem cellsR_append (a b:List α):cellsR f (a++b)=cellsR f a++cellsR f b:=by simp [cellsR]
theorem cellsR_one (x: α):cellsR f [x]=f x:=by simp [cellsR]
theorem cellsR_cons (x: α) (r:List α):cellsR f (x :: r)=f x++cellsR f r:=by simp [cellsR]
theorem cellsR_length:∀ {L:List α},(∀x∈L,(f x).length=s)->(cellsR f L).length=L.length*s
 | [],_=>by simp [cellsR]
 | x :: r,h=>by
  have h1:=h x (by simp)
  have h2:=cellsR_length (L:=r) (fun y hy=>h y (List.mem_cons_of_mem _ hy))
  rw [cellsR_cons,List.length_append,h1,h2,List.length_cons,Nat.add_mul];omega
theorem cellsR_cell {L:List α} (h:∀x∈L,∀c∈f x,c.oneCell'=true):∀c∈cellsR f L,c.oneCell'=true:=fun c hc=>by
 obtain⟨x,hx,hd⟩:=List.mem_flatMap.1 hc
 exact h x hx c hd
theorem cellsR_drop {L:List α} (h:∀x∈L,(f x).length=s) (k:Nat):(cellsR f L).drop (k*s)=cellsR f (L.drop k):=by
 by_cases hk:k<=L.length
 ·have e:L=L.take k++L.drop k:=(List.take_append_drop k L).symm
  conv=>lhs;rw [e,cellsR_append]
  exact List.drop_left' (by rw [cellsR_length (s:=s) (fun x hx=>h x (List.mem_of_mem_take hx)),List.length_take,Nat.min_eq_left hk])
 ·rw [List.drop_of_length_le (by rw [cellsR_length h];exact Nat.mul_le_mul_right _ (by omega)),List.drop_of_length_le (by omega)];rfl
theorem getD_mem {L:List α} (d: α) {i:Nat} (hi:i < L.length):L.getD i d∈L:=by
 rw [List.getD_eq_getElem?_getD,List.getElem?_eq_getElem hi];exact List.getElem_mem hi
theorem elem_at {w:World} {b o:Nat} {L:List α} (d: α) (h:w.rangeAt b o (cellsR f L)) (hs:∀x∈L,(f x).length=s) {i:Nat} (hi:i < L.length):w.rangeAt b (o+i*s) (f (L.getD i d)):=by
 have h1:=rangeAt_drop h (i*s)
 rw [cellsR_drop hs,List.drop_eq_getElem_cons hi,cellsR_cons]at h1
 have h2:=rangeAt_take h1 s
 rw [List.take_left' (hs _ (List.getElem_mem hi))]at h2
 rw [List.getD_eq_getElem?_getD,List.getElem?_eq_getElem hi];exact h2
theorem range_cellsR {w:World} {g o:Nat} {L:List α} (d: α) (hpos:0 < s) (hs:∀x∈L,(f x).length=s) (h:∀i,i < L.length->w.rangeAt g (o+i*s) (f (L.getD i d))):w.rangeAt g o (cellsR f L):=fun j v hv=>by
 have hj:j < L.length*s:=by
  have:=(List.getElem?_eq_some_iff.1 hv).1
  rwa [cellsR_length hs]at this
 have hi:j / s < L.length:=(Nat.div_lt_iff_lt_mul hpos).2 hj
 have hjd:j / s*s+j % s=j:=by rw [Nat.mul_comm];exact Nat.div_add_mod j s
 have e:(cellsR f L)[j]? =(f (L.getD (j / s) d))[j % s]? :=by
  have h2:(cellsR f L).drop (j / s*s)=cellsR f (L.drop (j / s)):=cellsR_drop hs _
  have h3:(cellsR f L)[j]? =((cellsR f L).drop (j / s*s))[j % s]? :=by
   rw [List.getElem?_drop,hjd]
  rw [h3,h2,List.drop_eq_getElem_cons hi,cellsR_cons,List.getElem?_append_left (by rw [hs _ (List.getElem_mem hi)];exact Nat.mod_lt _ hpos),List.getD_eq_getElem?_getD,List.getElem?_eq_getElem hi];rfl
 rw [e]at hv
 have:=h (j / s) hi (j % s) v hv
 rw [Nat.add_assoc,hjd]at this
 exact this
end
theorem Rds.pos {w:World} {v:Value} {n:Nat} {cs:List Value} (h:Rds w v n cs) (hn:0 < n) (hc:cs≠[]):∃b o c,v= .slice (some ⟨b,o,none⟩) n c/\n<=c/\c<=maxLen/\b < w.heap.size/\w.rangeAt b o cs:=by
 rcases h with ⟨_,h,_⟩ | ⟨b,o,c,h1,h2,h3,h4⟩
 ·omega
 ·exact⟨b,o,c,h1,h2,h3,rangeAt_lt h4 hc,h4⟩
structure BoxC (w:World) (X:Nat) (cs:List Value):Prop where
 rg:w.rangeAt X 0 cs
 th:w.there X 0 cs.length
 ne:cs≠[]
section
variable {w w':World} {X:Nat} {cs:List Value}
theorem BoxC.lt (h:BoxC w X cs):X < w.heap.size:=rangeAt_lt h.rg h.ne
theorem BoxC.same (h:BoxC w X cs) (hb:w'.heap[X]? =w.heap[X]?):BoxC w' X cs:=
 ⟨fun j v hj=>by rw [World.cell?_of_block (w:=w) hb];exact h.rg j v hj,fun j hj=>by rw [World.cell?_of_block (w:=w) hb,World.frozen?_of_block (w:=w) hb];exact h.th j hj,h.ne⟩
theorem BoxC.ext (h:BoxC w X cs) (hE:Ext w w'):BoxC w' X cs:=h.same (hE.block X h.lt)
theorem BoxC.grown {row:Option Nat} (h:BoxC w X cs) (hg:w.grownBy w' row) (hne:row≠some X):BoxC w' X cs:=h.same (hg.block X h.lt (fun q=>hne q.symm))
theorem BoxC.cell (h:BoxC w X cs) {i:Nat} {v:Value} (hi:cs[i]? =some v):w.cell? ⟨X,i,none⟩=some v:=by
 have:=h.rg i v hi
 rwa [Nat.zero_add]at this
theorem BoxC.loadVar {P:Program} (h:BoxC w X cs) {ty:TypeId} {d:TypeDesc} (hu:P.underlying ty=some d) (hd:d.isRow=true) (hi:(P.info? ty).map (·.size)=some cs.length):(loadVar ty ⟨X,0,none⟩).run P w= .ok (.agg cs.toArray) w:=
 run_loadVar_mid (P:=P) w X 0 ty cs d h.rg hu hd hi
theorem BoxC.load {P:Program} (h:BoxC w X cs) {ty:TypeId} {d:TypeDesc} (hu:P.underlying ty=some d) (hd:d.isRow=true) (hi:(P.info? ty).map (·.size)=some cs.length):(Instr.loadAt ty (.pointer (some ⟨X,0,none⟩))).run P w= .ok (.agg cs.toArray) w:=
 run_loadAt_mid (P:=P) w X 0 ty cs d h.rg hu hd hi
theorem BoxC.box (w:World) (e:TypeId) (hne:cs≠[]):BoxC (w.alloc (.cells cs.toArray e)) w.heap.size cs:=
 ⟨fun j v hj=>by rw [Nat.zero_add,World.cell?_alloc_new];simpa using hj,there_new w cs.toArray e _ (by simp),hne⟩
theorem BoxC.store {P:Program} {cs':List Value} (h:BoxC w X cs) (hl:cs'.length=cs.length) (h1:∀c∈cs',c.oneCell'=true) {ty:TypeId} (hi:(P.info? ty).map (·.size)=some cs'.length):
  (Instr.storeAt ty (.pointer (some ⟨X,0,none⟩)) (.agg cs'.toArray)).run P w= .ok () (w.setCells X 0 cs'):=by
 have h2:=run_storeAt_mid (P:=P) w X 0 ty cs'.toArray (by simpa [hl] using h.th) (by simpa using hi) (all_oneCell_toArray h1)
 simpa using h2
theorem BoxC.set {cs':List Value} (h:BoxC w X cs) (hl:cs'.length=cs.length):BoxC (w.setCells X 0 cs') X cs':=
 ⟨World.rangeAt_setCells_same w X 0 cs' (by rw [hl];exact h.th),by rw [hl];exact World.there_setCells h.th _ _ _,fun q=>h.ne (List.length_eq_zero_iff.1 (by rw [<-hl,q];rfl))⟩
theorem BoxC.fresh (w:World) (e:TypeId) (z:Array Value) (hz:z.size=cs.length) (hne:cs≠[]):BoxC ((w.alloc (.cells z e)).setCells w.heap.size 0 cs) w.heap.size cs/\Ext w ((w.alloc (.cells z e)).setCells w.heap.size 0 cs):=by
 have ht:=there_new w z e cs.length hz
 exact⟨⟨World.rangeAt_setCells_same _ _ _ cs ht,World.there_setCells ht _ _ _,hne⟩,below_setCells _ _ _ _ (ext_alloc _ _) (Nat.le_refl _)⟩
theorem fresh_store {P:Program} (w:World) (e:TypeId) (z:Array Value) (hz:z.size=cs.length) (h1:∀c∈cs,c.oneCell'=true) {ty:TypeId} (hi:(P.info? ty).map (·.size)=some cs.length):
  (Instr.storeAt ty (.pointer (some ⟨w.heap.size,0,none⟩)) (.agg cs.toArray)).run P (w.alloc (.cells z e))= .ok () ((w.alloc (.cells z e)).setCells w.heap.size 0 cs):=by
 have h2:=run_storeAt_mid (P:=P) (w.alloc (.cells z e)) w.heap.size 0 ty cs.toArray (by simpa using there_new w z e cs.length hz) (by simpa using hi) (all_oneCell_toArray h1)
 simpa using h2
end
structure JN (ia ib ta tb s B b f D:Nat) (X:Value) (k:Nat) (xs nc:List Value) (w0:World) (d:Nat->Bool) (u:Nat->Value) (w:World):Prop where
 c:w.cell? ⟨b,f,none⟩=some X
 fr:w.frozen? ⟨b,f,none⟩=false
 box:BoxC w D nc
 ne:X.ownBlock≠some b
 nd:X.ownBlock≠some D
 hb:B<=b
 hX:∀j,X.ownBlock=some j->B<=j
 ad:Adds w0 w b X.ownBlock
 le:B<=w0.heap.size
 pk:d ia=false->Pk w 0 s X k xs
 bl:d ib=true->d ia=false->∃g,u tb= .slice (some ⟨g,0,none⟩) 1 1/\w.rangeAt g 0 nc
 nw:d ia=true->Pk w 0 s (u ta) (k+1) (xs++nc)/\(∀j,(u ta).ownBlock=some j->X.ownBlock=some j\/w0.heap.size<=j)
section
variable {ia ib ta tb s B b f D:Nat} {X:Value} {k:Nat} {xs nc:List Value} {w0:World} {d:Nat->Bool} {u:Nat->Value} {w:World}
end
section
variable {P:Program} {Q:Exit->Act->World->Prop} {ops:Array Oper} {rest:List Oper} {a:Act} {w:World} {d:Option Tmp} {tt ty:TypeId} {pp:String} {af:Array Edge}
end
abbrev Nt:=Nat × List Int
def cN (x:Nt):List Value:= .int .i64 (x.1:Int) :: ints .u8 x.2
def DgN (N:List Nt):Prop:=∀x∈N,x.2.length=32/\Byt x.2
abbrev RdN (w:World) (v:Value) (N:List Nt):Prop:=Rds w v N.length (cellsR cN N)
abbrev n0:Nt:=(0,zs32)
structure Di (w:World) (b:Nat) (v:Value) (N:List Nt):Prop where
 c0:w.cell? ⟨b,0,none⟩=some v
 f0:w.frozen? ⟨b,0,none⟩=false
 pk:Pk w 0 33 v N.length (cellsR cN N)
 dig:DgN N
 ne:v.ownBlock≠some b
section
variable {w w':World} {b:Nat} {v:Value} {N:List Nt}
end
structure Dm (w:World) (b:Nat) (v:Value) (N:List Nt):Prop where
 c0:w.cell? ⟨b,0,none⟩=some v
 f0:w.frozen? ⟨b,0,none⟩=false
 rd:RdsX w b v N.length (cellsR cN N)
 dig:DgN N
section
variable {w w':World} {b:Nat} {v:Value} {N:List Nt}
end
def lastN (N:List Nt):Nt:=N.getD (N.length - 1) n0
def takeE (N:List Nt) (size:Int) (root:List Int) (p:List (List Int)):Nat:=
 if size < 1\/512 < size then 1 else if N.length=0 then(if p.length=0 then 0 else 8)else if size < ((lastN N).1:Int)then 19 else chkG (lastN N).1 size (lastN N).2 root p
def takeN (N:List Nt) (size:Int) (root:List Int) (p:List (List Int)):List Nt:=
 if takeE N size root p=0/\((lastN N).1:Int) < size then N++[(size.toNat,root)]else N
structure Ris (N:List Nt):Prop where
 rg:∀x∈N,1<=x.1/\x.1<=512
 up:N.Pairwise (fun a b=>a.1 < b.1)
def hasN (N:List Nt) (k:Int):Bool:=N.any fun x=>decide ((x.1:Int)=k)
def atN (N:List Nt) (k:Int):List Int:=((N.find? fun x=>decide ((x.1:Int)=k)).map (·.2)).getD zs32
end Go.Proofs.Bl
namespace Go.Proofs.Bl
open Go Go.ChangeShapes Go.WideShapes Go.ChangeAt Go.RowKit Go.Deep
abbrev Ac:=Int × List Int × Value × List (List Int)
def cA (x:Ac):List Value:= .int .i64 x.1 :: (ints .u8 x.2.1++[x.2.2.1])
abbrev a0:Ac:=(0,[],.slice none 0 0,[])
def OkA (w:World) (x:Ac):Prop:=x.2.1.length=32/\Byt x.2.1/\RdD w x.2.2.1 x.2.2.2/\Dig x.2.2.2
structure RdA (w:World) (v:Value) (L:List Ac):Prop where
 rd:Rds w v L.length (cellsR cA L)
 ok:∀x∈L,OkA w x
section
variable {H:Type} {enc:TypeId × Value->H} {P:Program} {w:World} {base:Nat}
end
end Go.Proofs.Bl
namespace Go.Proofs.Bl
open Go Go.RowKit
abbrev Sh:=Int × List Int × List (List Int)
abbrev Sv:=Int × (Value × List Int) × Value × List (List Int)
def plS (x:Sv):Sh:=(x.1,x.2.1.2,x.2.2.2)
def cS (x:Sv):List Value:=[.int .i64 x.1,x.2.1.1,x.2.2.1]
abbrev s0:Sv:=(0,(.slice none 0 0,[]),.slice none 0 0,[])
abbrev h0:Sh:=(0,[],[])
structure OkS (w:World) (x:Sv):Prop where
 st:Rd w .u8 x.2.1.1 x.2.1.2
 bs:Byt x.2.1.2
 pa:RdD w x.2.2.1 x.2.2.2
 dg:Dig x.2.2.2
theorem OkS.ext {w w':World} {x:Sv} (h:OkS w x) (k:Ext w w'):OkS w' x:=⟨h.st.ext k,h.bs,Rds.ext h.pa k,h.dg⟩
theorem cS_len (x:Sv):(cS x).length=3:=rfl
theorem cS_ne (x:Sv):cS x≠[]:=fun h=>by cases h
theorem cS_one {w:World} {x:Sv} (h:OkS w x):∀c∈cS x,c.oneCell'=true:=fun c hc=>by
 obtain⟨p1,c1,e1,_,_⟩:=h.st.form
 obtain⟨p2,c2,e2,_,_⟩:=h.pa.form
 unfold cS at hc
 rw [e1,e2]at hc
 simp only [List.mem_cons,List.not_mem_nil,or_false]at hc
 rcases hc with rfl | rfl | rfl<;>rfl
structure RdS (w:World) (v:Value) (L:List Sv):Prop where
 rd:Rds w v L.length (cellsR cS L)
 ok:∀x∈L,OkS w x
theorem RdS.ext {w w':World} {v:Value} {L:List Sv} (h:RdS w v L) (k:Ext w w'):RdS w' v L:=⟨Rds.ext h.rd k,fun x hx=>(h.ok x hx).ext k⟩
theorem RdS.nil (w:World):RdS w (.slice none 0 0) []:=⟨Rds.nil _,fun x hx=>by cases hx⟩
theorem cellsS_len (L:List Sv):(cellsR cS L).length=L.length*3:=cellsR_length fun x _=>cS_len x
theorem RdS.pos {w:World} {v:Value} {L:List Sv} (h:RdS w v L) (hn:0 < L.length):∃b o c,v= .slice (some ⟨b,o,none⟩) L.length c/\L.length<=c/\c<=maxLen/\b < w.heap.size/\∀i,i < L.length->w.rangeAt b (o+i*3) (cS (L.getD i s0)):=by
 obtain⟨b,o,c,h1,h2,h3,h4,h5⟩:=Rds.pos h.rd hn (fun q=>by have:=cellsS_len L;rw [q]at this;simp at this;omega)
 exact⟨b,o,c,h1,h2,h3,h4,fun i hi=>elem_at s0 h5 (fun x _=>cS_len x) hi⟩
theorem plS_getD (L:List Sv) (i:Nat):(L.map plS).getD i h0=plS (L.getD i s0):=by
 rw [List.getD_eq_getElem?_getD,List.getD_eq_getElem?_getD,List.getElem?_map]
 cases L[i]? <;>rfl
structure LT where
 kind:Int
 id:Int
 obj:Int
 places:List Int
 shown:List Sh
 frm:Int
 cnt:Int
 blocks:List (List Int)
 code:Int
def LT.nums (l:LT):List Int:=[l.kind,l.id,l.obj,l.frm,l.cnt,l.code]
theorem LT.ext_iff' {a b:LT}:a=b↔a.nums=b.nums/\a.places=b.places/\a.shown=b.shown/\a.blocks=b.blocks:=by
 constructor
 ·rintro rfl;exact⟨rfl,rfl,rfl,rfl⟩
 ·rintro⟨h1,h2,h3,h4⟩
  cases a;cases b
  simp only [LT.nums,List.cons.injEq,and_true]at h1
  obtain⟨rfl,rfl,rfl,rfl,rfl,rfl⟩:=h1
  simp only at h2 h3 h4
  subst h2 h3 h4
  rfl
instance (a b:LT):Decidable (a=b):=decidable_of_iff _ LT.ext_iff'.symm
def cL (l:LT) (vp vs vb:Value):List Value:=[.int .i64 l.kind,.int .i64 l.id,.int .i64 l.obj,vp,vs,.int .i64 l.frm,.int .i64 l.cnt,vb,.int .i64 l.code]
structure LtC (w:World) (cs:List Value) (l:LT) (vp vs vb:Value) (L:List Sv):Prop where
 eq:cs=cL l vp vs vb
 pl:Rd w .i64 vp l.places
 sh:RdS w vs L
 sl:L.map plS=l.shown
 bl:Rdss w vb l.blocks
 by':∀b∈l.blocks,Byt b
theorem LtC.ext {w w':World} {cs:List Value} {l:LT} {vp vs vb:Value} {L:List Sv} (h:LtC w cs l vp vs vb L) (k:Ext w w'):LtC w' cs l vp vs vb L:=⟨h.eq,h.pl.ext k,h.sh.ext k,h.sl,h.bl.ext k,h.by'⟩
theorem Rdss.form {w:World} {v:Value} {ps:List (List Int)} (h:Rdss w v ps):∃p c,v= .slice p ps.length c/\ps.length<=c/\c<=maxLen:=by
 obtain⟨vs,h1,_⟩:=h;exact h1.form
theorem Rdss.nil (w:World):Rdss w (.slice none 0 0) []:=⟨[],Rds.nil _,rfl,fun i hi=>by cases hi⟩
def LtV (w:World) (v:Value) (l:LT):Prop:=∃cs vp vs vb L,v= .agg (List.toArray cs)/\LtC w cs l vp vs vb L
theorem LtV.ext {w w':World} {v:Value} {l:LT} (h:LtV w v l) (k:Ext w w'):LtV w' v l:=by
 obtain⟨cs,vp,vs,vb,L,h1,h2⟩:=h;exact⟨cs,vp,vs,vb,L,h1,h2.ext k⟩
theorem cL_ne (l:LT) (vp vs vb:Value):cL l vp vs vb≠[]:=fun h=>by cases h
theorem LtC.one {w:World} {cs:List Value} {l:LT} {vp vs vb:Value} {L:List Sv} (h:LtC w cs l vp vs vb L):∀c∈cs,c.oneCell'=true:=fun c hc=>by
 obtain⟨p1,c1,e1,_,_⟩:=h.pl.form
 obtain⟨p2,c2,e2,_,_⟩:=h.sh.rd.form
 obtain⟨p3,c3,e3,_,_⟩:=h.bl.form
 rw [h.eq]at hc
 unfold cL at hc
 rw [e1,e2,e3]at hc
 simp only [List.mem_cons,List.not_mem_nil,or_false]at hc
 rcases hc with rfl | rfl | rfl | rfl | rfl | rfl | rfl | rfl | rfl<;>rfl
def sameL (a b:LT):Bool:=decide (a=b)
structure LgL (l:LT):Prop where
 pl:l.places.length<=100
 sh:l.shown.length<=30
 bl:l.blocks.length<=600
 st:∀s∈l.shown,s.2.1.length<=100/\s.2.2.length<=40
 bs:∀b∈l.blocks,b.length<=100
def lt0:LT:=⟨0,0,0,[],[],0,0,[],0⟩
abbrev zL:Array Value:=#[.int .i64 0,.int .i64 0,.int .i64 0,.slice none 0 0,.slice none 0 0,.int .i64 0,.int .i64 0,.slice none 0 0,.int .i64 0]
abbrev zSh:Array Value:=#[.int .i64 0,.slice none 0 0,.slice none 0 0]
theorem LtC.zero (w:World):LtC w (cL lt0 (.slice none 0 0) (.slice none 0 0) (.slice none 0 0)) lt0 (.slice none 0 0) (.slice none 0 0) (.slice none 0 0) []:=⟨rfl,Rds.nil _,RdS.nil _,rfl,Rdss.nil _,fun b hb=>by cases hb⟩
section
variable {α :Type}
theorem take_succ_getDD (d: α) (l:List α) (k:Nat) (h:k < l.length):l.take (k+1)=l.take k++[l.getD k d]:=by
 rw [List.getD_eq_getElem?_getD,List.getElem?_eq_getElem h,List.take_succ_eq_append_getElem h];rfl
end
section
variable {w w':World}
theorem Rds.kept {v:Value} {n:Nat} {cs:List Value} (h:Rds w v n cs) (hk:∀k,v.ownBlock=some k->k < w.heap.size->w'.heap[k]? =w.heap[k]?):Rds w' v n cs:=by
 rcases h with h1 | ⟨b,o,c,h1,h2,h3,h4⟩
 ·exact .inl h1
 ·refine .inr ⟨b,o,c,h1,h2,h3,?_⟩
  by_cases hc:cs=[]
  ·subst hc;intro j x hx;simp at hx
  ·intro j x hx
   rw [World.cell?_of_block (w:=w) (hk b (by rw [h1];rfl) (rangeAt_lt h4 hc))]
   exact h4 j x hx
theorem BoxC.put {X:Nat} {cs:List Value} (h:BoxC w X cs) {i:Nat} (hi:i < cs.length) (u:Value):BoxC (w.setCell ⟨X,i,none⟩ u) X (cs.set i u):=by
 have hc:∀j,j < cs.length->∃v,w.cell? ⟨X,j,none⟩=some v:=fun j hj=>⟨_,h.cell (List.getElem?_eq_getElem hj)⟩
 refine⟨fun j v hj=> ?_,fun j hj=> ?_,fun q=>h.ne (by simpa using q)⟩
 ·rw [Nat.zero_add]
  by_cases e:j=i
  ·subst e
   rw [List.getElem?_set_self (by simpa using hi)]at hj
   obtain⟨v0,h0⟩:=hc j hi
   rw [World.cell?_setCell_same' _ _ _ (by rw [h0];rfl)]
   exact hj
  ·rw [List.getElem?_set_ne (fun q=>e q.symm)]at hj
   rw [World.cell?_setCell_other _ _ _ _ (by intro q;injection q with _ q;omega)]
   exact h.cell hj
 ·rw [List.length_set]at hj
  obtain⟨h1,h2⟩:=h.th j hj
  rw [Nat.zero_add]at h1 h2⊢
  refine⟨?_,by rw [World.frozen?_setCell];exact h2⟩
  by_cases e:j=i
  ·subst e
   obtain⟨v0,h0⟩:=hc j hi
   rw [World.cell?_setCell_same' _ _ _ (by rw [h0];rfl)];rfl
  ·rw [World.cell?_setCell_other _ _ _ _ (by intro q;injection q with _ q;omega)];exact h1
theorem BoxC.fz {X:Nat} {cs:List Value} (h:BoxC w X cs) {i:Nat} (hi:i < cs.length):w.frozen? ⟨X,i,none⟩=false:=by
 have:=(h.th i hi).2
 rwa [Nat.zero_add]at this
theorem rds_box (w:World) (e:TypeId) (cs:List Value):Rds (w.alloc (.cells cs.toArray e)) (.slice (some ⟨w.heap.size,0,none⟩) 1 1) 1 cs:=by
 refine .inr ⟨w.heap.size,0,1,rfl,Nat.le_refl _,show 1<=maxLen from by decide,fun j v hv=> ?_⟩
 rw [Nat.zero_add,World.cell?_alloc_new];simpa using hv
end
def RdsF (F:Nat->Prop) (w:World) (v:Value) (n:Nat) (cs:List Value):Prop:=
 ((∃p,v= .slice p 0 0)/\n=0/\cs=[])\/∃b o c,v= .slice (some ⟨b,o,none⟩) n c/\n<=c/\c<=maxLen/\w.rangeAt b o cs/\(cs≠[]->F b)
section
variable {F F':Nat->Prop} {w w':World} {v:Value} {n:Nat} {cs:List Value}
theorem RdsF.rds (h:RdsF F w v n cs):Rds w v n cs:=by
 rcases h with h | ⟨b,o,c,h1,h2,h3,h4,_⟩
 ·exact .inl h
 ·exact .inr ⟨b,o,c,h1,h2,h3,h4⟩
theorem RdsF.of_rds (h:Rds w v n cs) (hF:∀b,v.ownBlock=some b->b < w.heap.size->F b):RdsF F w v n cs:=by
 rcases h with h | ⟨b,o,c,h1,h2,h3,h4⟩
 ·exact .inl h
 ·exact .inr ⟨b,o,c,h1,h2,h3,h4,fun hc=>hF b (by rw [h1];rfl) (rangeAt_lt h4 hc)⟩
theorem RdsF.kept (h:RdsF F w v n cs) (hk:∀b,F b->b < w.heap.size->F' b/\w'.heap[b]? =w.heap[b]?):RdsF F' w' v n cs:=by
 rcases h with h | ⟨b,o,c,h1,h2,h3,h4,h5⟩
 ·exact .inl h
 ·by_cases hc:cs=[]
  ·subst hc;exact .inr ⟨b,o,c,h1,h2,h3,fun j x hx=>by simp at hx,fun q=>absurd rfl q⟩
  ·obtain⟨k1,k2⟩:=hk b (h5 hc) (rangeAt_lt h4 hc)
   refine .inr ⟨b,o,c,h1,h2,h3,fun j x hx=> ?_,fun _=>k1⟩
   rw [World.cell?_of_block (w:=w) k2];exact h4 j x hx
theorem RdsF.nil (w:World):RdsF F w (.slice none 0 0) 0 []:= .inl ⟨⟨_,rfl⟩,rfl,rfl⟩
end
structure OkF (F:Nat->Prop) (w:World) (x:Sv):Prop where
 st:RdsF F w x.2.1.1 x.2.1.2.length (ints .u8 x.2.1.2)
 bs:Byt x.2.1.2
 pa:RdsF F w x.2.2.1 x.2.2.2.length (cellsD x.2.2.2)
 dg:Dig x.2.2.2
theorem OkF.ok {F:Nat->Prop} {w:World} {x:Sv} (h:OkF F w x):OkS w x:=⟨h.st.rds,h.bs,h.pa.rds,h.dg⟩
def Stab {α :Type} (Ok:(Nat->Prop)->World-> α ->Prop):Prop:=∀(F F':Nat->Prop) (w w':World) (x: α),Ok F w x->(∀b,F b->b < w.heap.size->F' b/\w'.heap[b]? =w.heap[b]?)->Ok F' w' x
theorem stab_okF:Stab OkF:=fun _ _ _ _ _ h hk=>⟨h.st.kept hk,h.bs,h.pa.kept hk,h.dg⟩
abbrev Bv:=Value × List Int
def cB (x:Bv):List Value:=[x.1]
def OkB (F:Nat->Prop) (w:World) (x:Bv):Prop:=RdsF F w x.1 x.2.length (ints .u8 x.2)/\Byt x.2
theorem stab_okB:Stab OkB:=fun _ _ _ _ _ h hk=>⟨RdsF.kept h.1 hk,h.2⟩
def cI (x:Int):List Value:=[.int .i64 x]
def OkT {α :Type} (_:Nat->Prop) (_:World) (_: α):Prop:=True
theorem stab_okT {α :Type}:Stab (OkT (α := α)):=fun _ _ _ _ _ _ _=>trivial
structure GR {α :Type} (f: α ->List Value) (s:Nat) (Ok:(Nat->Prop)->World-> α ->Prop) (A:Nat->Prop) (B e:Nat) (w:World) (X fi:Nat) (cs:List Value) (v:Value) (M:List α):Prop where
 box:BoxC w X cs
 fld:cs[fi]? =some v
 own:w.ownsRow B e s v M.length (cellsR f M)
 ok:∀x∈M,Ok (fun b=>b≠X/\v.ownBlock≠some b/\A b) w x
 ne:v.ownBlock≠some X
section
variable {α :Type} {f: α ->List Value} {s:Nat} {Ok:(Nat->Prop)->World-> α ->Prop} {A:Nat->Prop} {B e:Nat} {w w1 w2:World} {X fi:Nat} {cs:List Value} {v v':Value} {M:List α} {y: α}
theorem GR.ext (hS:Stab Ok) (h:GR f s Ok A B e w X fi cs v M) (hE:Ext w w1):GR f s Ok A B e w1 X fi cs v M:=
 ⟨h.box.ext hE,h.fld,owns_ext h.own hE,fun x hx=>hS _ _ _ _ _ (h.ok x hx) fun b hb hlt=>⟨hb,hE.block b hlt⟩,h.ne⟩
theorem GR.start (hB:BoxC w X cs) (hf:cs[fi]? =some (.slice none 0 0)):GR f s Ok A B e w X fi cs (.slice none 0 0) []:=
 ⟨hB,hf,World.ownsRow_nil _ _ _ _,fun x hx=>(by cases hx),fun q=>(by cases q)⟩
theorem GR.lt (h:GR f s Ok A B e w X fi cs v M):fi < cs.length:=(List.getElem?_eq_some_iff.1 h.fld).1
theorem GR.cell (h:GR f s Ok A B e w X fi cs v M):w.cell? ⟨X,fi,none⟩=some v:=h.box.cell h.fld
theorem GR.mid (h:GR f s Ok A B e w1 X fi cs v M) (hg:w1.grownBy w2 v.ownBlock):BoxC w2 X cs:=h.box.grown hg (fun q=>h.ne q)
theorem GR.own' (h:GR f s Ok A B e w X fi cs v M) {n:Nat} (hn:M.length=n):w.ownsRow B e s v n (cellsR f M):=by subst hn;exact h.own
theorem GR.push (hS:Stab Ok) (h:GR f s Ok A B e w1 X fi cs v M) {n:Nat} (hn:M.length=n) (hown:w2.ownsRow B e s v' (n+1) (cellsR f M++f y)) (hg:w1.grownBy w2 v.ownBlock) (hk:∀k,v'.ownBlock=some k->v.ownBlock=some k\/w1.heap.size<=k) (hy:Ok (fun b=>b≠X/\v.ownBlock≠some b/\A b) w1 y):
  GR f s Ok A B e (w2.setCell ⟨X,fi,none⟩ v') X fi (cs.set fi v') v' (M++[y]):=by
 subst hn
 have hne:v'.ownBlock≠some X:=fun q=>by
  rcases hk X q with z | z
  ·exact h.ne z
  ·have:=h.box.lt;omega
 refine⟨(h.mid hg).put h.lt v',by rw [List.getElem?_set_self h.lt],?_,fun x hx=> ?_,hne⟩
 ·rw [List.length_append,List.length_singleton,cellsR_append,cellsR_one]
  exact owns_setCell hown hne fi v'
 ·have key:∀b,(b≠X/\v.ownBlock≠some b/\A b)->b < w1.heap.size->(b≠X/\v'.ownBlock≠some b/\A b)/\(w2.setCell ⟨X,fi,none⟩ v').heap[b]? =w1.heap[b]? :=fun b hb hlt=>by
   refine⟨⟨hb.1,fun q=> ?_,hb.2.2⟩,?_⟩
   ·rcases hk b q with z | z
    ·exact hb.2.1 z
    ·omega
   ·rw [Below.heap_setCell w2 ⟨X,fi,none⟩ v' b hb.1]
    exact hg.block b hlt (fun q=>hb.2.1 q.symm)
  rcases List.mem_append.1 hx with hx | hx
  ·exact hS _ _ _ _ _ (h.ok x hx) key
  ·obtain rfl:x=y:=by simpa using hx
   exact hS _ _ _ _ _ hy key
end
def isSl (v:Value):Prop:=∃p n c,v= .slice p n c
theorem Rds.isSl {w:World} {v:Value} {n:Nat} {cs:List Value} (h:Rds w v n cs):isSl v:=by
 obtain⟨p,c,h1,_⟩:=h.form;exact⟨p,n,c,h1⟩
theorem Rdss.isSl {w:World} {v:Value} {ps:List (List Int)} (h:Rdss w v ps):Bl.isSl v:=by
 obtain⟨p,c,h1,_⟩:=h.form;exact⟨p,_,c,h1⟩
theorem cL_one {l:LT} {vp vs vb:Value} (h1:isSl vp) (h2:isSl vs) (h3:isSl vb):∀c∈cL l vp vs vb,c.oneCell'=true:=fun c hc=>by
 obtain⟨p1,n1,c1,rfl⟩:=h1
 obtain⟨p2,n2,c2,rfl⟩:=h2
 obtain⟨p3,n3,c3,rfl⟩:=h3
 unfold cL at hc
 simp only [List.mem_cons,List.not_mem_nil,or_false]at hc
 rcases hc with rfl | rfl | rfl | rfl | rfl | rfl | rfl | rfl | rfl<;>rfl
theorem cS3_one {p:Int} {u v:Value} (h1:isSl u) (h2:isSl v):∀c∈([.int .i64 p,u,v]:List Value),c.oneCell'=true:=fun c hc=>by
 obtain⟨p1,n1,c1,rfl⟩:=h1
 obtain⟨p2,n2,c2,rfl⟩:=h2
 simp only [List.mem_cons,List.not_mem_nil,or_false]at hc
 rcases hc with rfl | rfl | rfl<;>rfl
theorem isSl_nil:isSl (.slice none 0 0):=⟨_,_,_,rfl⟩
end Go.Proofs.Bl
