/- Texts that stood apart, in one: LetQ, LetU, BldV, GrowK. -/
import Derived.Test.YtglenbikdahgjaaGreatDoorPk10
import Derived.Test.YtglenbikdahgjaaGreatDoorPk05
import Derived.Test.YtglenbikdahgjaaGreatDoorPk00
import Derived.Test.YtglenbikdahgjaaGreatDoorPk04
set_option maxRecDepth 100000
set_option maxHeartbeats 16000000
namespace Go.Proofs.Bl
open Go Go.RowKit
def tkB (k:Nat) (b:List Int):Option (List Int × List Int):=if k<=b.length then some (b.take k,b.drop k)else none
def bnd {α β :Type} (x:Option (α × List Int)) (f: α ->List Int->Option β):Option β :=match x with
 | none=>none
 | some (a,r)=>f a r
def numRn (n:Int) (l:List Int):Int:=l.foldl (fun n c=>min n 2199023255552*256+c) n
def numR (l:List Int):Int:=numRn 0 l
def rdN (k:Nat) (b:List Int):Option (Int × List Int):=bnd (tkB k b) fun x r=>some (numR x,r)
def rep {α :Type} (f:List Int->Option (α × List Int)):Nat->List Int->Option (List α × List Int)
 | 0,b=>some ([],b)
 | n+1,b=>bnd (f b) fun x r=>bnd (rep f n r) fun xs r'=>some (x :: xs,r')
def shP (b:List Int):Option (Sh × List Int):=bnd (rdN 2 b) fun p r=>bnd (tkB 16 r) fun st r=>bnd (rdN 1 r) fun c r=>bnd (rep (tkB 32) c.toNat r) fun ds r=>some ((p,st,ds),r)
def rstP (k i o:Int) (b:List Int):Option (LT × List Int):=
 if k=6 then bnd (rdN 2 b) fun f r=>bnd (rdN 2 r) fun n r=>bnd (rep (tkB 16) n.toNat r) fun bs r=>some (⟨k,i,o,[],[],f,0,bs,0⟩,r)
 else if k=1 then bnd (rdN 2 b) fun n r=>bnd (rep (tkB 16) n.toNat r) fun bs r=>some (⟨k,i,o,[],[],0,0,bs,0⟩,r)
 else if k=3 then bnd (rdN 1 b) fun n r=>bnd (rep (rdN 2) n.toNat r) fun ps r=>some (⟨k,i,o,ps,[],0,0,[],0⟩,r)
 else if k=4 then bnd (rdN 1 b) fun n r=>bnd (rep shP n.toNat r) fun ss r=>some (⟨k,i,o,[],ss,0,0,[],0⟩,r)
 else if k=5 then bnd (rdN 2 b) fun f r=>bnd (rdN 2 r) fun c r=>some (⟨k,i,o,[],[],f,c,[],0⟩,r)
 else if k=7 then bnd (rdN 1 b) fun c r=>some (⟨k,i,o,[],[],0,0,[],c⟩,r)
 else some (⟨k,i,o,[],[],0,0,[],0⟩,b)
def bodP (k:Int) (b:List Int):Option (LT × List Int):=bnd (rdN 8 b) fun i r=>bnd (rdN 8 r) fun o r=>rstP k i o r
def endP (x:Option (LT × List Int)):Nat × LT:=match x with
 | none=>(2,lt0)
 | some (l,[])=>if chkL l=0 then(0,l)else(chkL l,lt0)
 | some (_,_ :: _)=>(4,lt0)
def parseL (b:List Int):Nat × LT:=
 if 8000 < b.length then(3,lt0)else match b with
 | []=>(2,lt0)
 | k :: r=>if wi k 1 7=false then(7,lt0)else endP (bodP k r)
def numF:Int->List Int->Int
 | n,[]=>n
 | n,c :: r=>if 2199023255552 < n then -1 else numF (n*256+c) r
theorem chk_parts {l:LT} (h:chkL l=0):(1<=l.kind/\l.kind<=7)/\numOk l=true/\sizOk l=true/\frmOk l=true/\(bytL l).length<=8000:=by
 unfold chkL at h
 by_cases h1:wi l.kind 1 7=false
 ·rw [if_pos h1]at h;cases h
 rw [if_neg h1]at h
 by_cases h2:numOk l=false
 ·rw [if_pos h2]at h;cases h
 rw [if_neg h2]at h
 by_cases h3:sizOk l=false
 ·rw [if_pos h3]at h;cases h
 rw [if_neg h3]at h
 by_cases h4:frmOk l=false
 ·rw [if_pos h4]at h;cases h
 rw [if_neg h4]at h
 by_cases h5:8000 < (bytL l).length
 ·rw [if_pos h5]at h;cases h
 exact⟨wi_iff.1 (by simpa using h1),by simpa using h2,by simpa using h3,by simpa using h4,by omega⟩
abbrev Rst:=Bool × List Int
def tkT (n:Nat) (s:Rst):List Int × Rst:=if s.1=false/\n<=s.2.length then(s.2.take n,(false,s.2.drop n))else([],(true,s.2))
def nuT (n:Nat) (s:Rst):Int × Rst:=(numR (tkT n s).1,(tkT n s).2)
def eaT {α :Type} (f:Rst->List α × Rst):Nat->Rst->List α × Rst
 | 0,s=>([],s)
 | n+1,s=>if s.1=true then([],s)else((f s).1++(eaT f n (f s).2).1,(eaT f n (f s).2).2)
def blT (s:Rst):List (List Int) × Rst:=([(tkT 16 s).1],(tkT 16 s).2)
def plT (s:Rst):List Int × Rst:=([(nuT 2 s).1],(nuT 2 s).2)
def paT (s:Rst):List (List Int) × Rst:=(if (tkT 32 s).1=[]then []else [(tkT 32 s).1],(tkT 32 s).2)
def shT (s:Rst):Sh × Rst:=
 (((nuT 2 s).1,(tkT 16 (nuT 2 s).2).1,(eaT paT (nuT 1 (tkT 16 (nuT 2 s).2).2).1.toNat (nuT 1 (tkT 16 (nuT 2 s).2).2).2).1),(eaT paT (nuT 1 (tkT 16 (nuT 2 s).2).2).1.toNat (nuT 1 (tkT 16 (nuT 2 s).2).2).2).2)
def ssT (s:Rst):List Sh × Rst:=([(shT s).1],(shT s).2)
def rsT (k i o:Int) (s:Rst):LT × Rst:=
 if k=6 then(⟨k,i,o,[],[],(nuT 2 s).1,0,(eaT blT (nuT 2 (nuT 2 s).2).1.toNat (nuT 2 (nuT 2 s).2).2).1,0⟩,(eaT blT (nuT 2 (nuT 2 s).2).1.toNat (nuT 2 (nuT 2 s).2).2).2)
 else if k=1 then(⟨k,i,o,[],[],0,0,(eaT blT (nuT 2 s).1.toNat (nuT 2 s).2).1,0⟩,(eaT blT (nuT 2 s).1.toNat (nuT 2 s).2).2)
 else if k=3 then(⟨k,i,o,(eaT plT (nuT 1 s).1.toNat (nuT 1 s).2).1,[],0,0,[],0⟩,(eaT plT (nuT 1 s).1.toNat (nuT 1 s).2).2)
 else if k=4 then(⟨k,i,o,[],(eaT ssT (nuT 1 s).1.toNat (nuT 1 s).2).1,0,0,[],0⟩,(eaT ssT (nuT 1 s).1.toNat (nuT 1 s).2).2)
 else if k=5 then(⟨k,i,o,[],[],(nuT 2 s).1,(nuT 2 (nuT 2 s).2).1,[],0⟩,(nuT 2 (nuT 2 s).2).2)
 else if k=7 then(⟨k,i,o,[],[],0,0,[],(nuT 1 s).1⟩,(nuT 1 s).2)
 else(⟨k,i,o,[],[],0,0,[],0⟩,s)
def Br {α :Type} (P:List Int->Option (α × List Int)) (T:Rst-> α × Rst):Prop:=
 (∀b,(T (true,b)).2.1=true)/\∀b,match P b with
  | some (x,r)=>T (false,b)=(x,(false,r))
  | none=>(T (false,b)).2.1=true
def finT (x:LT × Rst):Nat × LT:=if x.2.1=true then(2,lt0)else if 0 < x.2.2.length then(4,lt0)else if chkL x.1=0 then(0,x.1)else(chkL x.1,lt0)
structure Kq (Q:Nat->Prop) (w w':World):Prop where
 os:w'.os=w.os
 tape:w'.tape=w.tape
 output:w'.output=w.output
 size:w.heap.size<=w'.heap.size
 block:∀k,k < w.heap.size->¬Q k->w'.heap[k]? =w.heap[k]?
section
variable {Q Q':Nat->Prop} {a b c w w':World}
theorem Kq.refl (w:World):Kq Q w w:=⟨rfl,rfl,rfl,Nat.le_refl _,fun _ _ _=>rfl⟩
theorem Kq.trans (h:Kq Q a b) (k:Kq Q b c):Kq Q a c:=⟨k.os.trans h.os,k.tape.trans h.tape,k.output.trans h.output,Nat.le_trans h.size k.size,fun i hi hq=>(k.block i (Nat.lt_of_lt_of_le hi h.size) hq).trans (h.block i hi hq)⟩
theorem Kq.drew (w:World):Kq Q w w.drew:=⟨rfl,rfl,rfl,Nat.le_refl _,fun _ _ _=>rfl⟩
theorem Kq.of_ext (h:Ext w w'):Kq Q w w':=⟨h.os,h.tape,h.output,h.size,fun k hk _=>h.block k hk⟩
theorem Kq.mono (h:Kq Q w w') (hq:∀k,k < w.heap.size->Q k->Q' k):Kq Q' w w':=⟨h.os,h.tape,h.output,h.size,fun k hk hn=>h.block k hk fun q=>hn (hq k hk q)⟩
theorem Kq.below (h:Kq Q w w') {B:Nat} (hB:B<=w.heap.size) (hq:∀k,Q k->B<=k):Below B w w':=⟨h.os,h.tape,h.output,h.size,fun k hk=>h.block k (by omega) fun q=>by have:=hq k q;omega⟩
theorem Kq.ext (h:Kq Q w w') (hq:∀k,Q k->w.heap.size<=k):Ext w w':=h.below (Nat.le_refl _) hq
theorem Kq.setCell (h:Kq Q w w') (p:Addr) (hp:Q p.block) (v:Value):Kq Q w (w'.setCell p v):=
 ⟨h.os,h.tape,h.output,Nat.le_trans h.size ((Below.refl 0 w').setCell (Nat.zero_le _) v).size,fun k hk hn=>(Below.heap_setCell w' p v k (fun e=>hn (e▸hp))).trans (h.block k hk hn)⟩
theorem Kq.setCells {g:Nat} (h:Kq Q w w') (hg:Q g) (o:Nat) (vs:List Value):Kq Q w (w'.setCells g o vs):=by
 have hb:=below_setCells vs g o w' (Below.refl 0 w') (Nat.zero_le _)
 exact⟨hb.os.trans h.os,hb.tape.trans h.tape,hb.output.trans h.output,Nat.le_trans h.size hb.size,fun k hk hn=>(exc_setCells (g:=g) vs o w' (Exc.refl g w') k (fun e=>hn (e▸hg))).trans (h.block k hk hn)⟩
theorem Kq.grown {row:Option Nat} (hg:w.grownBy w' row) (hq:∀k,row=some k->Q k):Kq Q w w':=⟨hg.os,hg.tape,hg.output,hg.size,fun k hk hn=>hg.block k hk fun q=>hn (hq k q.symm)⟩
theorem Kq.cell {k i:Nat} {v:Value} (h:Kq Q w w') (hk:¬Q k) (hc:w.cell? ⟨k,i,none⟩=some v):w'.cell? ⟨k,i,none⟩=some v:=by
 rw [World.cell?_of_block (w:=w) (h.block k (World.block_lt_of_cell? _ _ hc) hk)];exact hc
theorem Kq.box {X:Nat} {cs:List Value} (h:Kq Q w w') (hk:¬Q X) (hb:BoxC w X cs):BoxC w' X cs:=hb.same (h.block X hb.lt hk)
end
structure Rdr (w:World) (X:Nat) (s:Rst):Prop where
 ex:∃p c,BoxC w X [.slice p s.2.length c,.bool s.1]/\RdsF (fun k=>k < X) w (.slice p s.2.length c) s.2.length (ints .u8 s.2)/\s.2.length<=c/\c<=maxLen
 by':Byt s.2
 le:s.2.length<=9000
structure Chn (ic ib ia tc tb ta:Nat) (S0:World->Prop) (S1 S2 S3:Value->World->Prop) (d:Nat->Bool) (u:Nat->Value) (w:World):Prop where
 a:d ic=false->S0 w
 b:d ic=true->d ib=false->S1 (u tc) w
 c:d ib=true->d ia=false->S2 (u tb) w
 d:d ia=true->S3 (u ta) w
section
variable {ic ib ia tc tb ta:Nat} {S0:World->Prop} {S1 S2 S3:Value->World->Prop} {d:Nat->Bool} {u:Nat->Value} {w w':World}
end
theorem fill_oneV (cells:Array Value) (v:Value) (n:Nat) (hc:cells.size=n) (hs:v.cells.size=n):Instr.fill (fun i=>some (i*n,n)) cells [(0,v)]=some v.cells:=by
 have h:=fill_one cells v.cells n hc hs
 simp only [Instr.fill,Value.cells]at h⊢
 exact h
section
variable {P:Program} {R:World->World->Prop} {w:World} {ev:Nat->Value} {φ :Value->World->Prop} {d:Option Tmp} {tt t e:TypeId} {z:Value} {bytes n:Nat} {pp:String} {af:Array Edge} {g:Option (Nat × Bool)} {x:Operand}
theorem goodX_buildV (hT:SlT P t e z n bytes) (hn:n<=1000) {v:Value} (hx:evalE ev x=v) (hs:v.cells.size=n) (hφ:R w (w.alloc (.cells v.cells e))/\ φ (.slice (some ⟨w.heap.size,0,none⟩) 1 1) (w.alloc (.cells v.cells e))):
  GoodX R P w φ ((execOp (evalE ev) ⟨d,.buildSlice t 1 #[(0,x)],tt,pp,af,g⟩).run P w):=by
 obtain⟨i,hi,hz,hs1,hb1⟩:=info_parts hT.info
 have hp:=hT.pos
 have h:(Instr.buildSlice t 1 #[(0,v)]).run P w= .ok (.slice (some ⟨w.heap.size,0,none⟩) 1 1) (w.alloc (.cells v.cells e)):=by
  refine run_buildSlice w t e 1 #[(0,v)] v.cells i z hT.ht hi hz (by rw [hs1];omega) (by rw [hs1];omega) ?_
  rw [hs1]
  exact fill_oneV _ v n (by simp) hs
 unfold execOp
 simp only [hx,List.map_toArray,List.map_cons,List.map_nil,Sem.run_bind,Sem.run_pure,h,Result.andThen_ok]
 exact hφ
end
structure GP {α :Type} (f: α ->List Value) (s:Nat) (Ok:(Nat->Prop)->World-> α ->Prop) (B:Nat) (w:World) (X fi:Nat) (cs:List Value) (v:Value) (M:List α):Prop where
 box:BoxC w X cs
 fld:cs[fi]? =some v
 own:Pk w B s v M.length (cellsR f M)
 ok:∀x∈M,Ok (fun b=>b≠X/\v.ownBlock≠some b/\B<=b) w x
 ne:v.ownBlock≠some X
section
variable {α :Type} {f: α ->List Value} {s:Nat} {Ok:(Nat->Prop)->World-> α ->Prop} {B:Nat} {w w1 w2:World} {X fi:Nat} {cs:List Value} {v v':Value} {M:List α} {y: α} {Q:Nat->Prop}
end
section
variable {α :Type} (f: α ->List Value) (s:Nat) (Ok:(Nat->Prop)->World-> α ->Prop) (B X Y fi:Nat) (cs:List Value) (vr:Value) (M:List α) (Pr: α ->Prop) (sa sb:Rst)
def C0 (w:World):Prop:=Rdr w X sa/\GP f s Ok B w Y fi cs vr M/\B<=w.heap.size
def C1 (v:Value) (w:World):Prop:=∃y,Pr y/\v.cells=(f y).toArray/\(f y).length=s/\(∀c∈f y,c.oneCell'=true)/\Ok (fun b=>b≠Y/\vr.ownBlock≠some b/\B<=b) w y/\Rdr w X sb/\GP f s Ok B w Y fi cs vr M/\B<=w.heap.size
def C2 (v:Value) (w:World):Prop:=∃y g,v= .slice (some ⟨g,0,none⟩) 1 1/\w.rangeAt g 0 (f y)/\Pr y/\(f y).length=s/\(∀c∈f y,c.oneCell'=true)/\Ok (fun b=>b≠Y/\vr.ownBlock≠some b/\B<=b) w y/\Rdr w X sb/\GP f s Ok B w Y fi cs vr M/\B<=w.heap.size
def C3 (v:Value) (w:World):Prop:=∃y p c,v= .slice p (M.length+1) c/\Pr y/\w.cell? ⟨Y,fi,none⟩=some vr/\w.frozen? ⟨Y,fi,none⟩=false/\GP f s Ok B (w.setCell ⟨Y,fi,none⟩ v) Y fi (cs.set fi v) v (M++[y])/\Rdr (w.setCell ⟨Y,fi,none⟩ v) X sb
end
section
variable {α :Type} {f: α ->List Value} {s:Nat} {Ok:(Nat->Prop)->World-> α ->Prop} {B X Y fi:Nat} {cs:List Value} {vr:Value} {M:List α} {Pr: α ->Prop} {sa sb:Rst} {w w':World}
end
section
variable {P:Program} {R:World->World->Prop} {α :Type} {f: α ->List Value} {s:Nat} {Ok:(Nat->Prop)->World-> α ->Prop} {B X Y fi:Nat} {cs:List Value} {vr:Value} {M:List α} {Pr: α ->Prop} {sb:Rst} {w:World} {ev:Nat->Value} {φ :Value->World->Prop} {d:Option Tmp} {tt t e:TypeId} {z:Value} {bytes n:Nat} {pp:String} {af:Array Edge} {g:Option (Nat × Bool)} {x y:Operand}
end
def EachEnd (I:Nat->Rst->World->Prop) (n:Nat) (w:World):Prop:=∃k s,k<=n/\I k s w/\(k=n\/s.1=true)
end Go.Proofs.Bl
