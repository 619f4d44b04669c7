/- Texts that stood apart, in one: LetF, LD1, LetG, LD2. -/
import Derived.Laws.Closers25b
import Derived.Test.YtglenbikdahgjaaGreatDoorPs10
import Derived.Test.YtglenbikdahgjaaGreatDoorPs09
set_option maxRecDepth 100000
set_option maxHeartbeats 16000000
open And renaming intro->Dj
open Go renaming Calls->CZ,Program->Ds,TypeId->Dn,Value->CQ,World->CP,maxLen->Dc,run_underlying->Fa
open Go.MapKept renaming run_getObj_map->Fe
open Go.Result renaming andThen->Ff
open Go.RowKit.Below renaming refl->CT,trans->DC
open Go.Value renaming slice->EG
open Go.World renaming block_lt_of_cell?->CW,cell?_of_block->Dp
open List renaming getD_eq_getElem?_getD->CR,getElem?_eq_getElem->CV,getElem?_map->DE,getElem_mem->DW,getElem_of_mem->Ev,length->Ej,length_map->CY,length_set->Ea,mem_append->Dz,mem_map->DM,mem_singleton->EV,replicate->Dl,take_length->Fl,take_of_length_le->CX
open Nat renaming add_zero->Gl,le_refl->CU,le_trans->Dk,lt_of_le_of_lt->EE,lt_of_lt_of_le->Dd,mul_one->EZ,zero_add->Dq,zero_le->C9,zero_mul->Gg
open Option renaming none->DG,some->DJ
open Option.some renaming inj->Ei
namespace Go.Proofs.Bl
open Go Go.RowKit Go.Proofs
open Go.Proofs.Tryz renaming prog->CO
variable {size n base cap j m i:Nat}
def uY (n:Nat) (s:bS):List Int × bS:=if s.1=false/\n<=s.2.length then(s.2.take n,(false,s.2.drop n))else(Dl n 0,(true,s.2))
def gA (n:Nat) (s:bS):Int × bS:=(fR (uY n s).1,(uY n s).2)
def zk (s:bS):List (List Int) × bS:=([(uY 16 s).1],(uY 16 s).2)
def zV (s:bS):List Int × bS:=([(gA 2 s).1],(gA 2 s).2)
def zX (s:bS):List (List Int) × bS:=([(uY 32 s).1],(uY 32 s).2)
def zY (s:bS):Sh × bS:=
 (((gA 2 s).1,(uY 16 (gA 2 s).2).1,(du zX (gA 1 (uY 16 (gA 2 s).2).2).1.toNat (gA 1 (uY 16 (gA 2 s).2).2).2).1),(du zX (gA 1 (uY 16 (gA 2 s).2).2).1.toNat (gA 1 (uY 16 (gA 2 s).2).2).2).2)
def zZ (s:bS):List Sh × bS:=([(zY s).1],(zY s).2)
def Bb (k i o:Int) (s:bS):BC × bS:=
 if k=6 then(⟨k,i,o,[],[],(gA 2 s).1,0,(du zk (gA 2 (gA 2 s).2).1.toNat (gA 2 (gA 2 s).2).2).1,0⟩,(du zk (gA 2 (gA 2 s).2).1.toNat (gA 2 (gA 2 s).2).2).2)
 else if k=1 then(⟨k,i,o,[],[],0,0,(du zk (gA 2 s).1.toNat (gA 2 s).2).1,0⟩,(du zk (gA 2 s).1.toNat (gA 2 s).2).2)
 else if k=3 then(⟨k,i,o,(du zV (gA 1 s).1.toNat (gA 1 s).2).1,[],0,0,[],0⟩,(du zV (gA 1 s).1.toNat (gA 1 s).2).2)
 else if k=4 then(⟨k,i,o,[],(du zZ (gA 1 s).1.toNat (gA 1 s).2).1,0,0,[],0⟩,(du zZ (gA 1 s).1.toNat (gA 1 s).2).2)
 else if k=5 then(⟨k,i,o,[],[],(gA 2 s).1,(gA 2 (gA 2 s).2).1,[],0⟩,(gA 2 (gA 2 s).2).2)
 else if k=7 then(⟨k,i,o,[],[],0,0,[],(gA 1 s).1⟩,(gA 1 s).2)
 else(⟨k,i,o,[],[],0,0,[],0⟩,s)
structure vW (L:Nat) (w:CP) (X:Nat) (s:bS):Prop where
 ex:∃p c at' b,aw w X [.slice p L c,.int .i64 (at':Nat),.bool s.1]/\b.length=L/\at'<=L/\s.2=b.drop at'/\aY (fun k=>k < X) w (.slice p L c) L (aj .u8 b)/\L<=c/\c<=Dc
 BJ:bI s.2
 le:L<=9000
section
variable (Len:Nat) {α :Type} (f: α ->List CQ) (s:Nat) (Ok:(Nat->Prop)->CP-> α ->Prop) (B X Y fi:Nat) (cs:List CQ) (vr:CQ) (M:List α) (Pr: α ->Prop) (sa sb:bS)
def F0 (w:CP):Prop:=vW Len w X sa/\GP f s Ok B w Y fi cs vr M/\B<=w.heap.size
def F1 (v:CQ) (w:CP):Prop:=∃y,Pr y/\v.cells=(f y).toArray/\(f y).length=s/\(∀c∈f y,c.oneCell'=true)/\Ok (fun b=>b≠Y/\vr.ownBlock≠some b/\B<=b) w y/\vW Len w X sb/\GP f s Ok B w Y fi cs vr M/\B<=w.heap.size
def F2 (v:CQ) (w:CP):Prop:=∃y g,v=.slice (some ⟨g,0,none⟩) 1 1/\w.rangeAt g 0 (f y)/\Pr y/\(f y).length=s/\(∀c∈f y,c.oneCell'=true)/\Ok (fun b=>b≠Y/\vr.ownBlock≠some b/\B<=b) w y/\vW Len w X sb/\GP f s Ok B w Y fi cs vr M/\B<=w.heap.size
def F3 (v:CQ) (w:CP):Prop:=∃y p c,v=.slice p (M.length+1) c/\Pr y/\w.cell? ⟨Y,fi,none⟩=some vr/\w.frozen? ⟨Y,fi,none⟩=false/\GP f s Ok B (w.setCell ⟨Y,fi,none⟩ v) Y fi (cs.set fi v) v (M++[y])/\vW Len (w.setCell ⟨Y,fi,none⟩ v) X sb
end
section
variable {Len:Nat} {α :Type} {f: α ->List CQ} {s:Nat} {Ok:(Nat->Prop)->CP-> α ->Prop} {B X Y fi:Nat} {cs:List CQ} {vr:CQ} {M:List α} {Pr: α ->Prop} {sa sb:bS} {w w':CP}
end
section
variable {Len:Nat} {P:Ds} {R:CP->CP->Prop} {α :Type} {f: α ->List CQ} {s:Nat} {Ok:(Nat->Prop)->CP-> α ->Prop} {B X Y fi:Nat} {cs:List CQ} {vr:CQ} {M:List α} {Pr: α ->Prop} {sb:bS} {w:CP} {ev:Nat->CQ} {φ :CQ->CP->Prop} {d:Option Tmp} {tt t e:Dn} {z:CQ} {bytes n:Nat} {pp:String} {af:Array Edge} {g:Option (Nat × Bool)} {x y:Operand}
end
def AE (B:Nat) (w:CP) (v:CQ) (l:BC):Prop:=∃vp vs vb L,v=.agg (cL l vp vs vb).toArray/\cn (fun k=>B<=k) w l vp vs vb L
def AF (pr:Nat × BC) (w:CP) (e:Ending) (w':CP):Prop:=∃v',e=.returned (.tuple #[v',.int .i64 (pr.1:Nat)])/\AE w.heap.size w' v' pr.2/\au w w'
structure JB (Len B X Y fi:Nat) (cs:List CQ) (vr:CQ) (M:List Bv) (sa sb:bS) (st:List Int) (W0:CP) (d:Nat->Bool) (u:Nat->CQ) (w:CP):Prop where
 kk:d 7=false->Kq (fun k=>k=X\/W0.heap.size<=k) W0 w
 a:d 4=false->vW Len w X sa
 b:d 4=true->d 7=false->vW Len w X sb
 c:d 2=true->d 5=false->Pk w W0.heap.size 1 (u 77) 0 []
 e:d 4=true->d 5=false->Bu w .u8 (u 79) st
 f:d 5=true->d 6=false->Pk w W0.heap.size 1 (u 80) st.length (aj .u8 st)
 g:d 6=true->d 7=false->F2 Len cB 1 ju B X Y fi cs vr M (fun y=>y.2=st) sb (u 81) w
 h:d 7=true->F3 Len cB 1 ju B X Y fi cs vr M (fun y=>y.2=st) sb (u 82) w
section
variable {Len B X Y fi:Nat} {cs:List CQ} {vr:CQ} {M:List Bv} {sa sb:bS} {st:List Int} {W0:CP} {d:Nat->Bool} {u:Nat->CQ} {w w':CP}
end
structure JI (Len B X Y fi:Nat) (cs:List CQ) (vr:CQ) (M:List Int) (sa sb:bS) (st:List Int) (n:Int) (d:Nat->Bool) (u:Nat->CQ) (w:CP):Prop where
 a:d 3=false->F0 Len cI 1 jL B X Y fi cs vr M sa w
 b:d 3=true->d 4=false->Bu w .u8 (u 104) st/\F0 Len cI 1 jL B X Y fi cs vr M sb w
 c:d 4=true->d 5=false->F1 Len cI 1 jL B X Y fi cs vr M (fun y=>y=n) sb (u 105) w
 e:d 5=true->d 6=false->F2 Len cI 1 jL B X Y fi cs vr M (fun y=>y=n) sb (u 106) w
 f:d 6=true->F3 Len cI 1 jL B X Y fi cs vr M (fun y=>y=n) sb (u 107) w
section
variable {Len B X Y fi:Nat} {cs:List CQ} {vr:CQ} {M:List Int} {sa sb:bS} {st:List Int} {n:Int} {d:Nat->Bool} {u:Nat->CQ} {w w':CP}
end
structure Bc (Len X:Nat) (sa sb:bS) (st:List Int) (d:Nat->Bool) (u:Nat->CQ) (w:CP):Prop where
 a:d 2=false->vW Len w X sa
 b:d 2=true->vW Len w X sb/\Bu w .u8 (u 151) st
section
variable {Len X:Nat} {sa sb:bS} {st:List Int} {d:Nat->Bool} {u:Nat->CQ} {w w':CP}
end
section
variable {P:Ds} {ops:Array Oper} {rest:List Oper} {a:Act} {w w':CP} {Q:Exit->Act->CP->Prop} {d:Option Tmp} {tt t t2:Dn} {pp:String} {af:Array Edge} {s x:Operand} {v u r:CQ}
end
def z7 (L X nb:Nat) (s:bS) (y:List Int) (s':bS):Prop:=∀w2,vW L w2 X s->CZ CO 97 #[.pointer (some ⟨X,0,none⟩),.int .i64 nb] w2 fun e w'=>∃v',e=.returned v'/\Bu w' .u8 v' y/\vW L w' X s'/\Kq (fun k=>k=X) w2 w'
def AG (y:List Int) (z:Int):Prop:=∀v w2,Bu w2 .u8 v y->CZ CO 96 #[v] w2 fun e w'=>e=.returned (.int .i64 z)/\w'=w2
def AH (x:Int):Int:=bits .xor .u8 x 1
def zx (b:List Int) (y:Int):List Int:=if 0 < b.length then b.set (y % (b.length:Int)).toNat (AH (b.getD (y % (b.length:Int)).toNat 0))else b
def AJ (s:Sh) (y:Int):Sh:=(s.1,zx s.2.1 y,s.2.2)
def AK (s:Sh) (y:Int):Sh:=if 0 < s.2.2.length then(s.1,s.2.1,s.2.2.set 0 (zx (s.2.2.getD 0 []) y))else s
def AL (L:List Sh) (i:Nat):List Sh:=(L.set 0 ((L.getD 0 h0).1,(L.getD i h0).2)).set i ((L.getD i h0).1,(L.getD 0 h0).2)
def y7 (k:Int) (i:Nat) (y:Int) (L:List Sh):List Sh:=
 if k=1 then L.set i (AJ (L.getD i h0) y)else if k=2 then L.set i (AK (L.getD i h0) y)else if k=3 then AL L i
 else if k=4 then(if 1 < L.length then L.eraseIdx i else L)else if k=5 then L.set i (y % 512,(L.getD i h0).2)else L
def uZ (k at' y:Int) (l:BC):BC:=if l.kind=4/\0 < l.shown.length then {l with shown:=y7 k (at' % (l.shown.length:Int)).toNat y l.shown} else l
def kK (k at' y:Int) (l:BC):BC × Bool:=
 if k=9 then(dW,false)else if k=6 then(⟨7,l.id,l.obj,[],[],0,0,[],1⟩,true)else if k=7 then({l with id:=(l.id+1) % 1099511627777},true)
 else if k=8 then({l with obj:=at'},true)
 else if k=1/\l.kind=6/\0 < l.blocks.length then({l with blocks:=l.blocks.set (at' % (l.blocks.length:Int)).toNat (zx (l.blocks.getD (at' % (l.blocks.length:Int)).toNat []) y)},true)
 else(uZ k at' y l,true)
def Bd (k at' y:Int) (l:BC) (w:CP) (e:Ending) (w':CP):Prop:=∃v',e=.returned (.tuple #[v',.bool (kK k at' y l).2])/\eg w' v' (kK k at' y l).1/\au w w'
def Pq (lo hi:Nat) (w:CP) (size:Nat) (v:CQ) (n:Nat) (cs:List CQ):Prop:=Pk w lo size v n cs/\∀b,v.ownBlock=some b->b < hi
theorem Pq.AS {e B:Nat} {w:CP} {v:CQ} {cs:List CQ} (h:w.ownsRow B e size v n cs):Pq B w.heap.size w size v n cs:=⟨Pk.AS h,fun b a=>(h.lt b a).2⟩
structure EP (lo hi:Nat) (w:CP) (x:Sv):Prop where
 st:Pq lo hi w 1 x.2.1.1 x.2.1.2.length (aj .u8 x.2.1.2)
 pa:Pq lo hi w 32 x.2.2.1 x.2.2.2.length (aO x.2.2.2)
 ne:∀b,x.2.1.1.ownBlock=some b->x.2.2.1.ownBlock≠some b
 bs:bI x.2.1.2
 dg:dd x.2.2.2
def EB (lo hi:Nat) (w:CP) (x:Bv):Prop:=Pq lo hi w 1 x.1 x.2.length (aj .u8 x.2)/\bI x.2
def Be {α :Type} (E:Nat->Nat->CP-> α ->Prop):Prop:=∀lo hi lo' hi' w w' x,E lo hi w x->lo'<=lo->hi<=hi'->(∀b,lo<=b->b < hi->w'.heap[b]? =w.heap[b]?)->w.heap.size<=w'.heap.size->E lo' hi' w' x
def Sq {α :Type} (E:Nat->Nat->CP-> α ->Prop) (hi:Nat) (w:CP):List α ->Nat->Prop
 | [],lo=>lo<=hi
 | x :: r,lo=>∃m,lo<=m/\E lo m w x/\Sq E hi w r m
section
variable {α :Type} {E:Nat->Nat->CP-> α ->Prop} {hi:Nat} {w w':CP}
theorem xY (L:List α) (i:Nat) (y: α) (h:i < L.length):L.set i y=L.take i++y :: L.drop (i+1):=by
 rw[List.set_eq_take_append_cons_drop,if_pos h]
end
theorem Pk.put {w:CP} {g:Nat} {xs:List CQ} (h:Pk w base size (.slice (some ⟨g,0,none⟩) n cap) n xs) (d:j < xs.length) (u:CQ):Pk (w.setCell ⟨g,j,none⟩ u) base size (.slice (some ⟨g,0,none⟩) n cap) n (xs.set j u):=by
 rcases h with ⟨q,_,_⟩ | ⟨r,o,a,f,hp⟩
 ·cases q
 injection a with a _ b;injection a with a;injection a with a;subst a b;have m:=((CT 0 w).setCell (p:=⟨g,j,none⟩) (C9 _) u).size;refine .inr ⟨g,cap,rfl,f,hp.le,hp.mx,by rw[Ea];exact hp.len,fun k v c=> ?_,World.there_setCells hp.th g j [u],Dd hp.lt m⟩;rw[Dq];have b:∀i v,xs[i]? =some v->w.cell? ⟨g,i,none⟩=some v:=fun i v l=>by have:=hp.rg i v l;rwa[Dq]at this
 by_cases e:k=j
 ·subst e;rw[List.getElem?_set_self d]at c;rw[World.cell?_setCell_same' _ _ _ (by rw[b k _ (CV d)];rfl)];exact c
 ·rw[List.getElem?_set_ne (fun q=>e q.symm)]at c;exact eN (b k v c) (fun q=>e q.symm)
theorem Pk.fz {w:CP} {g:Nat} {xs:List CQ} (h:Pk w base size (.slice (some ⟨g,0,none⟩) n cap) n xs) (f:j < xs.length):w.frozen? ⟨g,j,none⟩=false:=by
 rcases h with ⟨q,_,_⟩ | ⟨d,c,a,e,hp⟩
 ·cases q
 injection a with a _ b;injection a with a;injection a with a;subst a b;have i:=hp.len;have:=(hp.th j (by have:=Nat.mul_le_mul_right size hp.le;omega)).2;rwa[Dq]at this
theorem Pk.cell {w:CP} {g:Nat} {xs:List CQ} (h:Pk w base size (.slice (some ⟨g,0,none⟩) n cap) n xs) {v:CQ} (c:xs[j]? =some v):w.cell? ⟨g,j,none⟩=some v:=by
 rcases h with ⟨q,_,_⟩ | ⟨e,d,a,f,hp⟩
 ·cases q
 injection a with a _ b;injection a with a;injection a with a;subst a b;have:=hp.rg j v c;rwa[Dq]at this
theorem Pk.form {w:CP} {v:CQ} {xs:List CQ} (h:Pk w base size v n xs) (c:0 < n):∃g cap,v=.slice (some ⟨g,0,none⟩) n cap/\base<=g/\g < w.heap.size/\n<=cap/\cap<=Dc/\w.rangeAt g 0 xs:=by
 rcases h with ⟨_,q,_⟩ | ⟨g,cap,b,a,hp⟩
 ·omega
 ·exact⟨g,cap,b,a,hp.lt,hp.le,hp.mx,hp.rg⟩
section
variable {α :Type} {f: α ->List CQ} {s:Nat}
theorem fA (a:∀x,(f x).length=s) (d y: α) (v:CQ) (j:Nat) (b:j < s):∀(L:List α) (i:Nat),i < L.length->f y=(f (L.getD i d)).set j v->(aD f L).set (i*s+j) v=aD f (L.set i y)
 | [],i,hi,_=>by cases hi
 | x :: r,0,_,hy=>by
  rw[List.set_cons_zero,dc,dc,Gg,Dq,List.set_append_left _ _ (by rw[a];exact b)];have hy:f y=(f x).set j v:=hy;rw[hy]
 | x :: r,i+1,hi,hy=>by rw[List.set_cons_succ,dc,dc,Nat.succ_mul,List.set_append_right _ _ (by rw[a];omega),a];rw[show i*s+s+j - s=i*s+j by omega,fA a d y v j b r i (by simpa using hi) hy]
theorem jm (a:∀x,(f x).length=s) (d: α) (j:Nat) (b:j < s):∀(L:List α) (i:Nat),i < L.length->(aD f L)[i*s+j]? =(f (L.getD i d))[j]?
 | [],i,hi=>by cases hi
 | x :: r,0,_=>by
  rw[dc,Gg,Dq,List.getElem?_append_left (by rw[a];exact b)];rfl
 | x :: r,i+1,hi=>by rw[dc,Nat.succ_mul,List.getElem?_append_right (by rw[a];omega),a,show i*s+s+j - s=i*s+j by omega,jm a d j b r i (by simpa using hi)];rfl
end
structure Bf (w:CP) (B N1 N2 N3 N4 N5:Nat) (l:BC) (vp vs vb:CQ) (L:List Sv) (M:List Bv):Prop where
 pl:Pq B N1 w 1 vp l.places.length (aj .i64 l.places)
 sh:Pq N1 N2 w 3 vs L.length (aD cS L)
 se:Sq EP N3 w L N2
 sl:L.map cC=l.shown
 bl:Pq N3 N4 w 1 vb M.length (aD cB M)
 be:Sq EB N5 w M N4
 bm:M.map (·.2)=l.blocks
 le:N5<=w.heap.size
 o1:B<=N1
 o2:N1<=N2
 o4:N3<=N4
section
variable {w w':CP} {B N1 N2 N3 N4 N5:Nat} {l:BC} {vp vs vb:CQ} {L:List Sv} {M:List Bv}
end
theorem au.trans' {N:Nat} {a b c:CP} (h:au a b) (k:Kq (fun k=>N<=k) b c) (d:a.heap.size<=N):au a c:=DC h (k.below (B:=a.heap.size) h.size fun _ q=>Dk d q)
theorem oF {α :Type} (L:List α) (i:Nat) (y: α) (h:i < L.length):(L.set i y).take (i+1)=L.take i++[y]:=by
 rw[xY L i y h,List.take_append,List.length_take,Nat.min_eq_left (Nat.le_of_lt h),Nat.add_sub_cancel_left,List.take_take,Nat.min_eq_right (Nat.le_succ i)];rfl
theorem rz {w:CP} {v:CQ} {ps:List (List Int)} (h:aU w v ps):∃M:List Bv,aX w v M.length (aD cB M)/\M.map (·.2)=ps/\∀x∈M,Bu w .u8 x.1 x.2:=by
 obtain⟨vs,h1,h2,c⟩:=h;refine⟨vs.zip ps,?_,?_,fun x hx=> ?_⟩
 ·rw[fy,List.map_fst_zip (by omega),List.length_zip,h2,Nat.min_self];exact h1
 ·exact List.map_snd_zip (by omega)
 ·obtain⟨i,d,rfl⟩:=Ev hx;have a:i < vs.length/\i < ps.length:=by rw[List.length_zip]at d;omega
  have b:=c i a.2;rw[CR,CR,CV a.1,CV a.2]at b;rw[List.getElem_zip];exact b
structure Bg (N1 n cap g i:Nat) (st:List Int) (pa:List (List Int)) (xs:List CQ) (W0:CP) (d:Nat->Bool) (u:Nat->CQ) (w:CP):Prop where
 k:d 14=false->au W0 w
 b:d 8=true->Pq W0.heap.size w.heap.size w 1 (u 31) st.length (aj .u8 st)
 c:d 11=true->Pq W0.heap.size w.heap.size w 32 (u 34) pa.length (aO pa)/\(∀b,(u 31).ownBlock=some b->(u 34).ownBlock≠some b)
 r:d 14=false->Pk w N1 3 (.slice (some ⟨g,0,none⟩) n cap) n xs
 r2:d 14=true->Pk w N1 3 (.slice (some ⟨g,0,none⟩) n cap) n (xs.set (i*3+1) (u 31))
section
variable {N1 n cap g i:Nat} {st:List Int} {pa:List (List Int)} {xs:List CQ} {W0:CP} {d:Nat->Bool} {u:Nat->CQ} {w w':CP}
end
structure AM (st:List Int) (W0:CP) (d:Nat->Bool) (u:Nat->CQ) (w:CP):Prop where
 k:au W0 w
 b:d 4=true->Pq W0.heap.size w.heap.size w 1 (u 56) st.length (aj .u8 st)
section
variable {st:List Int} {W0:CP} {d:Nat->Bool} {u:Nat->CQ} {w w':CP}
end
theorem lN (w:CP) {o:Obj} (hm:m < w.heap.size):({w with heap:=w.heap.setIfInBounds m o}:CP).heap[m]? =some o:=by
 simp[hm]
theorem oG (w:CP) (m:Nat) (o:Obj):Kq (fun k=>k=m) w {w with heap:=w.heap.setIfInBounds m o}:=
 ⟨rfl,rfl,rfl,by simp,fun k _ a=>by simp[Ne.symm a]⟩
theorem wT {mp:List (Int × CQ)} {n:Int} (h:dF mp n=none):∀p∈mp,p.1≠n:=fun p hp q=>by
 unfold dF at h;rw[Option.map_eq_none_iff,List.find?_eq_none]at h;exact h p hp (by simpa using q)
theorem bJ.key {es:List MapEntry} {mp:List (Int × CQ)} (h:es.map (fun e=>(e.key,e.val))=mp.map fun x=>(Value.int .i64 x.1,x.2)) {e:MapEntry} (he:e∈es):∃p∈mp,e.key=.int .i64 p.1/\e.val=p.2:=by
 have h1:(e.key,e.val)∈es.map (fun e=>(e.key,e.val)):=List.mem_map_of_mem (f:=fun e:MapEntry=>(e.key,e.val)) he;rw[h]at h1;obtain⟨p,hp,a⟩:=DM.1 h1;exact⟨p,hp,(congrArg Prod.fst a).symm,(congrArg Prod.snd a).symm⟩
theorem bJ.put {P:Ds} {t k e:Dn} {w:CP} {mp:List (Int × CQ)} (n:P.underlying t=some (.map k e)) (a:P.underlying k=some (.int .i64)) (h:bJ w m mp) (x:Int) (v:CQ) (b:dF mp x=none):
  ∃w',(Instr.mapUpdate t (.map (some m)) (.int .i64 x) v).run P w=.ok () w'/\bJ w' m (mp++[(x,v)])/\Kq (fun k=>k=m) w w':=by
 have j:=h.lt;obtain⟨es,c,h1,h2,g⟩:=h;obtain⟨r,l,d⟩:=fL x es.toList mp 0 h2;rw[b]at d;have i:(Instr.checkKey false 10000 k (.int .i64 x)).run P w=.ok () w:=MapKept.run_checkKey (k:=.int .i64 x) a (by simp[MapKept.IsKey]) _ 9999;cases r with
 | some r=>cases d
 | none=>
  refine⟨_,?_,⟨es.push {key:=.int .i64 x,val:=v,born:=c},c+1,lN w j,?_,MapKept.stamped_push g fun e he q=>by
   obtain⟨p,hp,f,_⟩:=bJ.key h2 he;rw[f]at q;injection q with _ q
   exact wT b p hp q⟩,oG w m _⟩
  ·simp[Instr.mapUpdate,Fa n,Fe h1,i,MapKept.run_findKey a l,MapKept.run_setObj_map _ h1,Ff]
  ·simp[h2]
theorem bJ.len {P:Ds} {t k e ty:Dn} {w:CP} {mp:List (Int × CQ)} (b:P.underlying t=some (.map k e)) (h:bJ w m mp):(Builtin.len_ #[t] ty #[.map (some m)]).run P w=.ok (.int .i64 mp.length) w:=by
 obtain⟨es,c,h1,h2,_⟩:=h;have a:es.size=mp.length:=by have:=congrArg Ej h2;simpa using this
 simp[Builtin.len_,Fa b,Fe h1,Ff,goInt,a]
theorem u0 {mp:List (Int × CQ)} {n:Int} {v:CQ} (a:dF mp n=none) (x:Int):dF (mp++[(n,v)]) x=if x=n then some v else dF mp x:=by
 unfold dF;simp only[List.find?_append,Option.map_or];by_cases hx:x=n
 ·subst hx;unfold dF at a;cases hf:mp.find? (fun p=>decide (p.1=x))with
  | some p=>rw[hf]at a;cases a
  | none=>simp
 ·rw[if_neg hx];have:¬n=x:=fun q=>hx q.symm
  cases hf:mp.find? (fun p=>decide (p.1=x))with
  | some p=>simp
  | none=>simp[this]
theorem dt {mp:List (Int × CQ)} {n:Int} {v:CQ} (h:dF mp n=some v):(n,v)∈mp:=by
 unfold dF at h;cases hf:mp.find? (fun p=>decide (p.1=n))with
 | none=>rw[hf]at h;cases h
 | some p=>
  rw[hf]at h;have h1:=List.find?_some hf;have h2:=List.mem_of_find?_eq_some hf;have a:p.1=n:=by simpa using h1
  have b:p.2=v:=by simpa using h
  rw[<-a,<-b];exact h2
def fS (N:Nat->Prop) (w:CP) (v:CQ) (st:List (List Int)):Prop:=∃M:List Bv,Pk w 0 1 v M.length (aD cB M)/\(∀y∈M,ju (fun k=>¬N k) w y)/\M.map (·.2)=st
theorem fS.BF {N:Nat->Prop} {w:CP} {v:CQ} {st:List (List Int)} (h:fS N w v st):aU w v st:=by
 obtain⟨M,h1,h2,a⟩:=h;refine⟨M.map (·.1),?_,by rw[<-a,CY,CY],fun i b=> ?_⟩
 ·have c:=h1.BD;rw[fy]at c;rw[<-a,CY];exact c
 ·rw[<-a,CY]at b;have d:=(h2 _ (DW b)).1.BD;rw[<-a,CR,CR,DE,DE,CV b];exact d
theorem fS.Cp {N:Nat->Prop} {w:CP} {v:CQ} {st:List (List Int)} (h:fS N w v st):∀b∈st,bI b:=by
 obtain⟨M,h1,h2,c⟩:=h;intro b a;rw[<-c]at a;obtain⟨y,hy,rfl⟩:=DM.1 a;exact(h2 y hy).2
theorem fS.kept {N a:Nat->Prop} {w w':CP} {v:CQ} {st:List (List Int)} (h:fS N w v st) (e:∀k,v.ownBlock=some k->w'.heap[k]? =w.heap[k]?) (d:w.heap.size<=w'.heap.size) (c:∀k,¬N k->k < w.heap.size->¬a k/\w'.heap[k]? =w.heap[k]?):fS a w' v st:=by
 obtain⟨M,h1,h2,b⟩:=h;exact⟨M,h1.kept e d,fun y hy=>bQ _ _ _ _ _ (h2 y hy) c,b⟩
def nD (N:Nat->Prop) (w:CP):Option CQ->Option (List (List Int))->Prop
 | some v,some st=>fS N w v st
 | none,none=>True
 | _,_=>False
theorem nD.Cq {N a:Nat->Prop} {w w':CP} {o:Option (List (List Int))} (h:nD N w none o):nD a w' none o:=by
 cases o
 ·exact h
 ·exact h.elim
structure eR (N Q:Nat->Prop) (w:CP) (b m sb:Nat) (mp:List (Int × CQ)) (s:bL):Prop where
 bx:aw w b [.map (some m),.pointer (some ⟨sb,0,none⟩)]
 mt:bJ w m mp
 sn:∃any g c,aw w sb [.bool any,.int .i64 g,.int .u64 (c:Nat)]/\bV any g c s.ids
 ln:mp.length=s.AT.length
 ob:∀n,nD N w (dF mp n) (bn s n)
 qb:¬Q b
 qm:Q m
 qs:Q sb
 ms:m≠sb
 rw:∀p∈mp,∀k,p.2.ownBlock=some k->Q k/\k≠m/\k≠sb
 sz:∀k,Q k->k < w.heap.size
 dj:∀p∈mp,∀q∈mp,p.1≠q.1->∀k,p.2.ownBlock=some k->q.2.ownBlock≠some k
def gx (N Q:Nat->Prop) (w:CP) (b:Nat) (s:bL):Prop:=∃m sb mp,eR N Q w b m sb mp s
section
variable {N N' Q Q2:Nat->Prop} {w w':CP} {b m sb:Nat} {mp:List (Int × CQ)} {s:bL}
theorem eR.row (h:eR N Q w b m sb mp s) {n:Int} {v:CQ} (a:dF mp n=some v):∃st,bn s n=some st/\fS N w v st:=by
 have h1:=h.ob n;rw[a]at h1;cases hg:bn s n with
 | none=>rw[hg]at h1;exact h1.elim
 | some st=>rw[hg]at h1;exact⟨st,rfl,h1⟩
theorem eR.some (h:eR N Q w b m sb mp s) {n:Int} {st:List (List Int)} (a:bn s n=some st):∃v,dF mp n=some v/\fS N w v st:=by
 have h1:=h.ob n;rw[a]at h1;cases hv:dF mp n with
 | none=>rw[hv]at h1;exact h1.elim
 | some v=>rw[hv]at h1;exact⟨v,rfl,h1⟩
theorem eR.none (h:eR N Q w b m sb mp s) {n:Int} (a:bn s n=none):dF mp n=none:=by
 have h1:=h.ob n;rw[a]at h1;cases hv:dF mp n with
 | none=>rfl
 | some v=>rw[hv]at h1;exact h1.elim
theorem eR.kept (h:eR N Q w b m sb mp s) (k:Kq Q2 w w') (e:∀i,Q2 i->N i/\¬Q i/\i≠b) (f:∀i,N' i->N i\/w.heap.size<=i):eR N' Q w' b m sb mp s:=by
 have d:∀i,i < w.heap.size->Q i->w'.heap[i]? =w.heap[i]? :=fun i a j=>k.block i a fun q=>(e i q).2.1 j
 obtain⟨any,g,c,s1,s2⟩:=h.sn;refine⟨k.box (fun q=>(e b q).2.2 rfl) h.bx,h.mt.same (d m h.mt.lt h.qm),⟨any,g,c,s1.same (d sb s1.lt h.qs),s2⟩,h.ln,fun n=> ?_,h.qb,h.qm,h.qs,h.ms,h.rw,fun i a=>Dd (h.sz i a) k.size,h.dj⟩;have h1:=h.ob n;cases hv:dF mp n with
 | none=>rw[hv]at h1;exact nD.Cq h1
 | some v=>
  cases hg:bn s n with
  | none=>rw[hv,hg]at h1;exact h1.elim
  | some st=>
   rw[hv,hg]at h1
   exact fS.kept h1 (fun i a=>d i (h.sz i (h.rw _ (dt hv) i a).1) (h.rw _ (dt hv) i a).1) k.size fun i a l=>⟨fun q=>by
    rcases f i q with q | q
    ·exact a q
    ·omega,k.block i l fun q=>a (e i q).1⟩
theorem eR.ext (h:eR N Q w b m sb mp s) (a:au w w'):eR N Q w' b m sb mp s:=h.kept (Q2:=fun _=>False) (Kq.AI a) (fun _ q=>q.elim) fun _ q=>.inl q
theorem eR.ids (h:eR N Q w b m sb mp s) (f:∀i,Q i->N i) (k:Kq (fun i=>i=sb) w w') {any:Bool} {g:Int} {c:Nat} {ids:List Int} (e:aw w' sb [.bool any,.int .i64 g,.int .u64 (c:Nat)]) (o:bV any g c ids):eR N Q w' b m sb mp ⟨s.AT,ids⟩:=by
 have d:∀i,i < w.heap.size->i≠sb->w'.heap[i]? =w.heap[i]? :=fun i a j=>k.block i a j
 have p:sb≠b:=fun q=>h.qb (q▸h.qs)
 refine⟨k.box (fun q=>p q.symm) h.bx,h.mt.same (d m h.mt.lt h.ms),⟨any,g,c,e,o⟩,h.ln,fun n=> ?_,h.qb,h.qm,h.qs,h.ms,h.rw,fun i a=>Dd (h.sz i a) k.size,h.dj⟩;have h1:=h.ob n;show nD N w' (dF mp n) (bn s n);cases hv:dF mp n with
 | none=>rw[hv]at h1;exact nD.Cq h1
 | some v=>
  cases hg:bn s n with
  | none=>rw[hv,hg]at h1;exact h1.elim
  | some st=>rw[hv,hg]at h1;exact fS.kept h1 (fun i a=>d i (h.sz i (h.rw _ (dt hv) i a).1) (h.rw _ (dt hv) i a).2.2) k.size fun i a l=>⟨a,d i l fun q=>a (f i (q▸h.qs))⟩
theorem eR.put (h:eR N Q w b m sb mp s) (z:∀i,Q i->N i) {n:Int} {v:CQ} {st:List (List Int)} (r:bn s n=DG) (u:bJ w' m (mp++[(n,v)])) (k:Kq (fun i=>i=m) w w') (D:fS N w v st) (f:∀i,v.ownBlock=DJ i->i < w.heap.size/\i≠m/\i≠sb/\i≠b/\¬Q i):
  eR N (fun i=>Q i\/v.ownBlock=DJ i) w' b m sb (mp++[(n,v)]) ⟨s.AT++[(n,st)],s.ids⟩:=by
 have l:∀i,i < w.heap.size->i≠m->w'.heap[i]? =w.heap[i]? :=fun i a A=>k.block i a A
 have C:m≠b:=fun q=>h.qb (q▸h.qm)
 obtain⟨any,g,c,s1,s2⟩:=h.sn;have o:∀x j,fS N w x j->(∀i,x.ownBlock=DJ i->i < w.heap.size/\i≠m)->fS N w' x j:=fun x j hx a=>hx.kept (fun i q=>l i (a i q).1 (a i q).2) k.size fun i a B=>⟨a,l i B fun q=>a (z i (q▸h.qm))⟩
 refine⟨k.box (fun q=>C q.symm) h.bx,u,⟨any,g,c,k.box (fun q=>h.ms q.symm) s1,s2⟩,by simp[h.ln],fun x=> ?_,fun q=> ?_,.inl h.qm,.inl h.qs,h.ms,fun p hp i a=> ?_,fun i a=> ?_,fun p hp q d t i a e=> ?_⟩
 ·rw[u0 (h.none r),uU r];by_cases hx:x=n
  ·rw[if_pos hx,if_pos hx];exact o v st D fun i a=>⟨(f i a).1,(f i a).2.1⟩
  ·rw[if_neg hx,if_neg hx];have h1:=h.ob x;cases hgv:dF mp x with
   | none=>rw[hgv]at h1;exact nD.Cq h1
   | some y=>
    cases hg:bn s x with
    | none=>rw[hgv,hg]at h1;exact h1.elim
    | some j=>rw[hgv,hg]at h1;exact o y j h1 fun i a=>⟨h.sz i (h.rw _ (dt hgv) i a).1,(h.rw _ (dt hgv) i a).2.1⟩
 ·rcases q with q | q
  ·exact h.qb q
  ·exact(f b q).2.2.2.1 rfl
 ·rcases Dz.1 hp with hp | hp
  ·exact⟨.inl (h.rw p hp i a).1,(h.rw p hp i a).2⟩
  ·obtain rfl:p=(n,v):=by simpa using hp
   exact⟨.inr a,(f i a).2.1,(f i a).2.2.1⟩
 ·rcases a with a | a
  ·exact Dd (h.sz i a) k.size
  ·exact Dd (f i a).1 k.size
 ·rcases Dz.1 hp with hp | hp
  ·rcases Dz.1 d with d | d
   ·exact h.dj p hp q d t i a e
   ·obtain rfl:q=(n,v):=by simpa using d
    exact(f i e).2.2.2.2 (h.rw p hp i a).1
  ·obtain rfl:p=(n,v):=by simpa using hp
   rcases Dz.1 d with d | d
   ·exact(f i a).2.2.2.2 (h.rw q d i e).1
   ·obtain rfl:q=(n,v):=by simpa using d
    exact t rfl
def iI (N Q:Nat->Prop) (w w':CP) (b:Nat) (s':bL):Prop:=Kq Q w w'/\∃N' Q':Nat->Prop,gx N' Q' w' b s'/\(∀i,N' i->N i\/w.heap.size<=i)/\(∀i,N i->N' i)/\(∀i,Q i->Q' i)/\(∀i,Q' i->N' i)/\(∀i,Q' i->Q i\/w.heap.size<=i)/\∀i,N' i->i < w'.heap.size
theorem gx.ext (h:gx N Q w b s) (a:au w w'):gx N Q w' b s:=by
 obtain⟨m,c,mp,h⟩:=h;exact⟨m,c,mp,h.ext a⟩
theorem gx.go (h:gx N Q w b s) (c:∀i,Q i->N i) (d:∀i,N i->i < w.heap.size) (a:au w w'):iI N Q w w' b s:=
 ⟨Kq.AI a,N,Q,h.ext a,fun _ q=>.inl q,fun _ q=>q,fun _ q=>q,c,fun _ q=>.inl q,fun i q=>Dd (d i q) a.size⟩
end
abbrev kl:Bv:=(.slice none 0 0,[])
theorem ml (n:Nat):(madeCells (EG none 0 0).cells (n*1)).toList=aD cB (Dl n kl):=by
 rw[fy];apply List.ext_getElem
 ·simp[madeCells]
 ·intro i h1 h2;simp[madeCells,Value.cells,show i % 1=0 from Nat.mod_one i]
theorem u3 {P:Ds} {t e:Dn} {bytes:Nat} (a:kv P t e (.slice none 0 0) 1 bytes) (n:Nat) (l:bytes*n<=281474976710656) (hm:n<=Dc) (w:CP):
  ∃w',(Instr.makeSlice t (.int .i64 (n:Int)) (.int .i64 (n:Int))).run P w=.ok (.slice (some ⟨w.heap.size,0,none⟩) n n) w'/\
   w'.ownsRow w.heap.size e 1 (.slice (some ⟨w.heap.size,0,none⟩) n n) n (aD cB (Dl n kl))/\au w w'/\w.heap.size < w'.heap.size:=by
 obtain⟨i,g,k,j,f⟩:=info_parts a.info;have c:(n:Int)<=9223372036854775807:=by unfold Dc at hm;omega
 have d:(i.bytes:Int)*(n:Int)<=281474976710656:=by
  rw[f];have h:((bytes*n:Nat):Int)<=281474976710656:=by omega
  rwa[Int.natCast_mul]at h
 have b:=run_make (P:=P) w t e i (.slice none 0 0) a.ht g k .i64 .i64 n n (by omega) (Int.le_refl _) d c;simp only[Int.toNat_natCast,j]at b;refine⟨_,b,?_,ae _ _,by simp⟩;have:=cX w e (madeCells (EG none 0 0).cells (n*1)) w.heap.size n 1 (CU _) hm (size_madeCells _ _);rwa[ml]at this
theorem jW (M:List Bv) (i:Nat) (a:i < M.length):(aD cB M)[i]? =some (M.getD i kl).1:=by
 have h:=jm (f:=cB) (s:=1) (fun _=>rfl) kl 0 (by decide) M i a;rw[EZ,Gl]at h;exact h
theorem sN (M:List Bv) (i:Nat) (b:i < M.length) (a:CQ) (st:List Int):(aD cB M).set i a=aD cB (M.set i (a,st)):=by
 have h:=fA (f:=cB) (s:=1) (fun _=>rfl) kl (a,st) a 0 (by decide) M i b rfl;rw[EZ,Gl]at h;exact h
theorem lO (M:List Bv):(aD cB M).length=M.length:=by rw[bu (s:=1) (fun _ _=>rfl),EZ]
theorem mm (ps:List (List Int)) (M:List Bv) (i:Nat) (y:Bv) (a:i < M.length) (b:i < ps.length) (h:(M.take i).map (·.2)=ps.take i) (hy:y.2=ps.getD i []):((M.set i y).take (i+1)).map (·.2)=ps.take (i+1):=by
 rw[oF M i y a,List.map_append,h,aF [] ps i b,<-hy];rfl
def y9 (ps:List (List Int)) (w:CP) (e:Ending) (w':CP):Prop:=∃M:List Bv,e=.returned (.slice (some ⟨w.heap.size,0,none⟩) ps.length ps.length)/\Pk w' w.heap.size 1 (.slice (some ⟨w.heap.size,0,none⟩) ps.length ps.length) M.length (aD cB M)/\(∀y∈M,ju (fun k=>w.heap.size < k) w' y)/\M.map (·.2)=ps/\au w w'
theorem gU (v:CQ) (ps:List (List Int)) (w:CP) (h:aU w v ps) (ak:∀b∈ps,bI b) (hn:ps.length<=1048576) (am:∀b∈ps,b.length<=140737488355328):
  CZ CO 48 #[v] w fun e w'=>y9 ps w e w':=by
 obtain⟨m,C,T,ai⟩:=rz h;obtain⟨n,G⟩:=exq ps.length;have Y:m.length=n:=by have:=congrArg Ej T;rw[G];simpa using this
 rw[Y]at C;obtain⟨p,c,hf,a2,aV⟩:=C.form;subst hf;obtain⟨g,D⟩:=exq w.heap.size;obtain⟨w1,ap,Z,ah,ab⟩:=u3 (P:=CO) zi n (by omega) (by unfold Dc;omega) w;rw[<-D]at ap Z ab;have aj:∀i,i < n->(ps.getD i [])∈ps:=fun i hi=>aJ [] (by omega)
 have an:∀i,i < n->(m.getD i kl).2=ps.getD i []:=fun i hi=>by rw[<-T,CR,CR,DE,CV (by omega)];rfl
 have HM:=aa (Dj C ai);have O:=aa (Dj Y G);have B:=aa (Dj aj (Dj an (Dj ak am)));have ar:=aa ah;have Hg:Hid (g=w.heap.size/\g < w1.heap.size):=aa ⟨D,ab⟩;have av:Hid (Pk w1 g 1 (.slice (some ⟨g,0,none⟩) n n) n (aD cB (Dl n kl))):=aa (Pk.AS Z);have ax:Hid (∀M w',M.length=n->Pk w' g 1 (.slice (some ⟨g,0,none⟩) n n) n (aD cB M)->(∀y∈M,ju (fun k=>g < k) w' y)->M.map (·.2)=ps->au w w'->y9 ps w (.returned (.slice (some ⟨g,0,none⟩) n n)) w'):=aa fun M w' h1 h2 h3 h4 h5=>by unfold y9;rw[<-G,<-D];exact⟨M,rfl,by rw[h1];exact h2,h3,h4,h5⟩
 have a1:n<=1048576:=by omega
 clear h C T ai Y Z ah ab aj an ak am D G hn;go_enter Tryz.func48,Tryz.ntmps48
 go_wp2_with fail
 clear ap;go_loopw [11] (fun x wr=>∃(i:Nat) (M:List Bv),i<=n/\x=.int .i64 i/\Hid (Pk wr g 1 (.slice (some ⟨g,0,none⟩) n n) n (aD cB M)/\M.length=n/\(∀y∈M.take i,ju (fun k=>g < k) wr y)/\(M.take i).map (·.2)=ps.take i)/\Hid (Kq (fun k=>g<=k) w1 wr)) (fun x _=>n - (intOf x).toNat);case atStart=>exact⟨0,_,C9 _,rfl,aa ⟨av,by simp,fun y hy=>(by simp at hy),by simp⟩,aa (Kq.refl _)⟩
 case round=>
  obtain⟨i,M,hi,rfl,d,K⟩:=hrel;have I:Hid (au w wr):=aa (ar.trans' K (by have:=Hg.out;omega));have ay:Hid (g < wr.heap.size):=aa (by have:=K.size;have:=Hg.out;omega);by_cases u:i < n
  ·have t:i < M.length:=by rw[d.out.2.1];exact u
   have V:i < m.length:=by rw[O.out.1];exact u
   obtain⟨b,o,c2,hq,_,_,aG,ao⟩:=aX.pos HM.1 (by omega) (by intro q;have:=lO m;rw[q]at this;simp at this;omega);injection hq with aM aN aO;subst aM aO;have z:=(HM.2 _ (aJ kl V)).ext I;have U:=(aL ao I) i _ (jW m i V);have E:=B.1 i u;have A:=B.2.1 i u;obtain⟨x0,hx⟩:=exq (m.getD i kl);rw[<-hx]at z U A;obtain⟨u1,st⟩:=x0;simp only at z U A;obtain⟨p1,c1,aP,_,_⟩:=z.form;subst aP;rw[<-A]at E;have R:Hid (bI st/\st.length<=140737488355328/\st=ps.getD i []):=aa ⟨B.2.2.1 _ E,B.2.2.2 _ E,A⟩;have az:=aa z;have aw:=aa (jW M i t);have aA:=aa (fun a=>sN M i t a st);have r:Hid (i < (aD cB M).length/\i < M.length/\i < ps.length):=aa ⟨by rw[lO];exact t,t,by rw[<-O.out.2];exact u⟩;have aW:(0:Int)<=(i:Int):=by omega
   have aZ:(i:Int) < (n:Int):=by omega
   have a0:(i:Int)<=1048576:=by omega
   clear z A E hx t V ao aG aN
   go_wp2_with fail
   refine(eD (.slice p1 st.length c1) st wr az R.2.1).mono ?_;rintro e l ⟨v9,rfl,H,S⟩;obtain⟨j,f,aQ,_,_⟩:=(aX.AS H).form;subst aQ;have N:=aa (d.1.ext S);have q9:=N.cell aw;have f9:=N.fz r.1
   have af:Hid (Pk (l.setCell ⟨g,i,none⟩ (.slice j st.length f)) g 1 (.slice (some ⟨g,0,none⟩) n n) n (aD cB (M.set i (.slice j st.length f,st)))):=aa (by
    rw[<-aA.out]
    exact N.put r.1 _)
   have W:Kq (fun k=>k=g) l (l.setCell ⟨g,i,none⟩ (.slice j st.length f)):=(Kq.refl l).setCell (Q:=fun k=>k=g) ⟨g,i,none⟩ rfl _;have J:Hid (Kq (fun k=>k=g) wr (l.setCell ⟨g,i,none⟩ (.slice j st.length f))):=aa ((Kq.AI S).trans W);have ae:Hid (ju (fun k=>g < k) (l.setCell ⟨g,i,none⟩ (.slice j st.length f)) (.slice j st.length f,st)):=aa ⟨(aY.By (F:=fun k=>g < k) (aX.AS H) (fun b s _=>by have:=(H.lt b s).1;have:=ay.out;omega)).kept (fun b s X=>⟨s,W.block b X (fun q=>by omega)⟩),R.1⟩;clear H S W U
   go_wp2_with fail
   obtain⟨w9,aq⟩:=exq (l.setCell ⟨g,i,none⟩ (.slice j st.length f));rw[<-aq]at af J ae⊢;clear aq q9 f9;go_roundw
   case rel=>exact⟨i+1,M.set i (.slice j st.length f,st),by omega,by go_num,aa ⟨af,by rw[Ea];exact d.2.1,fun y hy=>by
     rw[oF M i _ r.out.2.1]at hy;rcases Dz.1 hy with hy | hy
     ·exact bQ _ _ _ _ _ (d.2.2.1 y hy) fun b s X=>⟨s,J.block b X (fun q=>by omega)⟩
     ·obtain rfl:y=(.slice j st.length f,st):=by simpa using hy
      exact ae,mm ps M i _ r.2.1 r.2.2 d.2.2.2 R.2.2⟩,aa (K.trans (J.mono fun k _ q=>by omega))⟩
   case measure=>simp[intOf];omega
  ·obtain rfl:i=n:=by omega
   have L:Hid (M.take i=M/\ps.take i=ps):=aa ⟨CX (by rw[d.out.2.1];exact CU _),CX (by rw[<-O.out.2];exact CU _)⟩
   go_wp2_with fail
   go_ret;refine ax M _ d.2.1 d.1 ?_ ?_ I
   ·have h:=d.2.2.1;rw[L.out.1]at h;exact h
   ·have h:=d.2.2.2;rw[L.out.1,L.out.2]at h;exact h
abbrev Ob:=Int × CQ × List (List Int)
abbrev o0:Ob:=(0,.slice none 0 0,[])
def cO (x:Ob):List CQ:=[.int .i64 x.1,x.2.1]
theorem km (x:Ob):(cO x).length=2:=rfl
def di (F:Nat->Prop) (w:CP) (v:CQ) (st:List (List Int)):Prop:=∃M:List Bv,aY F w v M.length (aD cB M)/\(∀y∈M,ju F w y)/\M.map (·.2)=st
theorem di.kept {F F':Nat->Prop} {w w':CP} {v:CQ} {st:List (List Int)} (h:di F w v st) (a:∀k,F k->k < w.heap.size->F' k/\w'.heap[k]? =w.heap[k]?):di F' w' v st:=by
 obtain⟨M,h1,h2,b⟩:=h;exact⟨M,h1.kept a,fun y hy=>bQ _ _ _ _ _ (h2 y hy) a,b⟩
theorem di.BF {F:Nat->Prop} {w:CP} {v:CQ} {st:List (List Int)} (h:di F w v st):aU w v st:=by
 obtain⟨M,h1,h2,a⟩:=h;refine⟨M.map (·.1),?_,by rw[<-a,CY,CY],fun i b=> ?_⟩
 ·have c:=h1.BD;rw[fy]at c;rw[<-a,CY];exact c
 ·rw[<-a,CY]at b;have d:=(h2 _ (DW b)).1.BD;rw[<-a,CR,CR,DE,DE,CV b];exact d
theorem di.Cp {F:Nat->Prop} {w:CP} {v:CQ} {st:List (List Int)} (h:di F w v st):∀b∈st,bI b:=by
 obtain⟨M,h1,h2,c⟩:=h;intro b a;rw[<-c]at a;obtain⟨y,hy,rfl⟩:=DM.1 a;exact(h2 y hy).2
def Aa (F:Nat->Prop) (w:CP) (x:Ob):Prop:=di F w x.2.1 x.2.2
structure gV (F:Nat->Prop) (w:CP) (b:Nat) (vo va:CQ) (D:List Ob) (s:bL):Prop where
 bx:aw w b [vo,va]
 ro:aY F w vo D.length (aD cO D)
 ok:∀x∈D,Aa F w x
 eq:D.map (fun x=>(x.1,x.2.2))=s.AT
 ra:aY F w va s.ids.length (aj .i64 s.ids)
 rn:∀x∈s.ids,0<=x/\x<=1099511627776
 nb:¬F b
def ek (F:Nat->Prop) (w:CP) (b:Nat) (s:bL):Prop:=∃vo va D,gV F w b vo va D s
section
variable {F F' Q:Nat->Prop} {w w':CP} {b:Nat} {vo va:CQ} {D:List Ob} {s:bL}
theorem gV.kept (h:gV F w b vo va D s) (k:Kq Q w w') (e:∀i,Q i->¬F i/\i≠b) (f:∀i,F i->i < w.heap.size->F' i) (g:¬F' b):gV F' w' b vo va D s:=by
 have a:∀i,F i->i < w.heap.size->F' i/\w'.heap[i]? =w.heap[i]? :=fun i c d=>⟨f i c d,k.block i d fun q=>(e i q).1 c⟩
 exact⟨k.box (fun q=>(e b q).2 rfl) h.bx,h.ro.kept a,fun x hx=>(h.ok x hx).kept a,h.eq,h.ra.kept a,h.rn,g⟩
theorem gV.ext (h:gV F w b vo va D s) (a:au w w'):gV F w' b vo va D s:=h.kept (Q:=fun _=>False) (Kq.AI a) (fun _ q=>q.elim) (fun _ q _=>q) h.nb
theorem gV.len (h:gV F w b vo va D s):D.length=s.AT.length:=by rw[<-h.eq,CY]
theorem gV.at' (h:gV F w b vo va D s) {i:Nat} (a:i < D.length):s.AT[i]? =some ((D.getD i o0).1,(D.getD i o0).2.2):=by
 rw[<-h.eq,DE,CR,CV a];rfl
theorem gV.pos (h:gV F w b vo va D s) (k:0 < D.length):∃g o c,vo=.slice (some ⟨g,o,none⟩) D.length c/\D.length<=c/\c<=Dc/\g < w.heap.size/\∀i,i < D.length->w.rangeAt g (o+i*2) (cO (D.getD i o0)):=by
 obtain⟨g,o,c,h1,h2,a,d,e⟩:=aX.pos h.ro.BD k (fun q=>by have:=bu (f:=cO) (s:=2) (L:=D) (fun x _=>km x);rw[q]at this;simp at this;omega);exact⟨g,o,c,h1,h2,a,d,fun i j=>na o0 e (fun x _=>km x) j⟩
end
def jn (b:Nat) (w w':CP):Prop:=∀k o v,¬(k=b/\o < 2)->w.cell? ⟨k,o,DG⟩=some v->w'.cell? ⟨k,o,DG⟩=some v
theorem jn.AI {b:Nat} {w w':CP} (h:au w w'):jn b w w':=fun k o v _ a=>by
 rw[Dp (w:=w) (h.block k (CW _ _ a))];exact a
theorem jn.trans {b:Nat} {w c d:CP} (h:jn b w c) (h2:jn b c d):jn b w d:=fun k o v a e=>h2 k o v a (h k o v a e)
theorem jn.kq {b:Nat} {Q:Nat->Prop} {w a d:CP} (h:jn b w a) (k:Kq Q a d) (f:∀i,Q i->w.heap.size<=i):jn b w d:=fun i o v e c=>by
 have h1:=h i o v e c;rw[Dp (w:=a) (k.block i (CW _ _ h1) fun q=>by have:=f i q;have h2:i < w.heap.size:=CW _ _ c;omega)];exact h1
theorem jn.set {b:Nat} {w c:CP} (h:jn b w c) (f:i < 2) (u:CQ):jn b w (c.setCell ⟨b,i,DG⟩ u):=fun k o v a d=>by
 rw[World.cell?_setCell_other _ _ _ _ (by
  intro q;injection q with e g _
  exact a ⟨e.symm,by omega⟩)]
 exact h k o v a d
def zy (D:List Ob) (n r:Int):Prop:=(∃i:Nat,i < D.length/\r=(i:Int)/\(D.getD i o0).1=n/\∀j,j < i->(D.getD j o0).1≠n)\/(r= -1/\∀j,j < D.length->(D.getD j o0).1≠n)
theorem lP {α :Type} (f: α ->Bool):∀(l:List α) (i:Nat) (x: α),l[i]? =some x->f x=true->(∀j y,j < i->l[j]? =some y->f y=false)->l.find? f=some x
 | [],i,x,h,_,_=>by simp at h
 | y :: r,0,x,h,hx,_=>by
  obtain rfl:y=x:=by simpa using h
  simp[hx]
 | y :: r,i+1,x,h,hx,hj=>by rw[List.find?_cons,hj 0 y (Nat.zero_lt_succ _) rfl];exact lP f r i x (by simpa using h) hx fun j z b a=>hj (j+1) z (by omega) (by simpa using a)
theorem gV.some {F:Nat->Prop} {w:CP} {b:Nat} {e d:CQ} {D:List Ob} {s:bL} (h:gV F w b e d D s) {n:Int} (a:i < D.length) (h1:(D.getD i o0).1=n) (h2:∀j,j < i->(D.getD j o0).1≠n):bn s n=DJ (D.getD i o0).2.2:=by
 unfold bn
 rw[lP (fun p=>decide (p.1=n)) s.AT i _ (h.at' a) (by simpa using h1) (fun j y c hy=>by
  rw[h.at' (by omega)]at hy;obtain rfl:=Ei hy
  simpa using h2 j c)]
 rfl
theorem gV.none {F:Nat->Prop} {w:CP} {b:Nat} {g f:CQ} {D:List Ob} {s:bL} (h:gV F w b g f D s) {n:Int} (h2:∀j,j < D.length->(D.getD j o0).1≠n):bn s n=DG:=by
 unfold bn;have:s.AT.find? (fun p=>decide (p.1=n))=DG:=List.find?_eq_none.2 fun p hp=>by obtain⟨j,a,rfl⟩:=Ev hp;have c:=h.at' (i:=j) (by rw[h.len];exact a);rw[CV a]at c;have d:=congrArg Prod.fst (Ei c);have e:=h2 j (by rw[h.len];exact a);simp only[decide_eq_true_eq];rw[d];exact e
 rw[this];rfl
theorem u5 (l:List Int) (i:Nat) (h:i < l.length):jX 0 (l.take (i+1))=if jX 0 (l.take i) < l.getD i 0 then l.getD i 0 else jX 0 (l.take i):=by
 rw[aF 0 l i h,kZ]
theorem sO (b:Nat) (v:CQ) (ids:List Int) (w:CP) (k:w.cell? ⟨b,1,none⟩=some v) (h:Bu w .i64 v ids):
  CZ CO 128 #[.pointer (some ⟨b,1,none⟩)] w fun e w'=>e=.returned (.tuple #[.int .i64 (jX 0 ids),.bool (!ids.isEmpty)])/\au w w':=by
 obtain⟨p,c,rfl,J,hm⟩:=h.form;have H:=aa h;obtain⟨n,m⟩:=exq ids.length;have d:=aa m;rw[<-m]at k H J;unfold Dc at hm;have F:=CW _ _ k;have t:Hid (b < w.heap.size):=aa F;have C:=aa k;clear h m;go_enter Tryz.func128,Tryz.ntmps128
 go_wp2_with fail
 go_loopw [4,12] (fun g x wr=>∃i:Nat,i<=n/\x=.int .i64 i/\g=.int .i64 (jX 0 (ids.take i))/\au w wr) (fun _ x _=>n - (intOf x).toNat);case atStart=>exact⟨0,C9 _,rfl,rfl,CT _ _⟩
 case round=>
  obtain⟨i,S,rfl,rfl,z⟩:=hrel;have a:=aa z;clear z;obtain⟨g,l⟩:=exq (jX 0 (ids.take i));rw[<-l];have u:=aa l;clear l;by_cases I:i < n
  ·have j:i < ids.length:=by rw[<-d.out];exact I
   have s:=H.ext a;rw[d.out]at s;obtain⟨O,o,N,M,_,_,P,B⟩:=aX.pos s (EE (C9 _) j) (fun q=>by have:=congrArg Ej q;rw[ints_length]at this;have h0:ids.length=0:=this;omega);injection M with K _ L;subst K L;have G:=B i _ (cJ .i64 ids i j);obtain⟨x,hx⟩:=exq (ids.getD i 0);rw[<-hx]at G;have f:Hid (jX 0 (ids.take (i+1))=if g < x then x else g):=aa (by rw[u5 ids i j,u.out,hx]);have T:(0:Int)<=(i:Int):=by omega
   have U:(i:Int) < (n:Int):=by omega
   clear B s hx j;by_cases A:g < x
   ·rw[if_pos A]at f
    go_wp2_with fail
    go_roundw;case rel=>exact⟨i+1,by omega,by go_num,by rw[f.out],a⟩
    case measure=>simp[intOf];omega
   ·rw[if_neg A]at f
    go_wp2_with fail
    go_roundw;case rel=>exact⟨i+1,by omega,by go_num,by rw[f.out],a⟩
    case measure=>simp[intOf];omega
  ·obtain rfl:i=n:=by omega
   have E:Hid (g=jX 0 ids):=aa (by rw[u.out,d.out,Fl]);have R:=((ay a).1 _ 1 t).trans C;have Q:b < wr.heap.size:=Dd t a.size
   have D:Hid ((!ids.isEmpty)=decide (0 < i)):=aa (by
    rw[d.out];cases ids with
    | nil=>simp
    | cons y r=>simp)
   go_wp2_with fail
   go_quiet (fail)
   go_wp2_with fail
   go_ret2;rw[<-E.out,D.out];exact⟨rfl,a.drewN _⟩
theorem oH (b:Nat) (v:CQ) (ids:List Int) (x:Int) (w:CP) (j:w.cell? ⟨b,1,none⟩=some v) (h:Bu w .i64 v ids) (m:∀y∈ids,0<=y/\y<=1099511627776):
  CZ CO 76 #[.pointer (some ⟨b,1,none⟩),.int .i64 x] w fun e w'=>e=.returned (.bool (gT ids x))/\au w w':=by
 have a:=aa (sO b v ids w j h);have n:=(nB ids 0).1;have o:jX 0 ids<=1099511627776:=by
  rcases nC ids 0 with q | q
  ·omega
  ·exact(m _ q).2
 have c:Hid (gT ids x=((!ids.isEmpty)&&decide (x<=jX 0 ids - 64))):=aa rfl;obtain⟨g,d⟩:=exq (jX 0 ids);obtain⟨k,l⟩:=exq (!ids.isEmpty);rw[<-d,<-l]at c a;rw[<-d]at n o;rw[c.out];clear d l j h m c;have hw:IntKind.i64.wrap (g - 64)=g - 64:=by simp only[IntKind.wrap,IntKind.bits,IntKind.signed];simp;omega
 go_enter Tryz.func76,Tryz.ntmps76
 go_wp2_with fail
 refine a.mono ?_;rintro e p ⟨rfl,i⟩;have f:=aa i;clear i a;cases k
 ·go_wp2_with fail
  go_ret;exact⟨rfl,f⟩
 ·go_wp2_with fail
  go_ret;exact⟨rfl,f⟩
theorem u6 (b:Nat) (v:CQ) (ids:List Int) (x:Int) (w:CP) (j:w.cell? ⟨b,1,none⟩=some v) (h:Bu w .i64 v ids) (a:∀y∈ids,0<=y/\y<=1099511627776):
  CZ CO 77 #[.pointer (some ⟨b,1,none⟩),.int .i64 x] w fun e w'=>e=.returned (.bool (jl ids x))/\au w w':=by
 obtain⟨p,c,rfl,L,hm⟩:=h.form;have u:Hid (∀d,au w d->CZ CO 76 #[.pointer (some ⟨b,1,none⟩),.int .i64 x] d fun e w'=>e=.returned (.bool (gT ids x))/\au d w'):=aa fun d h2=>oH b _ ids x d (((ay h2).1 _ 1 (CW _ _ j)).trans j) (h.ext h2) a
 have H:=aa h;obtain⟨n,m⟩:=exq ids.length;have l:=aa m;rw[<-m]at j H L;unfold Dc at hm;clear h m a;obtain⟨F,r⟩:=exq (gT ids x);rw[<-r]at u;have A:=aa r;clear r;go_enter Tryz.func77,Tryz.ntmps77
 go_wp2_with fail
 clear j;go_loopw [12] (fun y wr=>∃i:Nat,i<=n/\y=.int .i64 i/\Hid (x∈ids.take i->F=true)/\au w wr) (fun y _=>n - (intOf y).toNat);case atStart=>exact⟨0,C9 _,rfl,aa (fun q=>by simp at q),CT _ _⟩
 case round=>
  obtain⟨i,S,rfl,t,B⟩:=hrel;have f:=aa B;clear B;by_cases K:i < n
  ·have g:i < ids.length:=by rw[<-l.out];exact K
   have a:=H.ext f;rw[l.out]at a;obtain⟨Q,o,P,O,_,_,R,D⟩:=aX.pos a (EE (C9 _) g) (fun q=>by have:=congrArg Ej q;rw[ints_length]at this;have h0:ids.length=0:=this;omega);injection O with M _ N;subst M N;have J:=D i _ (cJ .i64 ids i g);obtain⟨z,k⟩:=exq (ids.getD i 0);rw[<-k]at J;have G:Hid (z∈ids):=aa (by rw[k];exact aJ 0 g);have I:Hid (ids.take (i+1)=ids.take i++[z]):=aa (by rw[aF 0 ids i g,k]);have T:(0:Int)<=(i:Int):=by omega
   have U:(i:Int) < (n:Int):=by omega
   clear D a k g;by_cases E:z=x
   ·subst E
    go_wp2_with fail
    refine(u _ f).mono ?_;rintro e d ⟨rfl,C⟩;have s:=aa (f.trans C);clear C;cases F
    ·go_wp2_with fail
     go_ret;refine⟨?_,s⟩;unfold jl;rw[<-A.out];simp[G.out]
    ·go_wp2_with fail
     go_roundw;case rel=>exact⟨i+1,by omega,by go_num,aa (by simp),s⟩
     case measure=>simp[intOf];omega
   ·go_wp2_with fail
    go_roundw
    case rel=>exact⟨i+1,by omega,by go_num,aa (fun hm=>by
     rw[I.out]at hm;rcases Dz.1 hm with hm | hm
     ·exact t hm
     ·exact absurd (EV.1 hm).symm E),f⟩
    case measure=>simp[intOf];omega
  ·obtain rfl:i=n:=by omega
   go_wp2_with fail
   go_ret;refine⟨?_,f⟩;unfold jl;rw[<-A.out];have q:=t.out;rw[l.out,Fl]at q;by_cases hm:x∈ids
   ·rw[q hm];simp
   ·simp[hm]
theorem fh (F:Nat->Prop) (b:Nat) (vo va:CQ) (D:List Ob) (s:bL) (x:Int) (w:CP) (h:gV F w b vo va D s):
  CZ CO 41 #[.pointer (some ⟨b,0,none⟩),.int .i64 x] w fun e w'=>(∃r,e=.returned (.int .i64 r)/\zy D x r)/\au w w':=by
 obtain⟨p,c,ag,hn,hm⟩:=h.ro.BD.form;subst ag;have T:=h.bx.cell (i:=0) (v:=.slice p D.length c) rfl;have H:=aa h;obtain⟨n,u⟩:=exq D.length;have f:=aa u;rw[<-u]at T H hn;unfold Dc at hm;clear h u;go_enter Tryz.func41,Tryz.ntmps41
 go_wp2_with fail
 clear T;go_loopw [12] (fun y wr=>∃i:Nat,i<=n/\y=.int .i64 i/\Hid (∀j,j < i->(D.getD j o0).1≠x)/\au w wr) (fun y _=>n - (intOf y).toNat);case atStart=>exact⟨0,C9 _,rfl,aa (fun j d=>absurd d (Nat.not_lt_zero j)),CT _ _⟩
 case round=>
  obtain⟨i,hi,rfl,m,N⟩:=hrel;have k:=aa N;clear N;by_cases V:i < n
  ·have g:i < D.length:=by rw[<-f.out];exact V
   have A:=H.ext k;rw[f.out]at A;obtain⟨L,o,c',af,_,_,ap,U⟩:=A.pos (EE (C9 _) g);injection af with ad _ ae;subst ad ae;have B:=U i g;obtain⟨Z,K,t,_,_⟩:=((H.ok _ (aJ o0 g)).BF).form;obtain⟨⟨z,vz,Y⟩,C⟩:=exq (D.getD i o0);rw[<-C]at B t;have J:Hid ((D.getD i o0).1=z):=aa (by rw[<-C]);have ab:vz=.slice Z Y.length K:=t;subst ab;obtain⟨co,a⟩:∃co:List CQ,co=[.int .i64 z,.slice Z Y.length K]:=⟨_,rfl⟩;have W:wr.rangeAt L (o+i*2) co:=by rw[a];exact B
   have G:=aa (run_loadAt_mid (P:=CO) wr L (o+i*2) 95 _ _ W Tryz.underlying95 rfl (by rw[a];kernel_rfl));obtain⟨M,O⟩:=aw.fresh (cs:=co) wr 95 #[.int .i64 0,.slice none 0 0] (by rw[a];rfl) (by rw[a];exact List.cons_ne_nil _ _);have I:=aa (aH (P:=CO) (cs:=co) wr 95 #[.int .i64 0,.slice none 0 0] (by rw[a];rfl) (by rw[a];intro c S;simp only[List.mem_cons,List.not_mem_nil,or_false]at S;rcases S with rfl | rfl<;>rfl) (ty:=95) (by rw[a];kernel_rfl));have l:=aa (k.trans O);have E:=M.cell (i:=0) (v:=.int .i64 z) (by rw[a];rfl);have ar:(0:Int)<=(i:Int):=by omega
   have av:(i:Int) < (n:Int):=by omega
   clear U A C g B W t M O a
   go_wp2_with first | refine ao rfl G ?_ | (with_reducible refine aC (ty:=95) ?_)
   refine ax ?_;refine ak rfl rfl I ?_;obtain⟨W1,Q⟩:=exq ((wr.alloc (.cells #[.int .i64 0,.slice none 0 0] 95)).setCells wr.heap.size 0 co);obtain⟨X1,R⟩:=exq wr.heap.size;rw[<-Q]at l E⊢;rw[<-R]at E⊢;clear Q R I G;by_cases X:z=x
   ·subst X
    go_wp2_with fail
    go_ret;exact⟨⟨_,rfl,.inl ⟨i,by rw[<-f.out];exact V,rfl,J,m⟩⟩,l⟩
   ·go_wp2_with fail
    clear E;go_roundw
    case rel=>exact⟨i+1,by omega,by go_num,aa (fun j d=>by
     rcases Nat.lt_succ_iff_lt_or_eq.1 d with q | q
     ·exact m j q
     ·rw[q,J.out];exact X),l⟩
    case measure=>simp[intOf];omega
  ·obtain rfl:i=n:=by omega
   go_wp2_with fail
   go_ret;exact⟨⟨_,rfl,.inr ⟨rfl,fun j d=>m j (by rw[f.out];exact d)⟩⟩,k⟩
def Ab (F:Nat->Prop) (w w':CP) (b:Nat) (vo:CQ) (D:List Ob) (s:bL) (ids:List Int):Prop:=(∃va',gV (fun i=>F i\/w.heap.size<=i) w' b vo va' D ⟨s.AT,ids⟩)/\Kq (fun i=>i=b) w w'/\jn b w w'
def yz (F:Nat->Prop) (b:Nat) (vo:CQ) (D:List Ob) (s:bL) (x:Int) (w:CP) (e:Ending) (w':CP):Prop:=e=.returned (.bool (eT s.ids x))/\Ab F w w' b vo D s (if eT s.ids x=true then s.ids++[x]else s.ids)
theorem gV.wide {F:Nat->Prop} {w w':CP} {b:Nat} {c a:CQ} {D:List Ob} {s:bL} (h:gV F w b c a D s) (d:au w w'):gV (fun i=>F i\/w.heap.size<=i) w' b c a D s:=
 h.kept (Q:=fun _=>False) (Kq.AI d) (fun _ q=>q.elim) (fun _ q _=>.inl q) fun q=>q.elim h.nb fun q=>by have:=h.bx.lt;omega
theorem qA (F:Nat->Prop) (b:Nat) (T S:CQ) (D:List Ob) (s:bL) (x:Int) (w:CP) (h:gV F w b T S D s) (hl:s.ids.length<=1048576):
  CZ CO 42 #[.pointer (some ⟨b,1,none⟩),.int .i64 x] w fun e w'=>yz F b T D s x w e w':=by
 have H:=aa h;have l:Hid (∀a,au w a->eT s.ids x=false->Ab F w a b T D s (if eT s.ids x=true then s.ids++[x]else s.ids)):=aa fun a h2 d=>by rw[d];exact⟨⟨S,h.wide h2⟩,Kq.AI h2,jn.AI h2⟩
 have B:∀a,au w a->a.cell? ⟨b,1,none⟩=some S:=fun a h2=>(h.bx.ext h2).cell (i:=1) rfl
 have W:Hid (∀a,au w a->CZ CO 76 #[.pointer (some ⟨b,1,none⟩),.int .i64 x] a fun e w'=>e=.returned (.bool (gT s.ids x))/\au a w'):=aa fun a h2=>oH b _ _ x a (B a h2) (h.ra.BD.ext h2) h.rn
 have V:Hid (∀a,au w a->CZ CO 77 #[.pointer (some ⟨b,1,none⟩),.int .i64 x] a fun e w'=>e=.returned (.bool (jl s.ids x))/\au a w'):=aa fun a h2=>u6 b _ _ x a (B a h2) (h.ra.BD.ext h2) h.rn
 have Hc:=aa B;have j:=aa hl;clear h B hl;go_enter Tryz.func42,Tryz.ntmps42;by_cases aK:x < 0
 ·have d:eT s.ids x=false:=lL (.inl (jM.2 (.inl aK)));have f:=aa d;clear d
  go_wp2_with fail
  go_ret;unfold yz;exact⟨by rw[f.out]<;>rfl,l _ (CT _ _) f⟩
 by_cases aL:(1099511627776:Int) < x
 ·have d:eT s.ids x=false:=lL (.inl (jM.2 (.inr aL)));have f:=aa d;clear d
  go_wp2_with fail
  go_ret;unfold yz;exact⟨by rw[f.out]<;>rfl,l _ (CT _ _) f⟩
 go_wp2_with fail
 refine(W w (CT _ _)).mono ?_;rintro e w1 ⟨rfl,ad⟩;have t:=aa ad;clear ad W;cases ho:gT s.ids x;case true=>
  have d:eT s.ids x=false:=lL (.inr (.inl ho));have f:=aa d;clear d ho
  go_wp2_with fail
  go_ret;unfold yz;exact⟨by rw[f.out]<;>rfl,l _ t f⟩
 have X:=aa ho;clear ho
 go_wp2_with fail
 refine(V w1 t).mono ?_;rintro e a ⟨rfl,af⟩;have g:=aa (t.trans af);clear af V t;cases hh:jl s.ids x;case true=>
  have d:eT s.ids x=false:=lL (.inr (.inr hh));have f:=aa d;clear d hh
  go_wp2_with fail
  go_ret;unfold yz;exact⟨by rw[f.out]<;>rfl,l _ g f⟩
 have d:eT s.ids x=true:=ry (bj.2 ⟨by omega,by omega⟩) X hh;have f:=aa d;have aq:Hid (∀y∈s.ids++[x],0<=y/\y<=1099511627776):=aa fun y hy=>by
  rcases Dz.1 hy with hy | hy
  ·exact H.rn y hy
  ·obtain rfl:=EV.1 hy;omega
 clear d hh X l;obtain⟨p,c,aJ,hn,hm⟩:=H.ra.BD.form;subst aJ;have O:=Hc a g;have K:Hid (Bu a .i64 (.slice p s.ids.length c) s.ids):=aa (H.ra.BD.ext g);have U:=aa (H.bx.ext g);have ai:b < a.heap.size:=U.lt;have ao:=aa ai;have HN:=aa (gB a 3 a.heap.size (CU _) 1);have u:=aa (ae a (.cells #[] 3));have ak:(a.alloc (.cells #[] 3)).cell? ⟨b,1,none⟩=some (.slice p s.ids.length c):=((ay u).1 _ 1 ai).trans O;obtain⟨n,m⟩:=exq s.ids.length;have M:=aa m;rw[<-m]at O ak;have K:Hid (aX a (.slice p n c) n (aj .i64 s.ids)):=aa (by rw[m];exact K);have j:Hid (n<=1048576):=aa (by rw[m];exact j);clear m hn hm
 go_wp2_with (with_reducible refine av ?_)
 clear O ak;refine ax ?_;refine bg zj HN (K.ext u) rfl rfl (by rw[ints_length,M.out];omega) (aE _ _) (by have:=j.out;unfold Dc;omega) (by have:=j.out;omega) u.size ?_;intro p4 c4 o P aC ab aw aG aA;rw[Dq,List.nil_append]at P;rw[Dq];have Z:au a o:=DC u ab;have N:=aa (aN P (ae o (.cells #[.int .i64 x] 3)));have L:=aa (eI o 3 .i64 x);have z:Hid (au a (o.alloc (.cells #[.int .i64 x] 3))):=aa (Z.trans (ae _ _));clear Z P aC ab aw aG aA
 go_wp2_with (with_reducible refine av ?_)
 obtain⟨W5,ah⟩:=exq (o.alloc (.cells #[.int .i64 x] 3));rw[<-ah]at N L z⊢;clear ah;refine ax ?_;refine bg zj N L rfl rfl rfl (aE _ _) (by have:=j.out;unfold Dc;omega) (by have:=j.out;omega) z.size ?_;intro G A r R aD ac az aH aB;rw[<-aP]at R;have J:Hid (au a r):=aa (DC z ac);have Y:=aa R;have I:=aa (U.ext J);have aS:=I.cell (i:=1) (v:=.slice p n c) (by rw[M.out];rfl);have aR:=I.fz (i:=1) (show 1 < 2 by decide);clear R aD ac az aH aB N L z
 go_wp2_with fail
 go_ret;unfold yz;refine⟨by rw[f.out]<;>rfl,?_⟩;rw[f.out,if_pos rfl];have E:Kq (fun i=>i=b) w (r.setCell ⟨b,1,none⟩ (.slice G (n+1) A)):=(Kq.AI (g.trans J)).setCell (Q:=fun i=>i=b) ⟨b,1,none⟩ rfl _;refine⟨⟨.slice G (n+1) A,?_⟩,E,(jn.AI (g.trans J)).set (i:=1) (by decide) _⟩;have aI:¬(fun i=>F i\/w.heap.size<=i) b:=fun q=>q.elim H.nb fun q=>by have:=H.bx.lt;omega
 have ag:∀i,F i->i < w.heap.size->(F i\/w.heap.size<=i)/\(r.setCell ⟨b,1,none⟩ (.slice G (n+1) A)).heap[i]? =w.heap[i]? :=fun i C am=>⟨.inl C,E.block i am fun q=>H.nb (q▸C)⟩
 refine⟨?_,H.ro.kept ag,fun y hy=>(H.ok y hy).kept ag,H.eq,?_,aq,aI⟩
 ·exact I.put (i:=1) (show 1 < 2 by decide) _
 ·have h6:aY (fun i=>a.heap.size<=i) r (.slice G (n+1) A) (n+1) (aj .i64 (s.ids++[x])):=aY.By (aX.AS Y) fun k E _=>(Y.lt k E).1
  have hlen:(s.ids++[x]).length=n+1:=by rw[List.length_append,M.out];rfl
  show aY _ _ _ (s.ids++[x]).length _;rw[hlen];exact h6.kept fun i C am=>⟨.inr (Dk g.size C),Below.heap_setCell r ⟨b,1,none⟩ _ i (by have:=ao.out;show i≠b;omega)⟩
theorem oI (F:Nat->Prop) (b:Nat) (s:bL) (x:Int) (w:CP) (h:ek F w b s):
  CZ CO 30 #[.pointer (some ⟨b,0,none⟩),.int .i64 x] w fun e w'=>(∃v st,e=.returned (.tuple #[v,.bool (bn s x).isSome])/\di F w' v st/\(bn s x).getD []=st)/\au w w':=by
 obtain⟨O,M,D,h⟩:=h;have n:=aa (fh F b O M D s x w h);have H:=aa h;clear h;go_enter Tryz.func30,Tryz.ntmps30
 go_wp2_with fail
 refine n.mono ?_;rintro e P ⟨⟨r,rfl,J⟩,t⟩;have a:=aa t;clear t n;rcases J with ⟨i,j,rfl,h1,h2⟩ | ⟨rfl,h2⟩
 ·have f:=H.some j h1 h2;have d:=aa f;obtain⟨g,o,c,K,_,_,Q,z⟩:=(H.ext a).pos (EE (C9 _) j);subst K;have C:=(H.bx.ext a).cell (i:=0) (v:=.slice (some ⟨g,o,none⟩) D.length c) rfl;have A:=z i j;have q:=aa (H.ok _ (aJ o0 j));obtain⟨L,B,l,_,_⟩:=q.BF.form;have E:P.cell? ⟨g,o+i*2+1,none⟩=some (.slice L (D.getD i o0).2.2.length B):=by rw[A 1 _ rfl,l]
  have p:=aa l;obtain⟨m,hm⟩:=exq ((D.getD i o0).2.2.length);obtain⟨N,u⟩:=exq D.length;rw[<-hm]at E p;rw[<-u]at C j;have R:¬(i:Int) < 0:=by omega
  have S:(0:Int)<=(i:Int):=by omega
  have T:(i:Int) < (N:Int):=by omega
  clear f h1 h2 z A l hm u
  go_wp2_with fail
  go_ret2;refine⟨⟨_,_,by rw[d.out]<;>rfl,?_,by rw[d.out]<;>rfl⟩,a⟩;rw[<-p.out];exact q.kept fun k G I=>⟨G,a.block k I⟩
 ·have f:=H.none h2;have d:=aa f;clear f h2
  go_wp2_with fail
  go_ret2;refine⟨⟨_,_,by rw[d.out]<;>rfl,?_,by rw[d.out]<;>rfl⟩,a⟩;exact⟨[],aY.nil _,fun y hy=>(by cases hy),rfl⟩
end Go.Proofs.Bl
