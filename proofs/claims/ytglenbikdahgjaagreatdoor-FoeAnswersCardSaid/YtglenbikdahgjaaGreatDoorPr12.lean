/- Texts that stood apart, in one: Foe0, Foe1, Foe2, Foe3. -/
import Derived.Laws.Closers25b
import Derived.Test.YtglenbikdahgjaaGreatDoorPr11
import Derived.Test.YtglenbikdahgjaaGreatDoorPr09
set_option maxRecDepth 100000
set_option maxHeartbeats 16000000
open And renaming intro->DT
open Bool renaming or_eq_false_iff->Et
open Go renaming Calls->DN,TypeId->Ec,Value->DG,World->DF,maxLen->DV,run_underlying->Gk
open Go.Lib renaming run_eql_slice_nil->ES
open Go.MapKept renaming run_getObj_map->GW
open Go.Result renaming andThen->GO
open Go.RowKit renaming intOf->Ef
open Go.RowKit.Below renaming refl->DI,trans->Ei
open Go.Value renaming slice->FE
open Go.World renaming block_lt_of_cell?->DM,cell?_of_block->EH,ownsRow_nil->EU
open List renaming getD_eq_getElem?_getD->DJ,getElem?_drop->E3,getElem?_eq_getElem->DL,getElem?_map->Ev,getElem?_set_self->E8,getElem_mem->Fc,getElem_of_mem->Io,length->EW,length_eq_zero_iff->Ed,length_map->D2,length_set->Ea,map_append->EF,map_cons->E2,mem_append->EL,mem_cons->Es,mem_map->F6,mem_singleton->F4,nil_append->EG,replicate->D7,take_length->Ge,take_of_length_le->DW
open Nat renaming add_zero->Gh,le_refl->DH,le_trans->D0,lt_of_le_of_lt->Gf,lt_of_lt_of_le->D9,mul_one->Fi,zero_add->DY,zero_le->DZ,zero_mul->Gg
open Option renaming none->Gx,some->Ex
open Option.some renaming inj->Fk
namespace Go.Proofs.Bl
open Go Go.RowKit Go.Proofs
open Go.Proofs.Tryz renaming prog->DE,underlying55->G6
variable {n size base i lo hi g cap j m B:Nat} {P:Program} {y:Int}
def rA (x:Int):Int:=bits .xor .u8 x 1
theorem oC (x:Int):0<=rA x/\rA x<=255:=bits_within .xor .u8 x 1
def fZ (b:List Int) (y:Int):List Int:=if 0 < b.length then b.set (y % (b.length:Int)).toNat (rA (b.getD (y % (b.length:Int)).toNat 0))else b
theorem lC (b:List Int) (y:Int):(fZ b y).length=b.length:=by
 unfold fZ;split<;>simp
theorem oD {b:List Int} (h:0 < b.length):fZ b y=b.set (y % (b.length:Int)).toNat (rA (b.getD (y % (b.length:Int)).toNat 0)):=if_pos h
theorem xZ {b:List Int} (h:¬0 < b.length):fZ b y=b:=if_neg h
theorem bA.C8 {b:List Int} (h:bA b) {x:Int} (hx:0<=x/\x<=255) (i:Nat):bA (b.set i x):=fun z a=>by
 rcases List.mem_or_eq_of_mem_set a with q | q
 ·exact h z q
 ·rw[q];exact hx
theorem lD {b:List Int} (h:bA b) (y:Int):bA (fZ b y):=by
 unfold fZ;split
 ·exact h.C8 (oC _) _
 ·exact h
theorem ya (y:Int) (h:0 < n):0<=y % (n:Int)/\y % (n:Int) < (n:Int):=⟨Int.emod_nonneg _ (by omega),Int.emod_lt_of_pos _ (by omega)⟩
theorem fK (y:Int) (h:0 < n):∃j,j < n/\y % (n:Int)=(j:Int)/\(y % (n:Int)).toNat=j:=by
 obtain⟨h1,h2⟩:=ya y h;exact⟨(y % (n:Int)).toNat,by omega,by omega,rfl⟩
def Bw (s:Sh) (y:Int):Sh:=(s.1,fZ s.2.1 y,s.2.2)
def zP (s:Sh) (y:Int):Sh:=if 0 < s.2.2.length then(s.1,s.2.1,s.2.2.set 0 (fZ (s.2.2.getD 0 []) y))else s
def Aw (L:List Sh) (i:Nat):List Sh:=(L.set 0 ((L.getD 0 h0).1,(L.getD i h0).2)).set i ((L.getD i h0).1,(L.getD 0 h0).2)
def bS (k:Int) (i:Nat) (y:Int) (L:List Sh):List Sh:=
 if k=1 then L.set i (Bw (L.getD i h0) y)else if k=2 then L.set i (zP (L.getD i h0) y)else if k=3 then Aw L i
 else if k=4 then(if 1 < L.length then L.eraseIdx i else L)else if k=5 then L.set i (y % 512,(L.getD i h0).2)else L
def dN (k at' y:Int) (l:Cp):Cp:=if l.kind=4/\0 < l.shown.length then {l with shown:=bS k (at' % (l.shown.length:Int)).toNat y l.shown} else l
def bE (k at' y:Int) (l:Cp):Cp × Bool:=
 if k=9 then(dI,false)else if k=6 then(⟨7,l.id,l.obj,[],[],0,0,[],1⟩,true)else if k=7 then({l with id:=(l.id+1) % 1099511627777},true)
 else if k=8 then({l with obj:=at'},true)
 else if k=1/\l.kind=6/\0 < l.blocks.length then({l with blocks:=l.blocks.set (at' % (l.blocks.length:Int)).toNat (fZ (l.blocks.getD (at' % (l.blocks.length:Int)).toNat []) y)},true)
 else(dN k at' y l,true)
def uk (k at' y:Int) (l:Cp) (w:DF) (e:Ending) (w':DF):Prop:=∃v',e=.returned (.tuple #[v',.bool (bE k at' y l).2])/\dH w' v' (bE k at' y l).1/\az w w'
def Pq (lo hi:Nat) (w:DF) (size:Nat) (v:DG) (n:Nat) (cs:List DG):Prop:=Pk w lo size v n cs/\∀b,v.ownBlock=some b->b < hi
theorem Pq.kept {d a:Nat} {w w':DF} {v:DG} {cs:List DG} (h:Pq lo hi w size v n cs) (i:d<=lo) (f:hi<=a) (g:∀b,lo<=b->b < hi->w'.heap[b]? =w.heap[b]?) (j:w.heap.size<=w'.heap.size):Pq d a w' size v n cs:=
 ⟨(h.1.kept (fun k c=>g k (h.1.block k c).1 (h.2 k c)) j).mono i,fun b e=>D9 (h.2 b e) f⟩
theorem Pq.AS {e:Nat} {w:DF} {v:DG} {cs:List DG} (h:w.ownsRow B e size v n cs):Pq B w.heap.size w size v n cs:=⟨Pk.AS h,fun b a=>(h.lt b a).2⟩
theorem Pq.CA {w:DF} {v:DG} {cs:List DG} (h:Pq lo hi w size v n cs) {F:Nat->Prop} (c:∀b,lo<=b->b < hi->F b):aS F w v n cs:=aS.By h.1.AT fun b a _=>c b (h.1.block b a).1 (h.2 b a)
structure EP (lo hi:Nat) (w:DF) (x:Sv):Prop where
 st:Pq lo hi w 1 x.2.1.1 x.2.1.2.length (ao .u8 x.2.1.2)
 pa:Pq lo hi w 32 x.2.2.1 x.2.2.2.length (aN x.2.2.2)
 ne:∀b,x.2.1.1.ownBlock=some b->x.2.2.1.ownBlock≠some b
 bs:bA x.2.1.2
 dg:dm x.2.2.2
def EB (lo hi:Nat) (w:DF) (x:Bv):Prop:=Pq lo hi w 1 x.1 x.2.length (ao .u8 x.2)/\bA x.2
def zQ {α :Type} (E:Nat->Nat->DF-> α ->Prop):Prop:=∀lo hi lo' hi' w w' x,E lo hi w x->lo'<=lo->hi<=hi'->(∀b,lo<=b->b < hi->w'.heap[b]? =w.heap[b]?)->w.heap.size<=w'.heap.size->E lo' hi' w' x
theorem jk:zQ EP:=fun _ _ _ _ _ _ _ h c a b d=>⟨h.st.kept c a b d,h.pa.kept c a b d,h.ne,h.bs,h.dg⟩
theorem pO:zQ EB:=fun _ _ _ _ _ _ _ h c a b d=>⟨Pq.kept h.1 c a b d,h.2⟩
theorem EP.okF {w:DF} {x:Sv} (h:EP lo hi w x) {F:Nat->Prop} (a:∀b,lo<=b->b < hi->F b):ez F w x:=⟨h.st.CA a,h.bs,h.pa.CA a,h.dg⟩
def Sq {α :Type} (E:Nat->Nat->DF-> α ->Prop) (hi:Nat) (w:DF):List α ->Nat->Prop
 | [],lo=>lo<=hi
 | x :: r,lo=>∃m,lo<=m/\E lo m w x/\Sq E hi w r m
section
variable {α :Type} {E:Nat->Nat->DF-> α ->Prop} {hi:Nat} {w w':DF}
theorem Sq.le:∀ {L:List α} {a:Nat},Sq E hi w L a->a<=hi
 | [],_,h=>h
 | _ :: _,_,⟨_,h1,_,h2⟩=>D0 h1 h2.le
theorem Sq.kept (e:zQ E) (f:w.heap.size<=w'.heap.size):∀ {L:List α} {d:Nat},Sq E hi w L d->(∀b,d<=b->b < hi->w'.heap[b]? =w.heap[b]?)->Sq E hi w' L d
 | [],_,h,_=>h
 | _ :: _,_,⟨m,h1,h2,h3⟩,hk=>⟨m,h1,e _ _ _ _ _ _ _ h2 (DH _) (DH _) (fun b a c=>hk b a (D9 c h3.le)) f,h3.kept e f fun b a c=>hk b (D0 h1 a) c⟩
theorem Sq.snoc (b:zQ E) {m:Nat} {x: α} (hm:m<=hi) (hx:E m hi w x):∀ {L:List α} {a:Nat},Sq E m w L a->Sq E hi w (L++[x]) a
 | [],a,h=>⟨hi,D0 h hm,b m hi a hi w w x hx h (DH _) (fun _ _ _=>rfl) (DH _),DH _⟩
 | _ :: _,_,⟨m',h1,h2,h3⟩=>⟨m',h1,h2,h3.snoc b hm hx⟩
theorem Sq.Cz {x: α} {B:List α}:∀ {A:List α} {a:Nat},Sq E hi w (A++x :: B) a->∃m1 m2,Sq E m1 w A a/\m1<=m2/\E m1 m2 w x/\Sq E hi w B m2
 | [],a,⟨m,h1,h2,h3⟩=>⟨a,m,DH a,h1,h2,h3⟩
 | _ :: _,_,⟨m,h1,h2,h3⟩=>by
  obtain⟨m1,m2,b,c,d,e⟩:=h3.Cz;exact⟨m1,m2,⟨m,h1,h2,b⟩,c,d,e⟩
theorem Sq.join {x: α} {B:List α} {m1 m2:Nat} (h2:m1<=m2) (b:E m1 m2 w x) (c:Sq E hi w B m2) (d:zQ E):∀ {A:List α} {a:Nat},Sq E m1 w A a->Sq E hi w (A++x :: B) a
 | [],a,h=>⟨m2,D0 h h2,d m1 m2 a m2 w w x b h (DH _) (fun _ _ _=>rfl) (DH _),c⟩
 | _ :: _,_,⟨m,k1,k2,k3⟩=>⟨m,k1,k2,Sq.join h2 b c d k3⟩
theorem Sq.all:∀ {L:List α} {c:Nat},Sq E hi w L c->∀x∈L,∃a b,c<=a/\b<=hi/\E a b w x
 | [],_,_,x,hx=>by cases hx
 | y :: r,c,⟨m,h1,h2,h3⟩,x,hx=>by
  rcases Es.1 hx with rfl | hx
  ·exact⟨c,m,DH _,h3.le,h2⟩
  ·obtain⟨a,b,d,e,f⟩:=h3.all x hx;exact⟨a,b,D0 h1 d,e,f⟩
theorem oE (d: α) (L:List α) (i:Nat) (h:i < L.length):L=L.take i++L.getD i d :: L.drop (i+1):=by
 rw[DJ,DL h,Option.getD_some,<-List.drop_eq_getElem_cons h,List.take_append_drop]
theorem oF (L:List α) (i:Nat) (y: α) (h:i < L.length):L.set i y=L.take i++y :: L.drop (i+1):=by
 rw[List.set_eq_take_append_cons_drop,if_pos h]
theorem Sq.Db (c:zQ E) (d: α) {L:List α} {a i:Nat} (h:Sq E hi w L a) (k:i < L.length):∃m1 m2,a<=m1/\m1<=m2/\m2<=hi/\E m1 m2 w (L.getD i d)/\∀w' y,(∀b,a<=b->b < hi->¬(m1<=b/\b < m2)->w'.heap[b]? =w.heap[b]?)->w.heap.size<=w'.heap.size->E m1 m2 w' y->Sq E hi w' (L.set i y) a:=by
 rw[oE d L i k]at h;obtain⟨m1,m2,e,n,o,f⟩:=h.Cz;refine⟨m1,m2,e.le,n,f.le,o,fun w' y l m hy=> ?_⟩;rw[oF L i y k];have p:=e.le;have r:=f.le;exact Sq.join n hy (f.kept c m fun b g j=>l b (by omega) j (fun q=>by omega)) c (e.kept c m fun b g j=>l b g (by omega) (fun q=>by omega))
end
theorem Pk.put {w:DF} {xs:List DG} (h:Pk w base size (.slice (some ⟨g,0,none⟩) n cap) n xs) (d:j < xs.length) (u:DG):Pk (w.setCell ⟨g,j,none⟩ u) base size (.slice (some ⟨g,0,none⟩) n cap) n (xs.set j u):=by
 rcases h with ⟨q,_,_⟩ | ⟨r,o,a,f,hp⟩
 ·cases q
 injection a with a _ b;injection a with a;injection a with a;subst a b;have m:=((DI 0 w).setCell (p:=⟨g,j,none⟩) (DZ _) u).size;refine .inr ⟨g,cap,rfl,f,hp.le,hp.mx,by rw[Ea];exact hp.len,fun k v c=> ?_,World.there_setCells hp.th g j [u],D9 hp.lt m⟩;rw[DY];have b:∀i v,xs[i]? =some v->w.cell? ⟨g,i,none⟩=some v:=fun i v l=>by have:=hp.rg i v l;rwa[DY]at this
 by_cases e:k=j
 ·subst e;rw[E8 d]at c;rw[World.cell?_setCell_same' _ _ _ (by rw[b k _ (DL d)];rfl)];exact c
 ·rw[List.getElem?_set_ne (fun q=>e q.symm)]at c;exact eP (b k v c) (fun q=>e q.symm)
theorem Pk.fz {w:DF} {xs:List DG} (h:Pk w base size (.slice (some ⟨g,0,none⟩) n cap) n xs) (f:j < xs.length):w.frozen? ⟨g,j,none⟩=false:=by
 rcases h with ⟨q,_,_⟩ | ⟨d,c,a,e,hp⟩
 ·cases q
 injection a with a _ b;injection a with a;injection a with a;subst a b;have i:=hp.len;have:=(hp.th j (by have:=Nat.mul_le_mul_right size hp.le;omega)).2;rwa[DY]at this
theorem Pk.cell {w:DF} {xs:List DG} (h:Pk w base size (.slice (some ⟨g,0,none⟩) n cap) n xs) {v:DG} (c:xs[j]? =some v):w.cell? ⟨g,j,none⟩=some v:=by
 rcases h with ⟨q,_,_⟩ | ⟨e,d,a,f,hp⟩
 ·cases q
 injection a with a _ b;injection a with a;injection a with a;subst a b;have:=hp.rg j v c;rwa[DY]at this
theorem Pk.form {w:DF} {v:DG} {xs:List DG} (h:Pk w base size v n xs) (c:0 < n):∃g cap,v=.slice (some ⟨g,0,none⟩) n cap/\base<=g/\g < w.heap.size/\n<=cap/\cap<=DV/\w.rangeAt g 0 xs:=by
 rcases h with ⟨_,q,_⟩ | ⟨g,cap,b,a,hp⟩
 ·omega
 ·exact⟨g,cap,b,a,hp.lt,hp.le,hp.mx,hp.rg⟩
section
variable {α :Type} {f: α ->List DG} {s:Nat}
theorem cQ (a:∀x,(f x).length=s) (d y: α) (v:DG) (j:Nat) (b:j < s):∀(L:List α) (i:Nat),i < L.length->f y=(f (L.getD i d)).set j v->(aw f L).set (i*s+j) v=aw f (L.set i y)
 | [],i,hi,_=>by cases hi
 | x :: r,0,_,hy=>by
  rw[List.set_cons_zero,cm,cm,Gg,DY,List.set_append_left _ _ (by rw[a];exact b)];have hy:f y=(f x).set j v:=hy;rw[hy]
 | x :: r,i+1,hi,hy=>by rw[List.set_cons_succ,cm,cm,Nat.succ_mul,List.set_append_right _ _ (by rw[a];omega),a];rw[show i*s+s+j - s=i*s+j by omega,cQ a d y v j b r i (by simpa using hi) hy]
theorem iO (d y: α):∀(L:List α) (i:Nat),i < L.length->f y=f (L.getD i d)->aw f (L.set i y)=aw f L
 | [],i,hi,_=>by cases hi
 | x :: r,0,_,hy=>by
  have hy:f y=f x:=hy;rw[List.set_cons_zero,cm,cm,hy]
 | x :: r,i+1,hi,hy=>by rw[List.set_cons_succ,cm,cm,iO d y r i (by simpa using hi) hy]
theorem dk (a:∀x,(f x).length=s) (d: α) (j:Nat) (b:j < s):∀(L:List α) (i:Nat),i < L.length->(aw f L)[i*s+j]? =(f (L.getD i d))[j]?
 | [],i,hi=>by cases hi
 | x :: r,0,_=>by
  rw[cm,Gg,DY,List.getElem?_append_left (by rw[a];exact b)];rfl
 | x :: r,i+1,hi=>by rw[cm,Nat.succ_mul,List.getElem?_append_right (by rw[a];omega),a,show i*s+s+j - s=i*s+j by omega,dk a d j b r i (by simpa using hi)];rfl
end
structure jD (w:DF) (B N1 N2 N3 N4 N5:Nat) (l:Cp) (vp vs vb:DG) (L:List Sv) (M:List Bv):Prop where
 pl:Pq B N1 w 1 vp l.places.length (ao .i64 l.places)
 sh:Pq N1 N2 w 3 vs L.length (aw cS L)
 se:Sq EP N3 w L N2
 sl:L.map cf=l.shown
 bl:Pq N3 N4 w 1 vb M.length (aw cB M)
 be:Sq EB N5 w M N4
 bm:M.map (·.2)=l.blocks
 le:N5<=w.heap.size
 o1:B<=N1
 o2:N1<=N2
 o4:N3<=N4
section
variable {w w':DF} {B N1 N2 N3 N4 N5:Nat} {l:Cp} {vp vs vb:DG} {L:List Sv} {M:List Bv}
theorem jD.CL (h:jD w B N1 N2 N3 N4 N5 l vp vs vb L M):B<=N1/\N1<=N2/\N2<=N3/\N3<=N4/\N4<=N5/\N5<=w.heap.size:=⟨h.o1,h.o2,h.se.le,h.o4,h.be.le,h.le⟩
theorem jD.okF (h:jD w B N1 N2 N3 N4 N5 l vp vs vb L M):∀x∈L,ez (fun b=>N2<=b/\b < N3) w x:=fun x hx=>by
 obtain⟨a,b,h1,h2,d⟩:=h.se.all x hx;exact d.okF fun c e f=>⟨by omega,by omega⟩
theorem jD.okB (h:jD w B N1 N2 N3 N4 N5 l vp vs vb L M):∀x∈M,iI (fun b=>N4<=b/\b < N5) w x:=fun x hx=>by
 obtain⟨a,b,h1,h2,d⟩:=h.be.all x hx;exact⟨Pq.CA d.1 fun c e f=>⟨by omega,by omega⟩,d.2⟩
theorem jD.fin (h:jD w B N1 N2 N3 N4 N5 l vp vs vb L M) (d:∀b,B<=b->(b < N1\/N3<=b)->b < w.heap.size->w'.heap[b]? =w.heap[b]?) {vs2:DG} {L2:List Sv} (row:aS (fun b=>B<=b) w' vs2 L2.length (aw cS L2)) (ok:∀x∈L2,ez (fun b=>B<=b) w' x) {e:List Sh} (g:L2.map cf=e):bZ (fun b=>B<=b) w' {l with shown:=e} vp vs2 vb L2:=by
 obtain⟨i,j,k,m,n,o⟩:=h.CL;refine⟨?_,row,ok,g,M,?_,fun x hx=> ?_,h.bm⟩
 ·exact(h.pl.CA (F:=fun b=>B<=b/\b < N1) fun b a f=>⟨a,f⟩).kept fun b a c=>⟨a.1,d b a.1 (.inl a.2) c⟩
 ·exact(h.bl.CA (F:=fun b=>N3<=b) fun b a _=>a).kept fun b a c=>⟨by omega,d b (by omega) (.inr a) c⟩
 ·exact br _ _ _ _ _ (h.okB x hx) fun b a c=>⟨by omega,d b (by omega) (.inr (by omega)) c⟩
theorem jD.CR (h:jD w B N1 N2 N3 N4 N5 l vp vs vb L M):bZ (fun b=>B<=b) w l vp vs vb L:=by
 obtain⟨c,d,e,f,g,i⟩:=h.CL;exact h.fin (w':=w) (fun _ _ _ _=>rfl) (h.sh.CA fun b a _=>by omega) (fun x hx=>aU _ _ _ _ _ (h.okF x hx) fun b a _=>⟨by omega,rfl⟩) h.sl
theorem jD.Dc (h:jD w B N1 N2 N3 N4 N5 l vp vs vb L M) {i:Nat} (k:i < L.length):∃m1 m2,N2<=m1/\m1<=m2/\m2<=N3/\EP m1 m2 w (L.getD i s0)/\∀w' y,(∀b,B<=b->b < w.heap.size->¬(m1<=b/\b < m2)->w'.heap[b]? =w.heap[b]?)->w.heap.size<=w'.heap.size->EP m1 m2 w' y->cS y=cS (L.getD i s0)->bZ (fun b=>B<=b) w' {l with shown:=(L.set i y).map cf} vp vs vb (L.set i y):=by
 obtain⟨C,D,E,G,H,I⟩:=h.CL;obtain⟨m1,m2,p,r,s,t,u⟩:=h.se.Db jk s0 k;refine⟨m1,m2,p,r,s,t,fun w' y e o hy j=> ?_⟩;have m:=u w' y (fun b d g n=>e b (by omega) (by omega) n) o hy;refine h.fin (fun b d A f=>e b d f (fun q=>by omega)) ?_ (fun x hx=> ?_) rfl
 ·rw[iO s0 y L i k j,Ea];exact(h.sh.CA (F:=fun b=>N1<=b/\b < N2) fun b d g=>⟨d,g⟩).kept fun b d f=>⟨by omega,e b (by omega) f (fun q=>by omega)⟩
 ·obtain⟨a,b,J,K,v⟩:=m.all x hx;exact v.okF fun c j z=>by omega
theorem jD.Dd (h:jD w B N1 N2 N3 N4 N5 l vp vs vb L M) {i:Nat} (m:i < M.length):∃m1 m2,N4<=m1/\m1<=m2/\m2<=N5/\EB m1 m2 w (M.getD i (.slice none 0 0,[]))/\∀w' j,(∀b,B<=b->b < w.heap.size->¬(m1<=b/\b < m2)->w'.heap[b]? =w.heap[b]?)->w.heap.size<=w'.heap.size->EB m1 m2 w' ((M.getD i (.slice none 0 0,[])).1,j)->bZ (fun b=>B<=b) w' {l with blocks:=l.blocks.set i j} vp vs vb L:=by
 obtain⟨C,D,E,G,H,I⟩:=h.CL;obtain⟨m1,m2,s,t,u,v,y⟩:=h.be.Db pO (.slice none 0 0,[]) m;refine⟨m1,m2,s,t,u,v,fun w' j k r hy=> ?_⟩;have o:=y w' _ (fun b d g p=>k b (by omega) (by omega) p) r hy;refine⟨?_,?_,fun x hx=> ?_,h.sl,M.set i ((M.getD i (.slice none 0 0,[])).1,j),?_,fun x hx=> ?_,?_⟩
 ·exact(h.pl.CA (F:=fun b=>B<=b/\b < N1) fun b d g=>⟨d,g⟩).kept fun b d e=>⟨d.1,k b d.1 e (fun q=>by omega)⟩
 ·exact(h.sh.CA (F:=fun b=>N1<=b/\b < N2) fun b d g=>⟨d,g⟩).kept fun b d e=>⟨by omega,k b (by omega) e (fun q=>by omega)⟩
 ·exact aU _ _ _ _ _ (h.okF x hx) fun b d e=>⟨by omega,k b (by omega) e (fun q=>by omega)⟩
 ·rw[iO (f:=cB) (.slice none 0 0,[]) ((M.getD i (.slice none 0 0,[])).1,j) M i m rfl,Ea];exact(h.bl.CA (F:=fun b=>N3<=b/\b < N4) fun b d g=>⟨d,g⟩).kept fun b d e=>⟨by omega,k b (by omega) e (fun q=>by omega)⟩
 ·obtain⟨a,b,J,K,n⟩:=o.all x hx;exact⟨Pq.CA n.1 fun c z A=>by omega,n.2⟩
 ·rw[List.map_set,h.bm]
end
theorem nJ (n b:Int) (a:0 < b):n.tmod b % b=n % b/\ -b < n.tmod b/\n.tmod b < b:=by
 refine⟨?_,?_,Int.tmod_lt_of_pos n a⟩
 ·have h:=Int.tmod_add_mul_tdiv n b;have h2:(n.tmod b+b*n.tdiv b) % b=n.tmod b % b:=Int.add_mul_emod_self_left _ _ _;rw[<-h2,h]
 ·by_cases h0:0<=n
  ·have:=Int.tmod_nonneg b h0;omega
  ·have h1:=Int.tmod_lt_of_pos (-n) a;rw[Int.neg_tmod]at h1;omega
theorem iP (n b:Int) (w:DF) (a:0 < b) (c:b<=2199023255552):
  DN DE 65 #[.int .i64 n,.int .i64 b] w fun e w'=>e=.returned (.int .i64 (n % b))/\w=w':=by
 have d:¬(b=0):=by omega
 obtain⟨h0,h2,h1⟩:=nJ n b a;have HV:Hid ((n.tmod b+b) % b=n % b):=aa (by rw[Int.add_emod_right];exact h0);clear h0;go_enter Tryz.func65,Tryz.ntmps65
 go_wp2_with fail
 go_ret;rw[HV.out];exact⟨rfl,rfl⟩
theorem ej (n b:Int) (w:DF) (a:0 < b) (c:b<=2199023255552):
  DN DE 98 #[.int .i64 n,.int .i64 b] w fun e w'=>e=.returned (.int .i64 (n % b))/\w=w':=by
 have f:¬(b=0):=by omega
 obtain⟨h0,h2,h1⟩:=nJ n b a;by_cases d:n.tmod b < 0
 ·have HV:Hid (n.tmod b+b=n % b):=aa (by rw[<-h0,<-Int.add_emod_right];exact(Int.emod_eq_of_lt (by omega) (by omega)).symm);clear h0;go_enter Tryz.func98,Tryz.ntmps98
  go_wp2_with fail
  go_ret;rw[HV.out];exact⟨rfl,rfl⟩
 ·have HV:Hid (n.tmod b=n % b):=aa (by rw[<-h0];exact(Int.emod_eq_of_lt (by omega) (by omega)).symm);clear h0;go_enter Tryz.func98,Tryz.ntmps98
  go_wp2_with fail
  go_ret;rw[HV.out];exact⟨rfl,rfl⟩
theorem kV (ad:Addr) (c:Nat) (l:List Int) (w:DF) (h2:bh w (.slice (some ad) l.length c) l.length (ao .i64 l)) (f:l.length<=1048576):
  DN DE 109 #[.slice (some ad) l.length c] w fun e w'=>∃a,e=.returned a/\w'.ownsRow w.heap.size 3 1 a l.length (ao .i64 l)/\az w w':=by
 have n:=ES (P:=DE) w 23 3 (some ad) l.length c 0 0 Tryz.underlying23;have d:az w (w.alloc (.cells #[] 3)):=ae _ _;have k:Hid ((w.alloc (.cells #[] 3)).ownsRow w.heap.size 3 1 (.slice (some ⟨w.heap.size,0,none⟩) 0 0) 0 []):=aa (bW w 3 #[] w.heap.size 0 1 (DH _) (by decide) rfl);have h:=aa (bh.ext h2 d);have b:=aa f;have i:Hid (∀u∈ao .i64 l,u.oneCell'=true):=aa (aF _ _);have j:Hid ((ao .i64 l).length=l.length*1):=aa (by rw[ints_length,Fi]);clear h2 d f;go_enter Tryz.func109,Tryz.ntmps109
 go_wp2_with ((with_reducible refine cY za k.out h.out j.out i.out (by have:=b.out;unfold DV;omega) (by have:=b.out;omega) (by simp) ?_ ?_ ?_);rfl;rfl;intro a w' g p m o)
 go_ret;rw[DY,EG]at g;exact⟨_,rfl,g,((DI _ _).alloc (DH _) _).trans m⟩
theorem rB (v:DG) (l:List Int) (w:DF) (h:bh w v l.length (ao .i64 l)) (a:l.length<=1048576):
  DN DE 109 #[v] w fun e w'=>∃f,e=.returned f/\w'.ownsRow w.heap.size 3 1 f l.length (ao .i64 l)/\az w w':=by
 have h2:=h;rcases h with ⟨⟨p,rfl⟩,d,g⟩ | ⟨b,o,c,rfl,k,j,m⟩
 ·obtain rfl:l=[]:=Ed.1 d;cases p with
  | some ad=>exact kV ad 0 [] w h2 a
  | none=>
   have i:=ES (P:=DE) w 23 3 none 0 0 0 0 Tryz.underlying23;clear d g h2;go_enter Tryz.func109,Tryz.ntmps109
   go_wp2
   go_ret;exact⟨_,rfl,EU _ _ _ _,DI _ _⟩
 ·exact kV _ c l w h2 a
theorem kW (ad:Addr) (c:Nat) (l:List Sv) (w:DF) (h2:bh w (.slice (some ad) l.length c) l.length (aw cS l)) (g:∀x∈l,uL w x) (f:l.length<=1048576):
  DN DE 110 #[.slice (some ad) l.length c] w fun e w'=>∃a,e=.returned a/\w'.ownsRow w.heap.size 57 3 a l.length (aw cS l)/\az w w':=by
 have o:=ES (P:=DE) w 24 57 (some ad) l.length c 0 0 Tryz.underlying24;have d:az w (w.alloc (.cells #[] 57)):=ae _ _;have m:Hid ((w.alloc (.cells #[] 57)).ownsRow w.heap.size 57 3 (.slice (some ⟨w.heap.size,0,none⟩) 0 0) 0 []):=aa (bW w 57 #[] w.heap.size 0 3 (DH _) (by decide) rfl);have i:=aa (bh.ext h2 d);have b:=aa f;have j:Hid (∀u∈aw cS l,u.oneCell'=true):=aa (eg fun x hx=>gP (g x hx));have k:Hid ((aw cS l).length=l.length*3):=aa (dj l);clear h2 d f g;go_enter Tryz.func110,Tryz.ntmps110
 go_wp2_with ((with_reducible refine cY pg m.out i.out k.out j.out (by have:=b.out;unfold DV;omega) (by have:=b.out;omega) (by simp) ?_ ?_ ?_);rfl;rfl;intro a w' h q n p)
 go_ret;rw[DY,EG]at h;exact⟨_,rfl,h,((DI _ _).alloc (DH _) _).trans n⟩
theorem rC (v:DG) (l:List Sv) (w:DF) (h:bh w v l.length (aw cS l)) (a:∀x∈l,uL w x) (d:l.length<=1048576):
  DN DE 110 #[v] w fun e w'=>∃g,e=.returned g/\w'.ownsRow w.heap.size 57 3 g l.length (aw cS l)/\az w w':=by
 have h2:=h;rcases h with ⟨⟨p,rfl⟩,f,i⟩ | ⟨b,o,c,rfl,m,k,n⟩
 ·obtain rfl:l=[]:=Ed.1 f;cases p with
  | some ad=>exact kW ad 0 [] w h2 a d
  | none=>
   have j:=ES (P:=DE) w 24 57 none 0 0 0 0 Tryz.underlying24;clear f i h2 a;go_enter Tryz.func110,Tryz.ntmps110
   go_wp2
   go_ret;exact⟨_,rfl,EU _ _ _ _,DI _ _⟩
 ·exact kW _ c l w h2 a d
theorem kX (ad:Addr) (c:Nat) (l:List Bv) (w:DF) (h2:bh w (.slice (some ad) l.length c) l.length (aw cB l)) (g:∀x∈l,∃p n c,x.1=.slice p n c) (f:l.length<=1048576):
  DN DE 112 #[.slice (some ad) l.length c] w fun e w'=>∃a,e=.returned a/\w'.ownsRow w.heap.size 27 1 a l.length (aw cB l)/\az w w':=by
 have q:=ES (P:=DE) w 22 27 (some ad) l.length c 0 0 Tryz.underlying22;have d:az w (w.alloc (.cells #[] 27)):=ae _ _;have m:Hid ((w.alloc (.cells #[] 27)).ownsRow w.heap.size 27 1 (.slice (some ⟨w.heap.size,0,none⟩) 0 0) 0 []):=aa (bW w 27 #[] w.heap.size 0 1 (DH _) (by decide) rfl);have i:=aa (bh.ext h2 d);have b:=aa f;have j:Hid (∀u∈aw cB l,u.oneCell'=true):=aa (eg fun x hx u hu=>by obtain⟨p,n,c,hp⟩:=g x hx;unfold cB at hu;rw[F4]at hu;rw[hu,hp];rfl);have k:Hid ((aw cB l).length=l.length*1):=aa (by rw[bG (s:=1) (fun _ _=>rfl)]);clear h2 d f g;go_enter Tryz.func112,Tryz.ntmps112
 go_wp2_with ((with_reducible refine cY xU m.out i.out k.out j.out (by have:=b.out;unfold DV;omega) (by have:=b.out;omega) (by simp) ?_ ?_ ?_);rfl;rfl;intro a w' h t o r)
 go_ret;rw[DY,EG]at h;exact⟨_,rfl,h,((DI _ _).alloc (DH _) _).trans o⟩
theorem rD (v:DG) (l:List Bv) (w:DF) (h:bh w v l.length (aw cB l)) (a:∀x∈l,∃p n c,x.1=.slice p n c) (d:l.length<=1048576):
  DN DE 112 #[v] w fun e w'=>∃g,e=.returned g/\w'.ownsRow w.heap.size 27 1 g l.length (aw cB l)/\az w w':=by
 have h2:=h;rcases h with ⟨⟨p,rfl⟩,f,i⟩ | ⟨b,o,c,rfl,m,k,q⟩
 ·obtain rfl:l=[]:=Ed.1 f;cases p with
  | some ad=>exact kX ad 0 [] w h2 a d
  | none=>
   have j:=ES (P:=DE) w 22 27 none 0 0 0 0 Tryz.underlying22;clear f i h2 a;go_enter Tryz.func112,Tryz.ntmps112
   go_wp2
   go_ret;exact⟨_,rfl,EU _ _ _ _,DI _ _⟩
 ·exact kX _ c l w h2 a d
theorem kY (ad:Addr) (c:Nat) (l:List (List Int)) (w:DF) (h2:bh w (.slice (some ad) l.length c) l.length (aN l)) (g:dm l) (f:l.length<=1048576):
  DN DE 111 #[.slice (some ad) l.length c] w fun e w'=>∃a,e=.returned a/\w'.ownsRow w.heap.size 54 32 a l.length (aN l)/\az w w':=by
 have o:=ES (P:=DE) w 55 54 (some ad) l.length c 0 0 G6;have d:az w (w.alloc (.cells #[] 54)):=ae _ _;have m:Hid ((w.alloc (.cells #[] 54)).ownsRow w.heap.size 54 32 (.slice (some ⟨w.heap.size,0,none⟩) 0 0) 0 []):=aa (bW w 54 #[] w.heap.size 0 32 (DH _) (by decide) rfl);have i:=aa (bh.ext h2 d);have b:=aa f;have j:Hid (∀u∈aN l,u.oneCell'=true):=aa (cH _);have k:Hid ((aN l).length=l.length*32):=aa (bF g);clear h2 d f g;go_enter Tryz.func111,Tryz.ntmps111
 go_wp2_with ((with_reducible refine cY jS m.out i.out k.out j.out (by have:=b.out;unfold DV;omega) (by have:=b.out;omega) (by simp) ?_ ?_ ?_);rfl;rfl;intro a w' h q n p)
 go_ret;rw[DY,EG]at h;exact⟨_,rfl,h,((DI _ _).alloc (DH _) _).trans n⟩
theorem rE (v:DG) (l:List (List Int)) (w:DF) (h:bh w v l.length (aN l)) (a:dm l) (d:l.length<=1048576):
  DN DE 111 #[v] w fun e w'=>∃g,e=.returned g/\w'.ownsRow w.heap.size 54 32 g l.length (aN l)/\az w w':=by
 have h2:=h;rcases h with ⟨⟨p,rfl⟩,f,i⟩ | ⟨b,o,c,rfl,m,k,n⟩
 ·obtain rfl:l=[]:=Ed.1 f;cases p with
  | some ad=>exact kY ad 0 [] w h2 a d
  | none=>
   have j:=ES (P:=DE) w 55 54 none 0 0 0 0 G6;clear f i h2 a;go_enter Tryz.func111,Tryz.ntmps111
   go_wp2
   go_ret;exact⟨_,rfl,EU _ _ _ _,DI _ _⟩
 ·exact kY _ c l w h2 a d
theorem nK (p:Option Addr) (c:Nat) (y:Int) (w:DF):
  DN DE 64 #[.slice p 0 c,.int .i64 y] w fun e w'=>e=.returned (.tuple #[])/\w=w':=by
 go_enter Tryz.func64,Tryz.ntmps64
 go_wp2_with fail
 go_end0
 exact⟨rfl,rfl⟩
theorem kI (g o c n:Nat) (b:List Int) (y:Int) (w:DF) (p:n=b.length) (h0:0 < n) (q:w.rangeAt g o (ao .u8 b)) (r:w.there g o n) (m:bA b) (D:n<=1099511627000):
  DN DE 64 #[.slice (some ⟨g,o,none⟩) n c,.int .i64 y] w fun e w'=>e=.returned (.tuple #[])/\∃j,j < n/\w'=w.setCell ⟨g,o+j,none⟩ (.int .u8 (rA (b.getD j 0)))/\fZ b y=b.set j (rA (b.getD j 0)):=by
 obtain⟨j,d,l,a⟩:=fK y h0
 have f:Hid (fZ b y=b.set j (rA (b.getD j 0))):=aa (by
  rw[p]at a
  rw[oD (by omega),a])
 have u:=q j _ (cX .u8 b j (by omega));obtain⟨t1,t2⟩:=r j d;obtain⟨z,A⟩:=m.get j;have i:Hid (rA (b.getD j 0)=bits .xor .u8 (b.getD j 0) 1):=aa rfl;obtain⟨x,hx⟩:=exq (b.getD j 0);rw[<-hx]at u z A i f;have k:=aa hx;have t:(0:Int) < (n:Int):=by omega
 have h:=aa (iP y n w t (by omega));have B:(0:Int)<=(j:Int):=by omega
 have C:(j:Int) < (n:Int):=by omega
 have s:=aa d;rw[l]at h;clear q r m hx p l a d t1;go_enter Tryz.func64,Tryz.ntmps64
 go_wp2_with fail
 refine h.mono ?_;rintro e E ⟨rfl,v⟩;subst v
 go_wp2_with fail
 go_end0
 refine⟨rfl,j,s,?_,by rw[<-k.out];exact f⟩;rw[<-k.out,i.out]
theorem kZ (v:DG) (b:List Int) (y:Int) (w:DF) (u:Rd w .u8 v b) (m:bA b) (P:b.length<=1099511627):
  DN DE 99 #[v,.int .i64 y] w fun e w'=>∃Q,e=.returned Q/\Pq w.heap.size w'.heap.size w' 1 Q b.length (ao .u8 (fZ b y))/\az w w':=by
 obtain⟨p,c,rfl,_,_⟩:=u.form;have t:az w (w.alloc (.cells #[] 5)):=ae _ _;have V:Hid ((w.alloc (.cells #[] 5)).ownsRow w.heap.size 5 1 (.slice (some ⟨w.heap.size,0,none⟩) 0 0) 0 []):=aa (bW w 5 #[] w.heap.size 0 1 (DH _) (by decide) rfl);have C:=aa (bh.ext u t);have R:=aa t;obtain⟨n,o⟩:=exq b.length;have f:=aa o;have q:Hid (n<=1099511627):=aa (by rw[o];exact P);have T:=aa m;rw[<-o]at C⊢;clear u t P o m;go_enter Tryz.func99,Tryz.ntmps99
 go_wp2_with (with_reducible refine ax ?_)
 refine au ?_;refine aZ aO V C rfl rfl (by rw[ints_length,Fi];exact f.symm) (aF _ _) (by have:=q.out;unfold DV;omega) (by have:=q.out;omega) (by simp) ?_;intro p1 G a i L s J A K;rw[DY]at i A⊢;rw[EG]at i;have D:Hid (az w a):=aa (Ei R s);by_cases h0:0 < n
 ·have l:=Pq.AS i;obtain⟨g,cap,Y,M,N,ac,ad,af⟩:=l.1.form h0;injection Y with Z _ ab;subst Z ab;obtain⟨j,O,H,r⟩:=fK y h0
  have S:Hid (fZ b y=b.set j (rA (b.getD j 0))):=aa (by
   rw[f.out]at r
   rw[oD (by have:=f.out;omega),r])
  have z:j < (ao .u8 b).length:=by rw[ints_length,<-f.out];exact O
  have X:=l.1.cell (cX .u8 b j (by have:=f.out;omega));have ai:=l.1.fz z;obtain⟨x0,x1⟩:=T.get j;have F:Hid (rA (b.getD j 0)=bits .xor .u8 (b.getD j 0) 1):=aa rfl
  have d:Hid (Pk (a.setCell ⟨g,j,none⟩ (.int .u8 (rA (b.getD j 0)))) w.heap.size 1 (.slice (some ⟨g,0,none⟩) n G) n (ao .u8 (fZ b y))):=aa (by
   rw[S.out,<-dA]
   exact l.1.put z _)
  obtain⟨x,hx⟩:=exq (b.getD j 0);rw[<-hx]at X x0 x1 F d;rw[F.out]at d;have U:=aa (DT M N);have I:(0:Int) < (n:Int):=by omega
  have E:Hid (∀k,DN DE 98 #[.int .i64 y,.int .i64 n] k fun e w'=>e=.returned (.int .i64 (j:Nat))/\k=w'):=aa fun k=>by have h:=ej y n k I (by have:=q.out;omega);rw[H]at h;exact h
  have aj:(0:Int)<=(j:Int):=by omega
  have ak:(j:Int) < (n:Int):=by omega
  clear i L s J A K l af M N ac ad z H r O hx
  go_wp2_with fail
  refine(E a).mono ?_;rintro e k ⟨rfl,B⟩;subst B
  go_wp2_with fail
  refine(E a).mono ?_;rintro e k ⟨rfl,B⟩;subst B
  go_wp2_with fail
  go_ret;have W:az w (a.setCell ⟨g,j,none⟩ (.int .u8 (bits .xor .u8 x 1))):=Below.setCell D U.1 _;exact⟨_,rfl,⟨d,fun b m=>(d.block b m).2⟩,W⟩
 ·have d:Hid (Pq w.heap.size a.heap.size a 1 (.slice p1 n G) n (ao .u8 (fZ b y))):=aa (by
   rw[xZ (by have:=f.out;omega)]
   exact Pq.AS i)
  have I:¬((0:Int) < (n:Int)):=by omega
  clear i L s J A K
  go_wp2_with fail
  go_ret;exact⟨_,rfl,d,D⟩
theorem az.trans' {N:Nat} {a b c:DF} (h:az a b) (k:Kq (fun k=>N<=k) b c) (d:a.heap.size<=N):az a c:=Ei h (k.below (B:=a.heap.size) h.size fun _k q=>D0 d q)
theorem nL {α :Type} {A B:List α} (d: α) (h:A.drop i=B.drop i):A.getD i d=B.getD i d:=by
 have h2:(A.drop i)[0]? =(B.drop i)[0]? :=by rw[h]
 rw[E3,E3,Gh]at h2;rw[DJ,DJ,h2]
theorem nM {α :Type} {A B:List α} (h:A.drop i=B.drop i):A.drop (i+1)=B.drop (i+1):=by
 have h2:=congrArg (List.drop 1) h;simpa[List.drop_drop] using h2
theorem pP {α :Type} (L:List α) (i:Nat) (y: α) (_h:i < L.length):(L.set i y).drop (i+1)=L.drop (i+1):=by
 rw[List.drop_set_of_lt (by omega)]
theorem j7 {α :Type} (L:List α) (i:Nat) (y: α) (h:i < L.length):(L.set i y).take (i+1)=L.take i++[y]:=by
 rw[oF L i y h,List.take_append,List.length_take,Nat.min_eq_left (Nat.le_of_lt h),Nat.add_sub_cancel_left,List.take_take,Nat.min_eq_right (Nat.le_succ i)];rfl
theorem pQ {α β :Type} (f: α -> β) (d y: α) (L:List α) (i:Nat) (h:i < L.length) (a:f y=f (L.getD i d)):(L.set i y).map f=L.map f:=by
 conv=>rhs;rw[oE d L i h]
 rw[oF L i y h,EF,EF,E2,E2,a]
theorem oG {w:DF} {v:DG} {ps:List (List Int)} (h:bf w v ps):∃M:List Bv,bh w v M.length (aw cB M)/\M.map (·.2)=ps/\∀x∈M,Rd w .u8 x.1 x.2:=by
 obtain⟨vs,h1,h2,c⟩:=h;refine⟨vs.zip ps,?_,?_,fun x hx=> ?_⟩
 ·rw[kE,List.map_fst_zip (by omega),List.length_zip,h2,Nat.min_self];exact h1
 ·exact List.map_snd_zip (by omega)
 ·obtain⟨i,d,rfl⟩:=Io hx;have a:i < vs.length/\i < ps.length:=by rw[List.length_zip]at d;omega
  have b:=c i a.2;rw[DJ,DJ,DL a.1,DL a.2]at b;rw[List.getElem_zip];exact b
theorem ja {α :Type} (d y: α) (L:List α) (i:Nat) (h:i < L.length):(L.set i y).getD i d=y:=by
 rw[DJ,E8 h];rfl
theorem jD.kept {w w':DF} {e f g i j:Nat} {l:Cp} {vp vs vb:DG} {L:List Sv} {M:List Bv} (h:jD w B e f g i j l vp vs vb L M) (a:∀b,B<=b->b < w.heap.size->w'.heap[b]? =w.heap[b]?) (c:w.heap.size<=w'.heap.size) {d:Nat} (k:d<=B):jD w' d e f g i j l vp vs vb L M:=by
 obtain⟨o,m,p,n,q,r⟩:=h.CL;exact⟨h.pl.kept k (DH _) (fun b h1 h2=>a b h1 (by omega)) c,h.sh.kept (DH _) (DH _) (fun b h1 h2=>a b (by omega) (by omega)) c,h.se.kept jk c (fun b h1 h2=>a b (by omega) (by omega)),h.sl,h.bl.kept (DH _) (DH _) (fun b h1 h2=>a b (by omega) (by omega)) c,h.be.kept pO c (fun b h1 h2=>a b (by omega) (by omega)),h.bm,by omega,by omega,m,n⟩
structure qD (N1 n cap g i:Nat) (st:List Int) (pa:List (List Int)) (xs:List DG) (W0:DF) (d:Nat->Bool) (u:Nat->DG) (w:DF):Prop where
 k:d 14=false->az W0 w
 b:d 8=true->Pq W0.heap.size w.heap.size w 1 (u 31) st.length (ao .u8 st)
 c:d 11=true->Pq W0.heap.size w.heap.size w 32 (u 34) pa.length (aN pa)/\(∀b,(u 31).ownBlock=some b->(u 34).ownBlock≠some b)
 r:d 14=false->Pk w N1 3 (.slice (some ⟨g,0,none⟩) n cap) n xs
 r2:d 14=true->Pk w N1 3 (.slice (some ⟨g,0,none⟩) n cap) n (xs.set (i*3+1) (u 31))
section
variable {N1 n cap g i:Nat} {st:List Int} {pa:List (List Int)} {xs:List DG} {W0:DF} {d:Nat->Bool} {u:Nat->DG} {w w':DF}
theorem qD.start (k:az W0 w) (h:Pk w N1 3 (.slice (some ⟨g,0,none⟩) n cap) n xs):qD N1 n cap g i st pa xs W0 (fun _=>false) u w:=⟨fun _=>k,fun q=>(by cases q),fun q=>(by cases q),fun _=>h,fun q=>(by cases q)⟩
theorem qD.same {j t:Nat} {v:DG} (h:qD N1 n cap g i st pa xs W0 d u w) (f:(decide (j=8)||decide (j=11)||decide (j=14)||decide (t=31)||decide (t=34))=false):qD N1 n cap g i st pa xs W0 (bD d j) (aQ (some t) u v) w:=by
 simp only[Et,decide_eq_false_iff_not]at f;obtain⟨⟨⟨⟨h1,h2⟩,o⟩,p⟩,q⟩:=f;have l:bD d j 8=d 8:=if_neg (fun e=>h1 e.symm);have a2:bD d j 11=d 11:=if_neg (fun e=>h2 e.symm);have a3:bD d j 14=d 14:=if_neg (fun e=>o e.symm);have a:aQ (some t) u v 31=u 31:=if_neg (fun e=>p e.symm);have m:aQ (some t) u v 34=u 34:=if_neg (fun e=>q e.symm);exact⟨by rw[a3];exact h.k,by rw[l,a];exact h.b,by rw[a2,a,m];exact h.c,by rw[a3];exact h.r,by rw[a3,a];exact h.r2⟩
theorem qD.one (h:qD N1 n cap g i st pa xs W0 d u w) (c:d 11=false) (a:d 14=false) {e:Ec} {b:DG} (f:w'.ownsRow w.heap.size e 1 b st.length (ao .u8 st)) (k:az w w'):qD N1 n cap g i st pa xs W0 (bD d 8) (aQ (some 31) u b) w':=
 ⟨fun _=>(h.k a).trans k,fun _=>(Pq.AS f).kept (h.k a).size (DH _) (fun _ _ _=>rfl) (DH _),fun q=>(by have q:d 11=true:=q;rw[c]at q;cases q),fun q=>(h.r q).ext k,fun q=>(by have q:d 14=true:=q;rw[a]at q;cases q)⟩
theorem qD.two (h:qD N1 n cap g i st pa xs W0 d u w) (l:d 8=true) (a:d 14=false) {e:Ec} {j:DG} (f:w'.ownsRow w.heap.size e 32 j pa.length (aN pa)) (k:az w w'):qD N1 n cap g i st pa xs W0 (bD d 11) (aQ (some 34) u j) w':=
 ⟨fun _=>(h.k a).trans k,fun q=>(h.b q).kept (DH _) k.size (fun b _ c=>k.block b c) k.size,fun _=>⟨(Pq.AS f).kept (h.k a).size (DH _) (fun _ _ _=>rfl) (DH _),fun b c q=>by
  have h1:=(h.b l).2 b c;have h2:=(f.lt b q).1
  omega⟩,fun q=>(h.r q).ext k,fun q=>(by have q:d 14=true:=q;rw[a]at q;cases q)⟩
theorem qD.Dv (h:qD N1 n cap g i st pa xs W0 d u w) (_p:d 8=true) (_o:d 11=true) (k:d 14=false) (s:g < W0.heap.size) (e:i*3+1 < xs.length) {v:DG} (m:u 31=v):qD N1 n cap g i st pa xs W0 (bD d 14) u (w.setCell ⟨g,i*3+1,none⟩ v):=by
 subst m;have f:∀j,j≠g->(w.setCell ⟨g,i*3+1,none⟩ (u 31)).heap[j]? =w.heap[j]? :=fun j e=>Below.heap_setCell w ⟨g,i*3+1,none⟩ _ j e
 have a:w.heap.size<=(w.setCell ⟨g,i*3+1,none⟩ (u 31)).heap.size:=((DI 0 w).setCell (DZ _) _).size;exact⟨fun q=>(by cases q),fun q=>(h.b q).kept (DH _) a (fun b l _=>f b (by omega)) a,fun q=>⟨(h.c q).1.kept (DH _) a (fun b l _=>f b (by omega)) a,(h.c q).2⟩,fun q=>(by cases q),fun _=>(h.r k).put e _⟩
end
structure mO (st:List Int) (W0:DF) (d:Nat->Bool) (u:Nat->DG) (w:DF):Prop where
 k:az W0 w
 b:d 4=true->Pq W0.heap.size w.heap.size w 1 (u 56) st.length (ao .u8 st)
section
variable {st:List Int} {W0:DF} {d:Nat->Bool} {u:Nat->DG} {w w':DF}
theorem mO.start (k:az W0 w):mO st W0 (fun _=>false) u w:=⟨k,fun q=>(by cases q)⟩
theorem mO.same {j t:Nat} {v:DG} (h:mO st W0 d u w) (a:(decide (j=4)||decide (t=56))=false):mO st W0 (bD d j) (aQ (some t) u v) w:=by
 simp only[Et,decide_eq_false_iff_not]at a;have c:bD d j 4=d 4:=if_neg (fun e=>a.1 e.symm);have f:aQ (some t) u v 56=u 56:=if_neg (fun e=>a.2 e.symm);exact⟨h.k,by rw[c,f];exact h.b⟩
theorem mO.one (h:mO st W0 d u w) {e:Ec} {a:DG} (b:w'.ownsRow w.heap.size e 1 a st.length (ao .u8 st)) (k:az w w'):mO st W0 (bD d 4) (aQ (some 56) u a) w':=
 ⟨h.k.trans k,fun _=>(Pq.AS b).kept h.k.size (DH _) (fun _ _ _=>rfl) (DH _)⟩
end
theorem rF (w:DF) {o:Obj} (hm:m < w.heap.size):({w with heap:=w.heap.setIfInBounds m o}:DF).heap[m]? =some o:=by
 simp[hm]
theorem wI (w:DF) (m:Nat) (o:Obj):Kq (fun k=>k=m) w {w with heap:=w.heap.setIfInBounds m o}:=
 ⟨rfl,rfl,rfl,by simp,fun k _ a=>by simp[Ne.symm a]⟩
theorem dG.put {t k e:Ec} {w:DF} {mp:List (Int × DG)} (j:P.underlying t=some (.map k e)) (a:P.underlying k=some (.int .i64)) (h:dG w m mp) (x:Int) (v:DG) (g:eZ mp x=none):
  ∃w',(Instr.mapUpdate t (.map (some m)) (.int .i64 x) v).run P w=.ok () w'/\dG w' m (mp++[(x,v)])/\Kq (fun k=>k=m) w w':=by
 have f:=h.lt;obtain⟨es,c,h1,h2⟩:=h;obtain⟨r,i,b⟩:=iF x es.toList mp 0 h2;rw[g]at b;have d:(Instr.checkKey false 10000 k (.int .i64 x)).run P w=.ok () w:=MapKept.run_checkKey (k:=.int .i64 x) a (by simp[MapKept.IsKey]) _ 9999;cases r with
 | some r=>cases b
 | none=>
  refine⟨_,?_,⟨es.push {key:=.int .i64 x,val:=v,born:=c},c+1,rF w f,?_⟩,wI w m _⟩
  ·simp[Instr.mapUpdate,Gk j,GW h1,d,MapKept.run_findKey a i,MapKept.run_setObj_map _ h1,GO]
  ·simp[h2]
theorem dG.len {t k e ty:Ec} {w:DF} {mp:List (Int × DG)} (b:P.underlying t=some (.map k e)) (h:dG w m mp):(Builtin.len_ #[t] ty #[.map (some m)]).run P w=.ok (.int .i64 mp.length) w:=by
 obtain⟨es,c,h1,h2⟩:=h;have a:es.size=mp.length:=by have:=congrArg EW h2;simpa using this
 simp[Builtin.len_,Gk b,GW h1,GO,goInt,a]
theorem wJ {mp:List (Int × DG)} {n:Int} {v:DG} (a:eZ mp n=none) (x:Int):eZ (mp++[(n,v)]) x=if x=n then some v else eZ mp x:=by
 unfold eZ;simp only[List.find?_append,Option.map_or];by_cases hx:x=n
 ·subst hx;unfold eZ at a;cases hf:mp.find? (fun p=>decide (p.1=x))with
  | some p=>rw[hf]at a;cases a
  | none=>simp
 ·rw[if_neg hx];have:¬n=x:=fun q=>hx q.symm
  cases hf:mp.find? (fun p=>decide (p.1=x))with
  | some p=>simp
  | none=>simp[this]
theorem gC {mp:List (Int × DG)} {n:Int} {v:DG} (h:eZ mp n=some v):(n,v)∈mp:=by
 unfold eZ at h;cases hf:mp.find? (fun p=>decide (p.1=n))with
 | none=>rw[hf]at h;cases h
 | some p=>
  rw[hf]at h;have h1:=List.find?_some hf;have h2:=List.mem_of_find?_eq_some hf;have a:p.1=n:=by simpa using h1
  have b:p.2=v:=by simpa using h
  rw[<-a,<-b];exact h2
def ig (N:Nat->Prop) (w:DF) (v:DG) (st:List (List Int)):Prop:=∃M:List Bv,Pk w 0 1 v M.length (aw cB M)/\(∀y∈M,iI (fun k=>¬N k) w y)/\M.map (·.2)=st
theorem ig.CB {N:Nat->Prop} {w:DF} {v:DG} {st:List (List Int)} (h:ig N w v st):bf w v st:=by
 obtain⟨M,h1,h2,a⟩:=h;refine⟨M.map (·.1),?_,by rw[<-a,D2,D2],fun i b=> ?_⟩
 ·have c:=h1.AT;rw[kE]at c;rw[<-a,D2];exact c
 ·rw[<-a,D2]at b;have d:=(h2 _ (Fc b)).1.AT;rw[<-a,DJ,DJ,Ev,Ev,DL b];exact d
theorem ig.C9 {N:Nat->Prop} {w:DF} {v:DG} {st:List (List Int)} (h:ig N w v st):∀b∈st,bA b:=by
 obtain⟨M,h1,h2,c⟩:=h;intro b a;rw[<-c]at a;obtain⟨y,hy,rfl⟩:=F6.1 a;exact(h2 y hy).2
theorem ig.kept {N a:Nat->Prop} {w w':DF} {v:DG} {st:List (List Int)} (h:ig N w v st) (e:∀k,v.ownBlock=some k->w'.heap[k]? =w.heap[k]?) (d:w.heap.size<=w'.heap.size) (c:∀k,¬N k->k < w.heap.size->¬a k/\w'.heap[k]? =w.heap[k]?):ig a w' v st:=by
 obtain⟨M,h1,h2,b⟩:=h;exact⟨M,h1.kept e d,fun y hy=>br _ _ _ _ _ (h2 y hy) c,b⟩
def pR (N:Nat->Prop) (w:DF):Option DG->Option (List (List Int))->Prop
 | some v,some st=>ig N w v st
 | none,none=>True
 | _,_=>False
theorem pR.Dj {N a:Nat->Prop} {w w':DF} {o:Option (List (List Int))} (h:pR N w none o):pR a w' none o:=by
 cases o
 ·exact h
 ·exact h.elim
structure j8 (N Q:Nat->Prop) (w:DF) (b m sb:Nat) (mp:List (Int × DG)) (s:eb):Prop where
 bx:av w b [.map (some m),.pointer (some ⟨sb,0,none⟩)]
 mt:dG w m mp
 sn:∃any g c,av w sb [.bool any,.int .i64 g,.int .u64 (c:Nat)]/\cC any g c s.ids
 ln:mp.length=s.BY.length
 ob:∀n,pR N w (eZ mp n) (dv s n)
 qb:¬Q b
 qm:Q m
 qs:Q sb
 ms:m≠sb
 rw:∀p∈mp,∀k,p.2.ownBlock=some k->Q k/\k≠m/\k≠sb
 sz:∀k,Q k->k < w.heap.size
def lE (N Q:Nat->Prop) (w:DF) (b:Nat) (s:eb):Prop:=∃m sb mp,j8 N Q w b m sb mp s
section
variable {N N' Q Q2:Nat->Prop} {w w':DF} {b m sb:Nat} {mp:List (Int × DG)} {s:eb}
theorem j8.row (h:j8 N Q w b m sb mp s) {n:Int} {v:DG} (a:eZ mp n=some v):∃st,dv s n=some st/\ig N w v st:=by
 have h1:=h.ob n;rw[a]at h1;cases hg:dv s n with
 | none=>rw[hg]at h1;exact h1.elim
 | some st=>rw[hg]at h1;exact⟨st,rfl,h1⟩
theorem j8.some (h:j8 N Q w b m sb mp s) {n:Int} {st:List (List Int)} (a:dv s n=some st):∃v,eZ mp n=some v/\ig N w v st:=by
 have h1:=h.ob n;rw[a]at h1;cases hv:eZ mp n with
 | none=>rw[hv]at h1;exact h1.elim
 | some v=>rw[hv]at h1;exact⟨v,rfl,h1⟩
theorem j8.none (h:j8 N Q w b m sb mp s) {n:Int} (a:dv s n=none):eZ mp n=none:=by
 have h1:=h.ob n;rw[a]at h1;cases hv:eZ mp n with
 | none=>rfl
 | some v=>rw[hv]at h1;exact h1.elim
theorem j8.kept (h:j8 N Q w b m sb mp s) (k:Kq Q2 w w') (e:∀i,Q2 i->N i/\¬Q i/\i≠b) (f:∀i,N' i->N i\/w.heap.size<=i):j8 N' Q w' b m sb mp s:=by
 have d:∀i,i < w.heap.size->Q i->w'.heap[i]? =w.heap[i]? :=fun i a j=>k.block i a fun q=>(e i q).2.1 j
 obtain⟨any,g,c,s1,s2⟩:=h.sn;refine⟨k.box (fun q=>(e b q).2.2 rfl) h.bx,h.mt.same (d m h.mt.lt h.qm),⟨any,g,c,s1.same (d sb s1.lt h.qs),s2⟩,h.ln,fun n=> ?_,h.qb,h.qm,h.qs,h.ms,h.rw,fun i a=>D9 (h.sz i a) k.size⟩;have h1:=h.ob n;cases hv:eZ mp n with
 | none=>rw[hv]at h1;exact pR.Dj h1
 | some v=>
  cases hg:dv s n with
  | none=>rw[hv,hg]at h1;exact h1.elim
  | some st=>
   rw[hv,hg]at h1
   exact ig.kept h1 (fun i a=>d i (h.sz i (h.rw _ (gC hv) i a).1) (h.rw _ (gC hv) i a).1) k.size fun i a l=>⟨fun q=>by
    rcases f i q with q | q
    ·exact a q
    ·omega,k.block i l fun q=>a (e i q).1⟩
theorem j8.ext (h:j8 N Q w b m sb mp s) (a:az w w'):j8 N Q w' b m sb mp s:=h.kept (Q2:=fun _=>False) (Kq.AI a) (fun _ q=>q.elim) fun _ q=>.inl q
theorem j8.ids (h:j8 N Q w b m sb mp s) (f:∀i,Q i->N i) (k:Kq (fun i=>i=sb) w w') {any:Bool} {g:Int} {c:Nat} {ids:List Int} (e:av w' sb [.bool any,.int .i64 g,.int .u64 (c:Nat)]) (o:cC any g c ids):j8 N Q w' b m sb mp ⟨s.BY,ids⟩:=by
 have d:∀i,i < w.heap.size->i≠sb->w'.heap[i]? =w.heap[i]? :=fun i a j=>k.block i a j
 have p:sb≠b:=fun q=>h.qb (q▸h.qs)
 refine⟨k.box (fun q=>p q.symm) h.bx,h.mt.same (d m h.mt.lt h.ms),⟨any,g,c,e,o⟩,h.ln,fun n=> ?_,h.qb,h.qm,h.qs,h.ms,h.rw,fun i a=>D9 (h.sz i a) k.size⟩;have h1:=h.ob n;show pR N w' (eZ mp n) (dv s n);cases hv:eZ mp n with
 | none=>rw[hv]at h1;exact pR.Dj h1
 | some v=>
  cases hg:dv s n with
  | none=>rw[hv,hg]at h1;exact h1.elim
  | some st=>rw[hv,hg]at h1;exact ig.kept h1 (fun i a=>d i (h.sz i (h.rw _ (gC hv) i a).1) (h.rw _ (gC hv) i a).2.2) k.size fun i a l=>⟨a,d i l fun q=>a (f i (q▸h.qs))⟩
theorem j8.put (h:j8 N Q w b m sb mp s) (r:∀i,Q i->N i) {n:Int} {v:DG} {st:List (List Int)} (l:dv s n=Gx) (o:dG w' m (mp++[(n,v)])) (k:Kq (fun i=>i=m) w w') (A:ig N w v st) (d:∀i,v.ownBlock=Ex i->i < w.heap.size/\i≠m/\i≠sb/\i≠b):
  j8 N (fun i=>Q i\/v.ownBlock=Ex i) w' b m sb (mp++[(n,v)]) ⟨s.BY++[(n,st)],s.ids⟩:=by
 have f:∀i,i < w.heap.size->i≠m->w'.heap[i]? =w.heap[i]? :=fun i a t=>k.block i a t
 have z:m≠b:=fun q=>h.qb (q▸h.qm)
 obtain⟨any,g,c,s1,s2⟩:=h.sn;have j:∀x e,ig N w x e->(∀i,x.ownBlock=Ex i->i < w.heap.size/\i≠m)->ig N w' x e:=fun x e hx a=>hx.kept (fun i q=>f i (a i q).1 (a i q).2) k.size fun i a u=>⟨a,f i u fun q=>a (r i (q▸h.qm))⟩
 refine⟨k.box (fun q=>z q.symm) h.bx,o,⟨any,g,c,k.box (fun q=>h.ms q.symm) s1,s2⟩,by simp[h.ln],fun x=> ?_,fun q=> ?_,.inl h.qm,.inl h.qs,h.ms,fun p hp i a=> ?_,fun i a=> ?_⟩
 ·rw[wJ (h.none l),wB l];by_cases hx:x=n
  ·rw[if_pos hx,if_pos hx];exact j v st A fun i a=>⟨(d i a).1,(d i a).2.1⟩
  ·rw[if_neg hx,if_neg hx];have h1:=h.ob x;cases hgv:eZ mp x with
   | none=>rw[hgv]at h1;exact pR.Dj h1
   | some y=>
    cases hg:dv s x with
    | none=>rw[hgv,hg]at h1;exact h1.elim
    | some e=>rw[hgv,hg]at h1;exact j y e h1 fun i a=>⟨h.sz i (h.rw _ (gC hgv) i a).1,(h.rw _ (gC hgv) i a).2.1⟩
 ·rcases q with q | q
  ·exact h.qb q
  ·exact(d b q).2.2.2 rfl
 ·rcases EL.1 hp with hp | hp
  ·exact⟨.inl (h.rw p hp i a).1,(h.rw p hp i a).2⟩
  ·obtain rfl:p=(n,v):=by simpa using hp
   exact⟨.inr a,(d i a).2.1,(d i a).2.2.1⟩
 ·rcases a with a | a
  ·exact D9 (h.sz i a) k.size
  ·exact D9 (d i a).1 k.size
def lq (N Q:Nat->Prop) (w w':DF) (b:Nat) (s':eb):Prop:=Kq Q w w'/\∃N' Q':Nat->Prop,lE N' Q' w' b s'/\(∀i,N' i->N i\/w.heap.size<=i)/\(∀i,N i->N' i)/\(∀i,Q i->Q' i)/\(∀i,Q' i->N' i)/\(∀i,Q' i->Q i\/w.heap.size<=i)/\∀i,N' i->i < w'.heap.size
theorem lE.ext (h:lE N Q w b s) (a:az w w'):lE N Q w' b s:=by
 obtain⟨m,c,mp,h⟩:=h;exact⟨m,c,mp,h.ext a⟩
theorem lE.go (h:lE N Q w b s) (c:∀i,Q i->N i) (d:∀i,N i->i < w.heap.size) (a:az w w'):lq N Q w w' b s:=
 ⟨Kq.AI a,N,Q,h.ext a,fun _ q=>.inl q,fun _ q=>q,fun _ q=>q,c,fun _ q=>.inl q,fun i q=>D9 (d i q) a.size⟩
end
abbrev kJ:Bv:=(.slice none 0 0,[])
theorem mP (n:Nat):(madeCells (FE none 0 0).cells (n*1)).toList=aw cB (D7 n kJ):=by
 rw[kE];apply List.ext_getElem
 ·simp[madeCells]
 ·intro i h1 h2;simp[madeCells,Value.cells,show i % 1=0 from Nat.mod_one i]
theorem wK {t e:Ec} {bytes:Nat} (a:jE P t e (.slice none 0 0) 1 bytes) (n:Nat) (l:bytes*n<=281474976710656) (hm:n<=DV) (w:DF):
  ∃w',(Instr.makeSlice t (.int .i64 (n:Int)) (.int .i64 (n:Int))).run P w=.ok (.slice (some ⟨w.heap.size,0,none⟩) n n) w'/\
   w'.ownsRow w.heap.size e 1 (.slice (some ⟨w.heap.size,0,none⟩) n n) n (aw cB (D7 n kJ))/\az w w'/\w.heap.size < w'.heap.size:=by
 obtain⟨i,g,k,j,f⟩:=info_parts a.info;have c:(n:Int)<=9223372036854775807:=by unfold DV at hm;omega
 have d:(i.bytes:Int)*(n:Int)<=281474976710656:=by
  rw[f];have h:((bytes*n:Nat):Int)<=281474976710656:=by omega
  rwa[Int.natCast_mul]at h
 have b:=run_make (P:=P) w t e i (.slice none 0 0) a.ht g k .i64 .i64 n n (by omega) (Int.le_refl _) d c;simp only[Int.toNat_natCast,j]at b;refine⟨_,b,?_,ae _ _,by simp⟩;have:=bW w e (madeCells (FE none 0 0).cells (n*1)) w.heap.size n 1 (DH _) hm (size_madeCells _ _);rwa[mP]at this
theorem j9 (M:List Bv) (i:Nat) (a:i < M.length):(aw cB M)[i]? =some (M.getD i kJ).1:=by
 have h:=dk (f:=cB) (s:=1) (fun _=>rfl) kJ 0 (by decide) M i a;rw[Fi,Gh]at h;exact h
theorem um (M:List Bv) (i:Nat) (b:i < M.length) (a:DG) (st:List Int):(aw cB M).set i a=aw cB (M.set i (a,st)):=by
 have h:=cQ (f:=cB) (s:=1) (fun _=>rfl) kJ (a,st) a 0 (by decide) M i b rfl;rw[Fi,Gh]at h;exact h
theorem mg (M:List Bv):(aw cB M).length=M.length:=by rw[bG (s:=1) (fun _ _=>rfl),Fi]
theorem mQ (ps:List (List Int)) (M:List Bv) (i:Nat) (y:Bv) (a:i < M.length) (b:i < ps.length) (h:(M.take i).map (·.2)=ps.take i) (hy:y.2=ps.getD i []):((M.set i y).take (i+1)).map (·.2)=ps.take (i+1):=by
 rw[j7 M i y a,EF,h,aP [] ps i b,<-hy];rfl
def Ax (ps:List (List Int)) (w:DF) (e:Ending) (w':DF):Prop:=∃M:List Bv,e=.returned (.slice (some ⟨w.heap.size,0,none⟩) ps.length ps.length)/\Pk w' w.heap.size 1 (.slice (some ⟨w.heap.size,0,none⟩) ps.length ps.length) M.length (aw cB M)/\(∀y∈M,iI (fun k=>w.heap.size < k) w' y)/\M.map (·.2)=ps/\az w w'
theorem mh (v:DG) (ps:List (List Int)) (w:DF) (h:bf w v ps) (ak:∀b∈ps,bA b) (hn:ps.length<=1048576) (am:∀b∈ps,b.length<=140737488355328):
  DN DE 48 #[v] w fun e w'=>Ax ps w e w':=by
 obtain⟨m,C,T,ai⟩:=oG h;obtain⟨n,G⟩:=exq ps.length;have Y:m.length=n:=by have:=congrArg EW T;rw[G];simpa using this
 rw[Y]at C;obtain⟨p,c,hf,a0,aV⟩:=C.form;subst hf;obtain⟨g,D⟩:=exq w.heap.size;obtain⟨w1,ap,Z,ah,ab⟩:=wK (P:=DE) xU n (by omega) (by unfold DV;omega) w;rw[<-D]at ap Z ab;have aj:∀i,i < n->(ps.getD i [])∈ps:=fun i hi=>aH [] (by omega)
 have an:∀i,i < n->(m.getD i kJ).2=ps.getD i []:=fun i hi=>by rw[<-T,DJ,DJ,Ev,DL (by omega)];rfl
 have HM:=aa (DT C ai);have O:=aa (DT Y G);have B:=aa (DT aj (DT an (DT ak am)));have ar:=aa ah;have Hg:Hid (g=w.heap.size/\g < w1.heap.size):=aa ⟨D,ab⟩;have au:Hid (Pk w1 g 1 (.slice (some ⟨g,0,none⟩) n n) n (aw cB (D7 n kJ))):=aa (Pk.AS Z);have ax:Hid (∀M w',M.length=n->Pk w' g 1 (.slice (some ⟨g,0,none⟩) n n) n (aw cB M)->(∀y∈M,iI (fun k=>g < k) w' y)->M.map (·.2)=ps->az w w'->Ax ps w (.returned (.slice (some ⟨g,0,none⟩) n n)) w'):=aa fun M w' h1 h2 h3 h4 h5=>by unfold Ax;rw[<-G,<-D];exact⟨M,rfl,by rw[h1];exact h2,h3,h4,h5⟩
 have aZ:n<=1048576:=by omega
 clear h C T ai Y Z ah ab aj an ak am D G hn;go_enter Tryz.func48,Tryz.ntmps48
 go_wp2_with fail
 clear ap;go_loopw [11] (fun x wr=>∃(i:Nat) (M:List Bv),i<=n/\x=.int .i64 i/\Hid (Pk wr g 1 (.slice (some ⟨g,0,none⟩) n n) n (aw cB M)/\M.length=n/\(∀y∈M.take i,iI (fun k=>g < k) wr y)/\(M.take i).map (·.2)=ps.take i)/\Hid (Kq (fun k=>g<=k) w1 wr)) (fun x _=>n - (Ef x).toNat);case atStart=>exact⟨0,_,DZ _,rfl,aa ⟨au,by simp,fun y hy=>(by simp at hy),by simp⟩,aa (Kq.refl _)⟩
 case round=>
  obtain⟨i,M,hi,rfl,d,K⟩:=hrel;have I:Hid (az w wr):=aa (ar.trans' K (by have:=Hg.out;omega));have ay:Hid (g < wr.heap.size):=aa (by have:=K.size;have:=Hg.out;omega);by_cases u:i < n
  ·have t:i < M.length:=by rw[d.out.2.1];exact u
   have V:i < m.length:=by rw[O.out.1];exact u
   obtain⟨b,o,c2,hq,_,_,aG,ao⟩:=bh.pos HM.1 (by omega) (by intro q;have:=mg m;rw[q]at this;simp at this;omega);injection hq with aM aN aO;subst aM aO;have z:=(HM.2 _ (aH kJ V)).ext I;have U:=(aJ ao I) i _ (j9 m i V);have E:=B.1 i u;have A:=B.2.1 i u;obtain⟨x0,hx⟩:=exq (m.getD i kJ);rw[<-hx]at z U A;obtain⟨u1,st⟩:=x0;simp only at z U A;obtain⟨p1,c1,aP,_,_⟩:=z.form;subst aP;rw[<-A]at E;have R:Hid (bA st/\st.length<=140737488355328/\st=ps.getD i []):=aa ⟨B.2.2.1 _ E,B.2.2.2 _ E,A⟩;have aA:=aa z;have av:=aa (j9 M i t);have aB:=aa (fun a=>um M i t a st);have r:Hid (i < (aw cB M).length/\i < M.length/\i < ps.length):=aa ⟨by rw[mg];exact t,t,by rw[<-O.out.2];exact u⟩;have aW:(0:Int)<=(i:Int):=by omega
   have aX:(i:Int) < (n:Int):=by omega
   have aY:(i:Int)<=1048576:=by omega
   clear z A E hx t V ao aG aN
   go_wp2_with fail
   refine(dZ (.slice p1 st.length c1) st wr aA R.2.1).mono ?_;rintro e l ⟨v9,rfl,H,S⟩;obtain⟨j,f,aQ,_,_⟩:=(bh.AS H).form;subst aQ;have N:=aa (d.1.ext S);have q9:=N.cell av;have f9:=N.fz r.1
   have af:Hid (Pk (l.setCell ⟨g,i,none⟩ (.slice j st.length f)) g 1 (.slice (some ⟨g,0,none⟩) n n) n (aw cB (M.set i (.slice j st.length f,st)))):=aa (by
    rw[<-aB.out]
    exact N.put r.1 _)
   have W:Kq (fun k=>k=g) l (l.setCell ⟨g,i,none⟩ (.slice j st.length f)):=(Kq.refl l).setCell (Q:=fun k=>k=g) ⟨g,i,none⟩ rfl _;have J:Hid (Kq (fun k=>k=g) wr (l.setCell ⟨g,i,none⟩ (.slice j st.length f))):=aa ((Kq.AI S).trans W);have ae:Hid (iI (fun k=>g < k) (l.setCell ⟨g,i,none⟩ (.slice j st.length f)) (.slice j st.length f,st)):=aa ⟨(aS.By (F:=fun k=>g < k) (bh.AS H) (fun b s _=>by have:=(H.lt b s).1;have:=ay.out;omega)).kept (fun b s X=>⟨s,W.block b X (fun q=>by omega)⟩),R.1⟩;clear H S W U
   go_wp2_with fail
   obtain⟨w9,aq⟩:=exq (l.setCell ⟨g,i,none⟩ (.slice j st.length f));rw[<-aq]at af J ae⊢;clear aq q9 f9;go_roundw
   case rel=>exact⟨i+1,M.set i (.slice j st.length f,st),by omega,by go_num,aa ⟨af,by rw[Ea];exact d.2.1,fun y hy=>by
     rw[j7 M i _ r.out.2.1]at hy;rcases EL.1 hy with hy | hy
     ·exact br _ _ _ _ _ (d.2.2.1 y hy) fun b s X=>⟨s,J.block b X (fun q=>by omega)⟩
     ·obtain rfl:y=(.slice j st.length f,st):=by simpa using hy
      exact ae,mQ ps M i _ r.2.1 r.2.2 d.2.2.2 R.2.2⟩,aa (K.trans (J.mono fun k _ q=>by omega))⟩
   case measure=>simp[Ef];omega
  ·obtain rfl:i=n:=by omega
   have L:Hid (M.take i=M/\ps.take i=ps):=aa ⟨DW (by rw[d.out.2.1];exact DH _),DW (by rw[<-O.out.2];exact DH _)⟩
   go_wp2_with fail
   go_ret;refine ax M _ d.2.1 d.1 ?_ ?_ I
   ·have h:=d.2.2.1;rw[L.out.1]at h;exact h
   ·have h:=d.2.2.2;rw[L.out.1,L.out.2]at h;exact h
abbrev Ob:=Int × DG × List (List Int)
abbrev o0:Ob:=(0,.slice none 0 0,[])
def cO (x:Ob):List DG:=[.int .i64 x.1,x.2.1]
theorem rG (x:Ob):(cO x).length=2:=rfl
def ep (F:Nat->Prop) (w:DF) (v:DG) (st:List (List Int)):Prop:=∃M:List Bv,aS F w v M.length (aw cB M)/\(∀y∈M,iI F w y)/\M.map (·.2)=st
theorem ep.kept {F F':Nat->Prop} {w w':DF} {v:DG} {st:List (List Int)} (h:ep F w v st) (a:∀k,F k->k < w.heap.size->F' k/\w'.heap[k]? =w.heap[k]?):ep F' w' v st:=by
 obtain⟨M,h1,h2,b⟩:=h;exact⟨M,h1.kept a,fun y hy=>br _ _ _ _ _ (h2 y hy) a,b⟩
theorem ep.CB {F:Nat->Prop} {w:DF} {v:DG} {st:List (List Int)} (h:ep F w v st):bf w v st:=by
 obtain⟨M,h1,h2,a⟩:=h;refine⟨M.map (·.1),?_,by rw[<-a,D2,D2],fun i b=> ?_⟩
 ·have c:=h1.AT;rw[kE]at c;rw[<-a,D2];exact c
 ·rw[<-a,D2]at b;have d:=(h2 _ (Fc b)).1.AT;rw[<-a,DJ,DJ,Ev,Ev,DL b];exact d
theorem ep.C9 {F:Nat->Prop} {w:DF} {v:DG} {st:List (List Int)} (h:ep F w v st):∀b∈st,bA b:=by
 obtain⟨M,h1,h2,c⟩:=h;intro b a;rw[<-c]at a;obtain⟨y,hy,rfl⟩:=F6.1 a;exact(h2 y hy).2
def Bx (F:Nat->Prop) (w:DF) (x:Ob):Prop:=ep F w x.2.1 x.2.2
structure iQ (F:Nat->Prop) (w:DF) (b:Nat) (vo va:DG) (D:List Ob) (s:eb):Prop where
 bx:av w b [vo,va]
 ro:aS F w vo D.length (aw cO D)
 ok:∀x∈D,Bx F w x
 eq:D.map (fun x=>(x.1,x.2.2))=s.BY
 ra:aS F w va s.ids.length (ao .i64 s.ids)
 rn:∀x∈s.ids,0<=x/\x<=1099511627776
 nb:¬F b
def fb (F:Nat->Prop) (w:DF) (b:Nat) (s:eb):Prop:=∃vo va D,iQ F w b vo va D s
section
variable {F F' Q:Nat->Prop} {w w':DF} {b:Nat} {vo va:DG} {D:List Ob} {s:eb}
theorem iQ.kept (h:iQ F w b vo va D s) (k:Kq Q w w') (e:∀i,Q i->¬F i/\i≠b) (f:∀i,F i->i < w.heap.size->F' i) (g:¬F' b):iQ F' w' b vo va D s:=by
 have a:∀i,F i->i < w.heap.size->F' i/\w'.heap[i]? =w.heap[i]? :=fun i c d=>⟨f i c d,k.block i d fun q=>(e i q).1 c⟩
 exact⟨k.box (fun q=>(e b q).2 rfl) h.bx,h.ro.kept a,fun x hx=>(h.ok x hx).kept a,h.eq,h.ra.kept a,h.rn,g⟩
theorem iQ.ext (h:iQ F w b vo va D s) (a:az w w'):iQ F w' b vo va D s:=h.kept (Q:=fun _=>False) (Kq.AI a) (fun _ q=>q.elim) (fun _ q _=>q) h.nb
theorem iQ.len (h:iQ F w b vo va D s):D.length=s.BY.length:=by rw[<-h.eq,D2]
theorem iQ.at' (h:iQ F w b vo va D s) {i:Nat} (a:i < D.length):s.BY[i]? =some ((D.getD i o0).1,(D.getD i o0).2.2):=by
 rw[<-h.eq,Ev,DJ,DL a];rfl
theorem iQ.pos (h:iQ F w b vo va D s) (k:0 < D.length):∃g o c,vo=.slice (some ⟨g,o,none⟩) D.length c/\D.length<=c/\c<=DV/\g < w.heap.size/\∀i,i < D.length->w.rangeAt g (o+i*2) (cO (D.getD i o0)):=by
 obtain⟨g,o,c,h1,h2,a,d,e⟩:=bh.pos h.ro.AT k (fun q=>by have:=bG (f:=cO) (s:=2) (L:=D) (fun x _=>rG x);rw[q]at this;simp at this;omega);exact⟨g,o,c,h1,h2,a,d,fun i j=>oc o0 e (fun x _=>rG x) j⟩
end
def ka (b:Nat) (w w':DF):Prop:=∀k o v,¬(k=b/\o < 2)->w.cell? ⟨k,o,Gx⟩=some v->w'.cell? ⟨k,o,Gx⟩=some v
theorem ka.AI {b:Nat} {w w':DF} (h:az w w'):ka b w w':=fun k o v _ a=>by
 rw[EH (w:=w) (h.block k (DM _ _ a))];exact a
theorem ka.trans {b:Nat} {w c d:DF} (h:ka b w c) (h2:ka b c d):ka b w d:=fun k o v a e=>h2 k o v a (h k o v a e)
theorem ka.kq {b:Nat} {Q:Nat->Prop} {w a d:DF} (h:ka b w a) (k:Kq Q a d) (f:∀i,Q i->w.heap.size<=i):ka b w d:=fun i o v e c=>by
 have h1:=h i o v e c;rw[EH (w:=a) (k.block i (DM _ _ h1) fun q=>by have:=f i q;have h2:i < w.heap.size:=DM _ _ c;omega)];exact h1
theorem ka.set {b:Nat} {w c:DF} (h:ka b w c) (f:i < 2) (u:DG):ka b w (c.setCell ⟨b,i,Gx⟩ u):=fun k o v a d=>by
 rw[World.cell?_setCell_other _ _ _ _ (by
  intro q;injection q with e g _
  exact a ⟨e.symm,by omega⟩)]
 exact h k o v a d
theorem Rd.Dy {b:Nat} {w w':DF} {k:IntKind} {v:DG} {l:List Int} (h:Rd w k v l) (c:ka b w w') (h0:∀x,w.cell? ⟨b,0,Gx⟩≠some (.int k x)) (h1:∀x,w.cell? ⟨b,1,Gx⟩≠some (.int k x)):Rd w' k v l:=by
 rcases h with h | ⟨f,o,n,g,i,m,d⟩
 ·exact .inl h
 ·refine .inr ⟨f,o,n,g,i,m,fun j x hx=>c _ _ _ (fun q=> ?_) (d j x hx)⟩;have a:=d j x hx;unfold ao at hx;rw[Ev]at hx;cases hg:l[j]? with
  | none=>rw[hg]at hx;cases hx
  | some y=>
   rw[hg]at hx;obtain rfl:Value.int k y=x:=by simpa using hx
   obtain⟨p,r⟩:=q;rw[p]at a;have:o+j=0\/o+j=1:=by omega
   rcases this with e | e
   ·rw[e]at a;exact h0 _ a
   ·rw[e]at a;exact h1 _ a
def Bb (D:List Ob) (n r:Int):Prop:=(∃i:Nat,i < D.length/\r=(i:Int)/\(D.getD i o0).1=n/\∀j,j < i->(D.getD j o0).1≠n)\/(r= -1/\∀j,j < D.length->(D.getD j o0).1≠n)
theorem mi {α :Type} (f: α ->Bool):∀(l:List α) (i:Nat) (x: α),l[i]? =some x->f x=true->(∀j y,j < i->l[j]? =some y->f y=false)->l.find? f=some x
 | [],i,x,h,_,_=>by simp at h
 | y :: r,0,x,h,hx,_=>by
  obtain rfl:y=x:=by simpa using h
  simp[hx]
 | y :: r,i+1,x,h,hx,hj=>by rw[List.find?_cons,hj 0 y (Nat.zero_lt_succ _) rfl];exact mi f r i x (by simpa using h) hx fun j z b a=>hj (j+1) z (by omega) (by simpa using a)
theorem iQ.some {F:Nat->Prop} {w:DF} {b:Nat} {e d:DG} {D:List Ob} {s:eb} (h:iQ F w b e d D s) {n:Int} (a:i < D.length) (h1:(D.getD i o0).1=n) (h2:∀j,j < i->(D.getD j o0).1≠n):dv s n=Ex (D.getD i o0).2.2:=by
 unfold dv
 rw[mi (fun p=>decide (p.1=n)) s.BY i _ (h.at' a) (by simpa using h1) (fun j y c hy=>by
  rw[h.at' (by omega)]at hy;obtain rfl:=Fk hy
  simpa using h2 j c)]
 rfl
theorem iQ.none {F:Nat->Prop} {w:DF} {b:Nat} {g f:DG} {D:List Ob} {s:eb} (h:iQ F w b g f D s) {n:Int} (h2:∀j,j < D.length->(D.getD j o0).1≠n):dv s n=Gx:=by
 unfold dv;have:s.BY.find? (fun p=>decide (p.1=n))=Gx:=List.find?_eq_none.2 fun p hp=>by obtain⟨j,a,rfl⟩:=Io hp;have c:=h.at' (i:=j) (by rw[h.len];exact a);rw[DL a]at c;have d:=congrArg Prod.fst (Fk c);have e:=h2 j (by rw[h.len];exact a);simp only[decide_eq_true_eq];rw[d];exact e
 rw[this];rfl
theorem wL (l:List Int) (i:Nat) (h:i < l.length):ke 0 (l.take (i+1))=if ke 0 (l.take i) < l.getD i 0 then l.getD i 0 else ke 0 (l.take i):=by
 rw[aP 0 l i h,lB]
theorem uo (b:Nat) (v:DG) (ids:List Int) (w:DF) (k:w.cell? ⟨b,1,none⟩=some v) (h:Rd w .i64 v ids):
  DN DE 128 #[.pointer (some ⟨b,1,none⟩)] w fun e w'=>e=.returned (.tuple #[.int .i64 (ke 0 ids),.bool (!ids.isEmpty)])/\az w w':=by
 obtain⟨p,c,rfl,J,hm⟩:=h.form;have H:=aa h;obtain⟨n,m⟩:=exq ids.length;have d:=aa m;rw[<-m]at k H J;unfold DV at hm;have F:=DM _ _ k;have t:Hid (b < w.heap.size):=aa F;have C:=aa k;clear h m;go_enter Tryz.func128,Tryz.ntmps128
 go_wp2_with fail
 go_loopw [4,12] (fun g x wr=>∃i:Nat,i<=n/\x=.int .i64 i/\g=.int .i64 (ke 0 (ids.take i))/\az w wr) (fun _ x _=>n - (Ef x).toNat);case atStart=>exact⟨0,DZ _,rfl,rfl,DI _ _⟩
 case round=>
  obtain⟨i,S,rfl,rfl,z⟩:=hrel;have a:=aa z;clear z;obtain⟨g,l⟩:=exq (ke 0 (ids.take i));rw[<-l];have u:=aa l;clear l;by_cases I:i < n
  ·have j:i < ids.length:=by rw[<-d.out];exact I
   have s:=H.ext a;rw[d.out]at s;obtain⟨O,o,N,M,_,_,P,B⟩:=bh.pos s (Gf (DZ _) j) (fun q=>by have:=congrArg EW q;rw[ints_length]at this;have h0:ids.length=0:=this;omega);injection M with K _ L;subst K L;have G:=B i _ (cX .i64 ids i j);obtain⟨x,hx⟩:=exq (ids.getD i 0);rw[<-hx]at G;have f:Hid (ke 0 (ids.take (i+1))=if g < x then x else g):=aa (by rw[wL ids i j,u.out,hx]);have T:(0:Int)<=(i:Int):=by omega
   have U:(i:Int) < (n:Int):=by omega
   clear B s hx j;by_cases A:g < x
   ·rw[if_pos A]at f
    go_wp2_with fail
    go_roundw;case rel=>exact⟨i+1,by omega,by go_num,by rw[f.out],a⟩
    case measure=>simp[Ef];omega
   ·rw[if_neg A]at f
    go_wp2_with fail
    go_roundw;case rel=>exact⟨i+1,by omega,by go_num,by rw[f.out],a⟩
    case measure=>simp[Ef];omega
  ·obtain rfl:i=n:=by omega
   have E:Hid (g=ke 0 ids):=aa (by rw[u.out,d.out,Ge]);have R:=((aD a).1 _ 1 t).trans C;have Q:b < wr.heap.size:=D9 t a.size
   have D:Hid ((!ids.isEmpty)=decide (0 < i)):=aa (by
    rw[d.out];cases ids with
    | nil=>simp
    | cons y r=>simp)
   go_wp2_with fail
   go_quiet (fail)
   go_wp2_with fail
   go_ret2;rw[<-E.out,D.out];exact⟨rfl,a.drewN _⟩
theorem pS (b:Nat) (v:DG) (ids:List Int) (x:Int) (w:DF) (j:w.cell? ⟨b,1,none⟩=some v) (h:Rd w .i64 v ids) (m:∀y∈ids,0<=y/\y<=1099511627776):
  DN DE 76 #[.pointer (some ⟨b,1,none⟩),.int .i64 x] w fun e w'=>e=.returned (.bool (gU ids x))/\az w w':=by
 have a:=aa (uo b v ids w j h);have n:=(oz ids 0).1;have o:ke 0 ids<=1099511627776:=by
  rcases oA ids 0 with q | q
  ·omega
  ·exact(m _ q).2
 have c:Hid (gU ids x=((!ids.isEmpty)&&decide (x<=ke 0 ids - 64))):=aa rfl;obtain⟨g,d⟩:=exq (ke 0 ids);obtain⟨k,l⟩:=exq (!ids.isEmpty);rw[<-d,<-l]at c a;rw[<-d]at n o;rw[c.out];clear d l j h m c;have hw:IntKind.i64.wrap (g - 64)=g - 64:=by simp only[IntKind.wrap,IntKind.bits,IntKind.signed];simp;omega
 go_enter Tryz.func76,Tryz.ntmps76
 go_wp2_with fail
 refine a.mono ?_;rintro e p ⟨rfl,i⟩;have f:=aa i;clear i a;cases k
 ·go_wp2_with fail
  go_ret;exact⟨rfl,f⟩
 ·go_wp2_with fail
  go_ret;exact⟨rfl,f⟩
theorem wM (b:Nat) (v:DG) (ids:List Int) (x:Int) (w:DF) (j:w.cell? ⟨b,1,none⟩=some v) (h:Rd w .i64 v ids) (a:∀y∈ids,0<=y/\y<=1099511627776):
  DN DE 77 #[.pointer (some ⟨b,1,none⟩),.int .i64 x] w fun e w'=>e=.returned (.bool (jB ids x))/\az w w':=by
 obtain⟨p,c,rfl,L,hm⟩:=h.form;have u:Hid (∀d,az w d->DN DE 76 #[.pointer (some ⟨b,1,none⟩),.int .i64 x] d fun e w'=>e=.returned (.bool (gU ids x))/\az d w'):=aa fun d h2=>pS b _ ids x d (((aD h2).1 _ 1 (DM _ _ j)).trans j) (h.ext h2) a
 have H:=aa h;obtain⟨n,m⟩:=exq ids.length;have l:=aa m;rw[<-m]at j H L;unfold DV at hm;clear h m a;obtain⟨F,r⟩:=exq (gU ids x);rw[<-r]at u;have A:=aa r;clear r;go_enter Tryz.func77,Tryz.ntmps77
 go_wp2_with fail
 clear j;go_loopw [12] (fun y wr=>∃i:Nat,i<=n/\y=.int .i64 i/\Hid (x∈ids.take i->F=true)/\az w wr) (fun y _=>n - (Ef y).toNat);case atStart=>exact⟨0,DZ _,rfl,aa (fun q=>by simp at q),DI _ _⟩
 case round=>
  obtain⟨i,S,rfl,t,B⟩:=hrel;have f:=aa B;clear B;by_cases K:i < n
  ·have g:i < ids.length:=by rw[<-l.out];exact K
   have a:=H.ext f;rw[l.out]at a;obtain⟨Q,o,P,O,_,_,R,D⟩:=bh.pos a (Gf (DZ _) g) (fun q=>by have:=congrArg EW q;rw[ints_length]at this;have h0:ids.length=0:=this;omega);injection O with M _ N;subst M N;have J:=D i _ (cX .i64 ids i g);obtain⟨z,k⟩:=exq (ids.getD i 0);rw[<-k]at J;have G:Hid (z∈ids):=aa (by rw[k];exact aH 0 g);have I:Hid (ids.take (i+1)=ids.take i++[z]):=aa (by rw[aP 0 ids i g,k]);have T:(0:Int)<=(i:Int):=by omega
   have U:(i:Int) < (n:Int):=by omega
   clear D a k g;by_cases E:z=x
   ·subst E
    go_wp2_with fail
    refine(u _ f).mono ?_;rintro e d ⟨rfl,C⟩;have s:=aa (f.trans C);clear C;cases F
    ·go_wp2_with fail
     go_ret;refine⟨?_,s⟩;unfold jB;rw[<-A.out];simp[G.out]
    ·go_wp2_with fail
     go_roundw;case rel=>exact⟨i+1,by omega,by go_num,aa (by simp),s⟩
     case measure=>simp[Ef];omega
   ·go_wp2_with fail
    go_roundw
    case rel=>exact⟨i+1,by omega,by go_num,aa (fun hm=>by
     rw[I.out]at hm;rcases EL.1 hm with hm | hm
     ·exact t hm
     ·exact absurd (F4.1 hm).symm E),f⟩
    case measure=>simp[Ef];omega
  ·obtain rfl:i=n:=by omega
   go_wp2_with fail
   go_ret;refine⟨?_,f⟩;unfold jB;rw[<-A.out];have q:=t.out;rw[l.out,Ge]at q;by_cases hm:x∈ids
   ·rw[q hm];simp
   ·simp[hm]
theorem kK (F:Nat->Prop) (b:Nat) (vo va:DG) (D:List Ob) (s:eb) (x:Int) (w:DF) (h:iQ F w b vo va D s):
  DN DE 41 #[.pointer (some ⟨b,0,none⟩),.int .i64 x] w fun e w'=>(∃r,e=.returned (.int .i64 r)/\Bb D x r)/\az w w':=by
 obtain⟨p,c,ah,hn,hm⟩:=h.ro.AT.form;subst ah;have T:=h.bx.cell (i:=0) (v:=.slice p D.length c) rfl;have H:=aa h;obtain⟨n,u⟩:=exq D.length;have f:=aa u;rw[<-u]at T H hn;unfold DV at hm;clear h u;go_enter Tryz.func41,Tryz.ntmps41
 go_wp2_with fail
 clear T;go_loopw [12] (fun y wr=>∃i:Nat,i<=n/\y=.int .i64 i/\Hid (∀j,j < i->(D.getD j o0).1≠x)/\az w wr) (fun y _=>n - (Ef y).toNat);case atStart=>exact⟨0,DZ _,rfl,aa (fun j d=>absurd d (Nat.not_lt_zero j)),DI _ _⟩
 case round=>
  obtain⟨i,hi,rfl,m,N⟩:=hrel;have k:=aa N;clear N;by_cases V:i < n
  ·have g:i < D.length:=by rw[<-f.out];exact V
   have A:=H.ext k;rw[f.out]at A;obtain⟨L,o,c',af,_,_,ap,U⟩:=A.pos (Gf (DZ _) g);injection af with ad _ ae;subst ad ae;have B:=U i g;obtain⟨Z,K,t,_,_⟩:=((H.ok _ (aH o0 g)).CB).form;obtain⟨⟨z,vz,Y⟩,C⟩:=exq (D.getD i o0);rw[<-C]at B t;have J:Hid ((D.getD i o0).1=z):=aa (by rw[<-C]);have ab:vz=.slice Z Y.length K:=t;subst ab;obtain⟨co,a⟩:∃co:List DG,co=[.int .i64 z,.slice Z Y.length K]:=⟨_,rfl⟩;have W:wr.rangeAt L (o+i*2) co:=by rw[a];exact B
   have G:=aa (run_loadAt_mid (P:=DE) wr L (o+i*2) 95 _ _ W Tryz.underlying95 rfl (by rw[a];kernel_rfl));obtain⟨M,O⟩:=av.fresh (cs:=co) wr 95 #[.int .i64 0,.slice none 0 0] (by rw[a];rfl) (by rw[a];exact List.cons_ne_nil _ _);have I:=aa (aI (P:=DE) (cs:=co) wr 95 #[.int .i64 0,.slice none 0 0] (by rw[a];rfl) (by rw[a];intro c S;simp only[Es,List.not_mem_nil,or_false]at S;rcases S with rfl | rfl<;>rfl) (ty:=95) (by rw[a];kernel_rfl));have l:=aa (k.trans O);have E:=M.cell (i:=0) (v:=.int .i64 z) (by rw[a];rfl);have ar:(0:Int)<=(i:Int):=by omega
   have aw:(i:Int) < (n:Int):=by omega
   clear U A C g B W t M O a
   go_wp2_with first | refine ak rfl G ?_ | (with_reducible refine aC (ty:=95) ?_)
   refine au ?_;refine ag rfl rfl I ?_;obtain⟨W1,Q⟩:=exq ((wr.alloc (.cells #[.int .i64 0,.slice none 0 0] 95)).setCells wr.heap.size 0 co);obtain⟨X1,R⟩:=exq wr.heap.size;rw[<-Q]at l E⊢;rw[<-R]at E⊢;clear Q R I G;by_cases X:z=x
   ·subst X
    go_wp2_with fail
    go_ret;exact⟨⟨_,rfl,.inl ⟨i,by rw[<-f.out];exact V,rfl,J,m⟩⟩,l⟩
   ·go_wp2_with fail
    clear E;go_roundw
    case rel=>exact⟨i+1,by omega,by go_num,aa (fun j d=>by
     rcases Nat.lt_succ_iff_lt_or_eq.1 d with q | q
     ·exact m j q
     ·rw[q,J.out];exact X),l⟩
    case measure=>simp[Ef];omega
  ·obtain rfl:i=n:=by omega
   go_wp2_with fail
   go_ret;exact⟨⟨_,rfl,.inr ⟨rfl,fun j d=>m j (by rw[f.out];exact d)⟩⟩,k⟩
end Go.Proofs.Bl
