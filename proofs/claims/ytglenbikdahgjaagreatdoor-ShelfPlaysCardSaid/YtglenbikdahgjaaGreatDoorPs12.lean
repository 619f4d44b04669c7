/- Texts that stood apart, in one: ChN, Gap. -/
import Derived.Maps.AppendAt
import Derived.Test.YtglenbikdahgjaaGreatDoorPs11
set_option maxRecDepth 100000
set_option maxHeartbeats 16000000
open Bool renaming and_eq_true->Du
open Go renaming Calls->CZ,Operand->EJ,Program->Ds,TypeId->Dn,Value->CQ,World->CP,execOp->EF,maxLen->Dc
open Go.Builtin renaming append_->FD
open Go.Instr renaming build->FL
open Go.Region renaming wanted->C8
open Go.Result renaming andThen_ok->DR
open Go.RowKit.Below renaming heap_setCell->EC,refl->CT,trans->DC
open Go.Sem renaming run_bind->Ey,run_pure->EI
open Go.World renaming cell?_alloc_new->Df,cell?_of_block->Dp,cell?_setCell_other->Dv
open List renaming getD_eq_getElem?_getD->CR,getElem?_eq_getElem->CV,getElem?_eq_some_iff->Dt,getElem?_map->DE,getElem?_set_ne->Ge,getElem?_set_self->Eb,length_append->C7,length_cons->DB,length_drop->C6,length_map->CY,length_set->Ea,length_singleton->D6,length_take->Da,map_cons->Eu,map_map->FM,map_nil->Fb,map_toArray->E7,mem_append->Dz,mem_cons->DA,mem_map->DM,mem_map_of_mem->DX,mem_of_mem_drop->Fq,mem_of_mem_take->En,mem_or_eq_of_mem_set->Fh,not_mem_nil->Eg
open Nat renaming le_refl->CU,le_trans->Dk,lt_of_lt_of_le->Dd,mul_one->EZ,pow_lt_pow_iff_right->Gx,zero_add->Dq,zero_le->C9
open Option renaming none->DG,some->DJ
open Option.some renaming inj->Ei
namespace Go.Proofs.Bl
open Go Go.RowKit Go.Proofs
open Go.Proofs.Tryz renaming prog->CO
variable {i n R0 BB t o j g:Nat} {x:List Int}
abbrev wU:=Nat × Nat × (CQ->CP->Prop)
def ew:(CP->Prop)->List wU->(Nat->Bool)->(Nat->CQ)->CP->Prop
 | S,[],_,_,w=>S w
 | S,x :: r,d,u,w=>(d x.1=false->S w)/\(d x.1=true->ew (x.2.2 (u x.2.1)) r d u w)
def Ad (d:Nat->Bool):List wU->Prop
 | []=>True
 | x :: r=>d x.1=true/\Ad d r
def yA (d:Nat->Bool):List wU->Prop
 | []=>True
 | x :: _=>d x.1=false
theorem ew.start:∀ {S:CP->Prop} {l:List wU} {u:Nat->CQ} {w:CP},S w->ew S l (fun _=>false) u w
 | _,[],_,_,h=>h
 | _,_ :: _,_,_,h=>⟨fun _=>h,fun q=>(by cases q)⟩
theorem ew.same {v:CQ}:∀ {S:CP->Prop} {l:List wU} {d:Nat->Bool} {u:Nat->CQ} {w:CP},ew S l d u w->(l.all fun x=>decide (x.1≠i)&&decide (x.2.1≠t))=true->ew S l (bW d i) (bH (some t) u v) w
 | _,[],_,_,_,h,_=>h
 | S,x :: r,d,u,w,h,hi=>by
  simp only[List.all_cons,Du,decide_eq_true_eq]at hi;obtain⟨⟨h1,h2⟩,c⟩:=hi;have a:bW d i x.1=d x.1:=if_neg h1;have b:bH (some t) u v x.2.1=u x.2.1:=if_neg h2;show(bW d i x.1=false->S w)/\(bW d i x.1=true->ew (x.2.2 (bH (some t) u v x.2.1)) r (bW d i) (bH (some t) u v) w);rw[a,b];exact⟨h.1,fun q=>ew.same (h.2 q) c⟩
theorem ew.set {P:CQ->CP->Prop} {b:List wU} {v:CQ} {d:Nat->Bool} {u:Nat->CQ} {w:CP} (e:yA d b) (c:(b.all fun x=>decide (x.1≠i))=true) (g:P v w):∀ {S:CP->Prop} {a:List wU},Ad d a->(a.all fun x=>decide (x.1≠i)&&decide (x.2.1≠t))=true->ew S (a++(i,t,P) :: b) (bW d i) (bH (some t) u v) w
 | S,[],_,_=>by
  have f:bW d i i=true:=if_pos rfl;have h:bH (some t) u v t=v:=if_pos rfl;show(bW d i i=false->S w)/\(bW d i i=true->ew (P (bH (some t) u v t)) b (bW d i) (bH (some t) u v) w);rw[f,h];refine⟨fun q=>(by cases q),fun _=> ?_⟩
  match b,e,c with
  | [],_,_=>exact g
  | x :: r,e,c=>simp only[List.all_cons,Du,decide_eq_true_eq]at c;have a2:bW d i x.1=d x.1:=if_neg c.1;show(bW d i x.1=false->P v w)/\(bW d i x.1=true->_);rw[a2,show d x.1=false from e];exact⟨fun _=>g,fun q=>(by cases q)⟩
 | S,x :: r,ha,hi=>by simp only[List.all_cons,Du,decide_eq_true_eq]at hi;obtain⟨⟨h1,h2⟩,j⟩:=hi;have f:bW d i x.1=d x.1:=if_neg h1;show(bW d i x.1=false->S w)/\(bW d i x.1=true->ew (x.2.2 (bH (some t) u v x.2.1)) (r++(i,t,P) :: b) (bW d i) (bH (some t) u v) w);rw[f,ha.1];exact⟨fun q=>(by cases q),fun _=>ew.set e c g ha.2 j⟩
section
variable {S:CP->Prop} {i t:Nat} {P:CQ->CP->Prop} {x1 x2 x3 x4:wU} {r:List wU} {d:Nat->Bool} {u:Nat->CQ} {v:CQ} {w:CP}
theorem ew.s1 (b:P v w) (c:yA d r) (e:(r.all fun x=>decide (x.1≠i))=true):ew S ((i,t,P) :: r) (bW d i) (bH (some t) u v) w:=ew.set (a:=[]) c e b trivial rfl
theorem ew.s2 (b:P v w) (h1:d x1.1=true) (c:yA d r) (e:(r.all fun x=>decide (x.1≠i))=true) (f:([x1].all fun x=>decide (x.1≠i)&&decide (x.2.1≠t))=true):ew S (x1 :: (i,t,P) :: r) (bW d i) (bH (some t) u v) w:=ew.set (a:=[x1]) c e b ⟨h1,trivial⟩ f
theorem ew.s3 (b:P v w) (h1:d x1.1=true) (h2:d x2.1=true) (c:yA d r) (e:(r.all fun x=>decide (x.1≠i))=true) (f:([x1,x2].all fun x=>decide (x.1≠i)&&decide (x.2.1≠t))=true):ew S (x1 :: x2 :: (i,t,P) :: r) (bW d i) (bH (some t) u v) w:=ew.set (a:=[x1,x2]) c e b ⟨h1,h2,trivial⟩ f
theorem ew.s4 (c:P v w) (h1:d x1.1=true) (h2:d x2.1=true) (b:d x3.1=true) (e:yA d r) (f:(r.all fun x=>decide (x.1≠i))=true) (g:([x1,x2,x3].all fun x=>decide (x.1≠i)&&decide (x.2.1≠t))=true):ew S (x1 :: x2 :: x3 :: (i,t,P) :: r) (bW d i) (bH (some t) u v) w:=ew.set (a:=[x1,x2,x3]) e f c ⟨h1,h2,b,trivial⟩ g
theorem ew.s5 (e:P v w) (h1:d x1.1=true) (h2:d x2.1=true) (b:d x3.1=true) (c:d x4.1=true) (f:yA d r) (g:(r.all fun x=>decide (x.1≠i))=true) (h:([x1,x2,x3,x4].all fun x=>decide (x.1≠i)&&decide (x.2.1≠t))=true):ew S (x1 :: x2 :: x3 :: x4 :: (i,t,P) :: r) (bW d i) (bH (some t) u v) w:=ew.set (a:=[x1,x2,x3,x4]) f g e ⟨h1,h2,b,c,trivial⟩ h
end
structure GQ {α :Type} (f: α ->List CQ) (s:Nat) (Ok:(Nat->Prop)->CP-> α ->Prop) (A:Nat->Prop) (B:Nat) (w:CP) (X fi:Nat) (cs:List CQ) (v:CQ) (M:List α):Prop where
 box:aw w X cs
 BQ:cs[fi]? =some v
 own:Pk w B s v M.length (aD f M)
 ok:∀x∈M,Ok (fun b=>b≠X/\v.ownBlock≠some b/\A b) w x
 ne:v.ownBlock≠some X
section
variable {α :Type} {f: α ->List CQ} {s:Nat} {Ok:(Nat->Prop)->CP-> α ->Prop} {A:Nat->Prop} {B:Nat} {w w1 w2:CP} {X fi:Nat} {cs:List CQ} {v v':CQ} {M:List α} {y: α}
theorem GQ.ext (c:gN Ok) (h:GQ f s Ok A B w X fi cs v M) (a:au w w1):GQ f s Ok A B w1 X fi cs v M:=
 ⟨h.box.ext a,h.BQ,h.own.ext a,fun x hx=>c _ _ _ _ _ (h.ok x hx) fun b d e=>⟨d,a.block b e⟩,h.ne⟩
theorem GQ.start (a:aw w X cs) (b:cs[fi]? =some (.slice none 0 0)):GQ f s Ok A B w X fi cs (.slice none 0 0) []:=
 ⟨a,b,Pk.nil _ _ _,fun x hx=>(by cases hx),fun q=>(by cases q)⟩
theorem GQ.lt (h:GQ f s Ok A B w X fi cs v M):fi < cs.length:=(Dt.1 h.BQ).1
theorem GQ.cell (h:GQ f s Ok A B w X fi cs v M):w.cell? ⟨X,fi,none⟩=some v:=h.box.cell h.BQ
theorem GQ.BP (h:GQ f s Ok A B w1 X fi cs v M) (a:w1.grownBy w2 v.ownBlock):aw w2 X cs:=h.box.grown a (fun q=>h.ne q)
theorem GQ.form (h:GQ f s Ok A B w X fi cs v M):∃p c,v=.slice p M.length c:=by
 obtain⟨p,c,h1,_⟩:=h.own.BD.form;exact⟨p,c,h1⟩
theorem GQ.push (d:gN Ok) (h:GQ f s Ok A B w1 X fi cs v M) (n:Pk w2 B s v' (M.length+1) (aD f M++f y)) (e:w1.grownBy w2 v.ownBlock) (i:∀k,v'.ownBlock=some k->v.ownBlock=some k\/w1.heap.size<=k) (hy:Ok (fun b=>b≠X/\v.ownBlock≠some b/\A b) w1 y):
  GQ f s Ok A B (w2.setCell ⟨X,fi,none⟩ v') X fi (cs.set fi v') v' (M++[y]):=by
 have l:v'.ownBlock≠some X:=fun q=>by
  rcases i X q with z | z
  ·exact h.ne z
  ·have:=h.box.lt;omega
 have g:∀j,j≠X->(w2.setCell ⟨X,fi,none⟩ v').heap[j]? =w2.heap[j]? :=fun j c=>EC w2 ⟨X,fi,none⟩ _ j c
 have o:w2.heap.size<=(w2.setCell ⟨X,fi,none⟩ v').heap.size:=((CT 0 w2).setCell (C9 _) _).size;refine⟨(h.BP e).put h.lt v',by rw[Eb h.lt],?_,fun x hx=> ?_,l⟩
 ·rw[C7,D6,dB,gL];exact n.kept (fun j c=>g j (fun q=>l (by rw[c,q]))) o
 ·have key:∀b,(b≠X/\v.ownBlock≠some b/\A b)->b < w1.heap.size->(b≠X/\v'.ownBlock≠some b/\A b)/\(w2.setCell ⟨X,fi,none⟩ v').heap[b]? =w1.heap[b]? :=fun b a m=>by
   refine⟨⟨a.1,fun q=> ?_,a.2.2⟩,?_⟩
   ·rcases i b q with z | z
    ·exact a.2.1 z
    ·omega
   ·rw[g b a.1];exact e.block b m (fun q=>a.2.1 q.symm)
  rcases Dz.1 hx with hx | hx
  ·exact d _ _ _ _ _ (h.ok x hx) key
  ·obtain rfl:x=y:=by simpa using hx
   exact d _ _ _ _ _ hy key
end
section
variable {α :Type} (f: α ->List CQ) (s:Nat) (Ok:(Nat->Prop)->CP-> α ->Prop) (A:Nat->Prop) (B Y fi:Nat) (cs:List CQ) (vr:CQ) (M:List α) (Pr: α ->Prop)
def A0 (w:CP):Prop:=GQ f s Ok A B w Y fi cs vr M/\B<=w.heap.size
def A1 (v:CQ) (w:CP):Prop:=∃y,Pr y/\v.cells=(f y).toArray/\(f y).length=s/\(∀c∈f y,c.oneCell'=true)/\Ok (fun b=>b≠Y/\vr.ownBlock≠some b/\A b) w y/\A0 f s Ok A B Y fi cs vr M w
def A2 (v:CQ) (w:CP):Prop:=∃y g,v=.slice (some ⟨g,0,none⟩) 1 1/\w.rangeAt g 0 (f y)/\Pr y/\(f y).length=s/\(∀c∈f y,c.oneCell'=true)/\Ok (fun b=>b≠Y/\vr.ownBlock≠some b/\A b) w y/\A0 f s Ok A B Y fi cs vr M w
def A3 (v:CQ) (w:CP):Prop:=∃y p c,v=.slice p (M.length+1) c/\Pr y/\w.cell? ⟨Y,fi,none⟩=some vr/\w.frozen? ⟨Y,fi,none⟩=false/\GQ f s Ok A B (w.setCell ⟨Y,fi,none⟩ v) Y fi (cs.set fi v) v (M++[y])
end
section
variable {α :Type} {f: α ->List CQ} {s:Nat} {Ok:(Nat->Prop)->CP-> α ->Prop} {A:Nat->Prop} {B Y fi:Nat} {cs:List CQ} {vr:CQ} {M:List α} {Pr: α ->Prop} {w w':CP}
theorem A0.ext (b:gN Ok) (h:A0 f s Ok A B Y fi cs vr M w) (a:au w w'):A0 f s Ok A B Y fi cs vr M w':=⟨h.1.ext b a,Dk h.2 a.size⟩
theorem A1.size {v:CQ} (h:A1 f s Ok A B Y fi cs vr M Pr v w):v.cells.size=s:=by
 obtain⟨y,_,h2,a,_⟩:=h;rw[h2];simpa using a
theorem A1.a2 (c:gN Ok) {v:CQ} (h:A1 f s Ok A B Y fi cs vr M Pr v w) (e:Dn):A2 f s Ok A B Y fi cs vr M Pr (.slice (some ⟨w.heap.size,0,none⟩) 1 1) (w.alloc (.cells v.cells e)):=by
 obtain⟨y,h1,h2,d,g,i,k⟩:=h;have a:=ae w (.cells v.cells e);refine⟨y,w.heap.size,rfl,fun j u hu=> ?_,h1,d,g,c _ _ _ _ _ i fun b l m=>⟨l,a.block b m⟩,k.ext c a⟩;rw[Dq,Df,h2];simpa using hu
end
section
variable {P:Ds} {R:CP->CP->Prop} {α :Type} {f: α ->List CQ} {s:Nat} {Ok:(Nat->Prop)->CP-> α ->Prop} {A:Nat->Prop} {B Y fi:Nat} {cs:List CQ} {vr:CQ} {M:List α} {Pr: α ->Prop} {w:CP} {ev:Nat->CQ} {φ :CQ->CP->Prop} {d:Option Tmp} {tt t e:Dn} {z:CQ} {bytes n:Nat} {pp:String} {af:Array Edge} {g:Option (Nat × Bool)} {x y:EJ}
theorem oJ (D:kv P t e z s bytes) (C:gN Ok) {v2:CQ} (F:A2 f s Ok A B Y fi cs vr M Pr v2 w) (hy:bh ev y=v2) (hx:bh ev x=vr) (hlen:M.length+1<=Dc) (E:(M.length+1)*bytes<=140737488355328)
  (I:∀i w',Kq (fun k=>B<=k) w w'->A3 f s Ok A B Y fi cs vr M Pr i w'->R w w'/\ φ i w'):
  eo R P w φ ((EF (bh ev) ⟨d,.call {callee:=.builtin .append,args:=#[x,y],argTypes:=#[t,t]},tt,pp,af,g⟩).run P w):=by
 obtain⟨a,b,h1,h2,n,o,q,r,h,u⟩:=F;refine eY D h.own h2 (by rw[o,Nat.one_mul]) q (by decide) hlen E u hx (hy.trans h1) fun i w' m j J=> ?_
 have v:Kq (fun k=>B<=k) w w':=Kq.grown j fun k H=>(h.own.block k H).1
 obtain⟨p,c,G,_⟩:=m.BD.form;have l:=h.BP j;exact I i w' v ⟨a,p,c,G,n,l.cell h.BQ,l.fz h.lt,h.push C m j J r⟩
theorem lQ {i j k:Nat} {u:EJ} {b c a v:CQ} {ty:Dn} (f:∀w,R w w) (hx:bh ev x=b) (hy:bh ev y=c) (hu:bh ev u=a) (e:(FL ty #[(i,b),(j,c),(k,a)]).run P w=.ok v w) (h: φ v w):
  eo R P w φ ((EF (bh ev) ⟨d,.build ty #[(i,x),(j,y),(k,u)],tt,pp,af,g⟩).run P w):=by
 unfold EF;simp only[hx,hy,hu,E7,Eu,Fb,Ey,EI,e,DR];exact⟨f _,h⟩
theorem jo {i0 i1 i2 i3 i4:Nat} {c:CQ} {u o:EJ} {e f b a v:CQ} {ty:Dn} (k:∀w,R w w) (hx:bh ev x=e) (hy:bh ev y=f) (hu:bh ev u=b) (j:bh ev o=a) (h:(FL ty #[(i0,c),(i1,e),(i2,f),(i3,b),(i4,a)]).run P w=.ok v w) (l: φ v w):
  eo R P w φ ((EF (bh ev) ⟨d,.build ty #[(i0,.const c),(i1,x),(i2,y),(i3,u),(i4,o)],tt,pp,af,g⟩).run P w):=by
 unfold EF;have i:bh ev (.const c)=c:=rfl;simp only[i,hx,hy,hu,j,E7,Eu,Fb,Ey,EI,h,DR];exact⟨k _,l⟩
def wV {α :Type} (f: α ->List CQ) (s:Nat) (Ok:(Nat->Prop)->CP-> α ->Prop) (A:Nat->Prop) (B Y fi:Nat) (cs:List CQ) (vr:CQ) (M:List α) (vw:CQ) (pth:List (List Int)) (w:CP):Prop:=A0 f s Ok A B Y fi cs vr M w/\aY (fun b=>b≠Y/\vr.ownBlock≠some b/\A b) w vw pth.length (aO pth)
def xE {α :Type} (f: α ->List CQ) (s:Nat) (Ok:(Nat->Prop)->CP-> α ->Prop) (A:Nat->Prop) (B Y fi:Nat) (cs:List CQ) (vr:CQ) (M:List α) (vw:CQ) (pth:List (List Int)) (st:List Int) (v:CQ) (w:CP):Prop:=aY (fun b=>b≠Y/\vr.ownBlock≠some b/\A b) w v st.length (aj .u8 st)/\wV f s Ok A B Y fi cs vr M vw pth w
theorem wV.ext {α :Type} {f: α ->List CQ} {s:Nat} {Ok:(Nat->Prop)->CP-> α ->Prop} {A:Nat->Prop} {B Y a:Nat} {cs:List CQ} {e:CQ} {M:List α} {g:CQ} {d:List (List Int)} {w w':CP} (i:gN Ok) (h:wV f s Ok A B Y a cs e M g d w) (c:au w w'):wV f s Ok A B Y a cs e M g d w':=⟨h.1.ext i c,h.2.kept fun b j k=>⟨j,c.block b k⟩⟩
theorem xE.a1 {A:Nat->Prop} {B Y i:Nat} {cs:List CQ} {j:CQ} {M:List Sv} {p:Int} {g f:Option Addr} {d b:Nat} {a:List (List Int)} {st:List Int} {w:CP} (h:xE cS 3 fD A B Y i cs j M (.slice g a.length d) a st (.slice f st.length b) w) (k:bI st) (l:dd a):A1 cS 3 fD A B Y i cs j M (fun y=>cC y=(p,st,a)) (.agg #[.int .i64 p,.slice f st.length b,.slice g a.length d]) w:=
 ⟨(p,(.slice f st.length b,st),.slice g a.length d,a),rfl,rfl,rfl,fun c e=>by
  unfold cS at e;simp only[DA,Eg,or_false]at e
  rcases e with rfl | rfl | rfl<;>rfl,⟨h.1,k,h.2.2,l⟩,h.2.1⟩
theorem xE.CG {A:Nat->Prop} {B Y d:Nat} {cs:List CQ} {g:CQ} {M:List Sv} {p:Int} {f e:Option Addr} {c b:Nat} {a:List (List Int)} {st:List Int} {v:CQ} {w:CP} (h:xE cS 3 fD A B Y d cs g M (.slice f a.length c) a st v w) (k:v=.slice e st.length b) (i:bI st) (j:dd a):A1 cS 3 fD A B Y d cs g M (fun y=>cC y=(p,st,a)) (.agg #[.int .i64 p,.slice e st.length b,.slice f a.length c]) w:=by
 subst k;exact h.a1 i j
end
section
variable {P:Ds} {ops:Array Oper} {rest:List Oper} {a:Act} {w w':CP} {Q:Exit->Act->CP->Prop} {d:Option Tmp} {tt t t2:Dn} {pp:String} {af:Array Edge} {s x:EJ} {v u r:CQ}
end
def Bh (k at' y:Int) (l:BC) (vp vb:CQ) (P B:Nat) (w:CP) (e:Ending) (w':CP):Prop:=e=.returned (.tuple #[])/\∃vs2 L2,aw w' P (cL (uZ k at' y l) vp vs2 vb)/\cn (fun b=>B<=b) w' (uZ k at' y l) vp vs2 vb L2/\Kq (fun k=>k=P\/B<=k) w w'
def Bi (L:List Sv) (i:Nat):List Sv:=(L.set i ((L.getD i s0).1,(L.getD 0 s0).2)).set 0 (((L.set i ((L.getD i s0).1,(L.getD 0 s0).2)).getD 0 s0).1,(L.getD i s0).2)
theorem cn.Ca {w:CP} {cs:List CQ} {l:BC} {vp vs vb:CQ} {L:List Sv} (h:iE w cs l vp vs vb L):cn (fun b=>b < w.heap.size) w l vp vs vb L:=by
 obtain⟨M,h1,h2,a⟩:=rz h.bl;refine⟨aY.By h.pl fun b _ q=>q,aY.By h.sh.rd fun b _ q=>q,fun x hx=>⟨aY.By (h.sh.ok x hx).st fun b _ q=>q,(h.sh.ok x hx).bs,aY.By (h.sh.ok x hx).pa fun b _ q=>q,(h.sh.ok x hx).dg⟩,h.sl,M,aY.By h1 fun b _ q=>q,fun y hy=>⟨aY.By (a y hy) fun b _ q=>q,h.BJ _ (by rw[<-h2];exact DX hy)⟩,h2⟩
def AN (D:Nat) (w:CP) (v:CQ) (l:BC):Prop:=∃vp vs vb L,v=.agg (cL l vp vs vb).toArray/\cn (fun b=>b < w.heap.size/\b≠D) w l vp vs vb L
def Bj (D:Nat) (k at' y:Int) (l:BC) (w:CP) (e:Ending) (w':CP):Prop:=∃v',e=.returned (.tuple #[v',.bool (kK k at' y l).2])/\(∃vp vs vb L,v'=.agg (cL (kK k at' y l).1 vp vs vb).toArray/\cn (fun b=>b≠D\/w.heap.size<=b) w' (kK k at' y l).1 vp vs vb L)/\au w w'
def Bk (L:List Sv) (i:Nat):List Sv:=(L.set 0 ((L.getD 0 s0).1,(L.getD i s0).2)).set i (((L.set 0 ((L.getD 0 s0).1,(L.getD i s0).2)).getD i s0).1,(L.getD 0 s0).2)
section
variable {P:Ds}
end
structure JC (B i m:Nat) (A C:List CQ) (d:Nat->Bool) (u:Nat->CQ) (w:CP):Prop where
 le:B<=w.heap.size
 a:d 0=true->d 4=false->Pk w B 3 (u 186) 0 []
 b:d 4=true->d 9=false->Pk w B 3 (u 190) i A
 c:d 9=true->Pk w B 3 (u 195) (i+m) (A++C)
section
variable {B i m:Nat} {A C:List CQ} {d:Nat->Bool} {u:Nat->CQ} {w w':CP}
end
def b0:Bv:=(.slice none 0 0,[])
theorem u7 (x:Bv):(cB x).length=1:=rfl
section
variable {P:Ds}
theorem lR {w:CP} {t ty e:Dn} {v u z:CQ} {base size bytes n m:Nat} {xs news:List CQ}
  (g:kv P t e z size bytes) (l:w.ownsRow base e size v n xs) (D:aX w u m news) (B:news.length=m*size) (h1:∀c∈news,c.oneCell'=true)
  (hlen:n+m<=Dc) (A:(n+m)*bytes<=140737488355328) (y:base<=w.heap.size):
  ∃a w',(FD #[t,t] ty #[v,u]).run P w=.ok a w'/\w'.ownsRow base e size a (n+m) (xs++news)/\w.grownBy w' v.ownBlock/\(∀k,a.ownBlock=some k->v.ownBlock=some k\/w.heap.size<=k):=by
 obtain⟨i,r,F,E,x⟩:=info_parts g.info;have key:∀(ad:Addr) (c:Nat),(∀j u,news[j]? =some u->w.cell? (ad.add j)=some u)->∃a w',(FD #[t,t] ty #[v,.slice (some ad) m c]).run P w=.ok a w'/\w'.ownsRow base e size a (n+m) (xs++news)/\w.grownBy w' v.ownBlock/\(∀k,a.ownBlock=some k->v.ownBlock=some k\/w.heap.size<=k):=fun ad c C=>by
  obtain⟨a,w',q,h2,s,_,f⟩:=run_append_own_at (P:=P) w base t ty e i z size bytes g.ht r F E x g.hz g.pos v n xs l ad m c news B C h1 hlen A y;refine⟨a,w',q,h2,s,fun k d=> ?_⟩;rcases f with f | f
  ·rw[f]at d;exact .inl d
  ·rw[f]at d;exact .inr (by have:=Ei d;omega)
 rcases D with ⟨⟨p,rfl⟩,rfl,rfl⟩ | ⟨b,o,c,rfl,H,G,q⟩
 ·cases p with
  | none=>exact⟨v,w,run_append_owned_none w base t ty e i size g.ht r v n xs l,by simpa using l,World.grownBy.refl w _,fun k d=>.inl d⟩
  | some ad=>exact key ad 0 fun j u h=>by simp at h
 ·exact key ⟨b,o,none⟩ c fun j u h=>by rw[Addr.add_mid];exact q j u h
theorem gy {R:CP->CP->Prop} {b:Nat->CQ} {w:CP} {φ :CQ->CP->Prop} {d:Option Tmp} {f t e:Dn} {pp:String} {h:Array Edge} {g:Option (Nat × Bool)} {s x:EJ} {v u z:CQ} {base size bytes n m:Nat} {xs news:List CQ}
  (l:kv P t e z size bytes) (r:w.ownsRow base e size v n xs) (y:aX w u m news) (q:news.length=m*size) (h1:∀c∈news,c.oneCell'=true)
  (hlen:n+m<=Dc) (p:(n+m)*bytes<=140737488355328) (o:base<=w.heap.size)
  (B:bh b s=v) (hx:bh b x=u)
  (C:∀a w',w'.ownsRow base e size a (n+m) (xs++news)->w.grownBy w' v.ownBlock->(∀k,a.ownBlock=some k->v.ownBlock=some k\/w.heap.size<=k)->R w w'/\ φ a w'):
  eo R P w φ ((EF (bh b) ⟨d,.call {callee:=.builtin .append,args:=#[s,x],argTypes:=#[t,t]},f,pp,h,g⟩).run P w):=by
 obtain⟨a,w',A,h2,i,j⟩:=lR (P:=P) (ty:=f) (t:=t) l r y q h1 hlen p o;simp[EF,resolve,invoke,builtin,B,hx,A,Result.andThen];exact C a w' h2 i j
theorem qD {R:CP->CP->Prop} {a:Nat->CQ} {w:CP} {φ :CQ->CP->Prop} {d:Option Tmp} {l:Dn} {pp:String} {e:Array Edge} {g:Option (Nat × Bool)} {x y:EJ} {i j:Nat} {b c v:CQ} {ty:Dn} (h:∀w,R w w) (hx:bh a x=b) (hy:bh a y=c) (f:(FL ty #[(i,b),(j,c)]).run P w=.ok v w) (k: φ v w):
  eo R P w φ ((EF (bh a) ⟨d,.build ty #[(i,x),(j,y)],l,pp,e,g⟩).run P w):=by
 unfold EF;simp only[hx,hy,E7,Eu,Fb,Ey,EI,f,DR];exact⟨h _,k⟩
end
theorem cn.B4 {F:Nat->Prop} {w:CP} {l:BC} {vp vs vb:CQ} {L:List Sv} (h:cn F w l vp vs vb L):di F w vb l.blocks:=h.bl
theorem di.slice {F:Nat->Prop} {w:CP} {b c:Nat} {st:List (List Int)} (h:di F w (.slice (some ⟨b,o,none⟩) n c) st) (C:i < n) (D:i<=j) (E:j<=n):di F w (.slice (some ⟨b,o+i,none⟩) (j - i) (c - i)) ((st.drop i).take (j - i)):=by
 obtain⟨M,h1,h2,r⟩:=h;have e:∀x∈M,(cB x).length=1:=fun _ _=>rfl
 have B:M.length=n:=by obtain⟨p,k,d,_,_⟩:=h1.BD.form;injection d with _ d _;exact d.symm
 have hlen:((M.drop i).take (j - i)).length=j - i:=by rw[Da,C6];omega
 refine⟨(M.drop i).take (j - i),?_,fun y hy=>h2 y (Fq (En hy)),by rw[<-r,List.map_take,List.map_drop]⟩;rw[hlen];rcases h1 with ⟨_,q,_⟩ | ⟨A,K,k,a,I,J,v,z⟩
 ·omega
 injection a with a G t;injection a with a;injection a with a u H;subst a t u;refine .inr ⟨b,o+i,c - i,rfl,by omega,by omega,?_,fun _=>z fun q=> ?_⟩
 ·have g:=dM (cU v i) (j - i);have l:(aD cB M).drop i=aD cB (M.drop i):=by have:=iD e i;rwa[EZ]at this
  have m:(aD cB (M.drop i)).take (j - i)=aD cB ((M.drop i).take (j - i)):=by have:=oa (f:=cB) (s:=1) (L:=M.drop i) (fun _ _=>rfl) (j - i);rwa[EZ]at this
  rw[l,m]at g;exact g
 ·have:=bu e;rw[q]at this;simp at this;omega
theorem di.el {F:Nat->Prop} {w:CP} {v:CQ} {st:List (List Int)} (h:di F w v st) (t:i < st.length):∃(b o c:Nat) (p1:Option Addr) (a:Nat),v=.slice (some ⟨b,o,none⟩) st.length c/\st.length<=c/\c<=Dc/\b < w.heap.size/\w.cell? ⟨b,o+i,none⟩=some (.slice p1 (st.getD i []).length a)/\aY F w (.slice p1 (st.getD i []).length a) (st.getD i []).length (aj .u8 (st.getD i []))/\bI (st.getD i []):=by
 obtain⟨M,h1,h2,g⟩:=h;have k:M.length=st.length:=by rw[<-g,CY]
 have d:i < M.length:=by omega
 obtain⟨b,o,c,r,m,hm,l,p⟩:=aX.pos h1.BD (by omega) (fun q=>by have:=bu (f:=cB) (s:=1) (L:=M) (fun _ _=>rfl);rw[q]at this;simp at this;omega);have hx:=h2 _ (aJ kl d);have j:=p i _ (jW M i d);have e:(M.getD i kl).2=st.getD i []:=by rw[<-g,CR,CR,DE,CV d];rfl
 unfold ju at hx;rw[e]at hx;obtain⟨p1,a,n,_,_⟩:=hx.1.BD.form;rw[n]at j hx;exact⟨b,o,c,p1,a,by rw[<-k];exact r,by rw[<-k];exact m,hm,l,j,hx.1,hx.2⟩
theorem di.form {F:Nat->Prop} {w:CP} {v:CQ} {st:List (List Int)} (h:di F w v st):∃p c,v=.slice p st.length c/\st.length<=c/\c<=Dc:=h.BF.form
section
variable {F F' G Q:Nat->Prop} {w w':CP} {b:Nat} {vo va:CQ} {D:List Ob} {s:bL}
theorem gV.mono (h:gV F w b vo va D s) (a:∀i,F i->i < w.heap.size->F' i) (c:¬F' b):gV F' w b vo va D s:=h.kept (Q:=fun _=>False) (Kq.refl w) (fun _ q=>q.elim) a c
theorem gV.bound (h:gV F w b vo va D s):gV (fun i=>F i/\i < w.heap.size) w b vo va D s:=h.mono (fun _ q l=>⟨q,l⟩) fun q=>h.nb q.1
theorem ek.mono (h:ek F w b s) (a:∀i,F i->i < w.heap.size->F' i) (c:¬F' b):ek F' w b s:=by
 obtain⟨e,d,D,h⟩:=h;exact⟨e,d,D,h.mono a c⟩
theorem ek.kept (h:ek F w b s) (k:Kq Q w w') (d:∀i,Q i->¬F i/\i≠b) (a:∀i,F i->i < w.heap.size->F' i) (c:¬F' b):ek F' w' b s:=by
 obtain⟨f,e,D,h⟩:=h;exact⟨f,e,D,h.kept k d a c⟩
theorem ek.lt (h:ek F w b s):b < w.heap.size:=by
 obtain⟨c,a,D,h⟩:=h;exact h.bx.lt
theorem ek.nb (h:ek F w b s):¬F b:=by
 obtain⟨c,a,D,h⟩:=h;exact h.nb
theorem xZ {D:List Ob} (h:∀x∈D,Aa F w x):∀c∈aD cO D,c.oneCell'=true:=kD fun x hx c a=>by
 obtain⟨p,n,b,_⟩:=(h x hx).form;unfold cO at a;rw[b]at a;simp only[DA,Eg,or_false]at a;rcases a with rfl | rfl<;>rfl
theorem gV.push (h:gV G w b vo va D s) {BB:Nat} (g:∀i,BB<=i->G i) {e:Dn} {c:CQ} {n:Int} {vb:CQ} {st:List (List Int)} (f:w.ownsRow BB e 2 c (D.length+1) (aD cO D++cO (n,vb,st))) (j:di G w vb st):
  gV G (w.setCell ⟨b,0,DG⟩ c) b c va (D++[(n,vb,st)]) ⟨s.AT++[(n,st)],s.ids⟩:=by
 have a:∀i,G i->i < w.heap.size->G i/\(w.setCell ⟨b,0,DG⟩ c).heap[i]? =w.heap[i]? :=fun i d _=>⟨d,EC w ⟨b,0,DG⟩ c i fun q=>h.nb (by rw[show i=b from q]at d;exact d)⟩
 refine⟨h.bx.put (i:=0) (show 0 < 2 by decide) c,?_,fun x hx=> ?_,?_,h.ra.kept a,h.rn,h.nb⟩
 ·rw[C7,D6,dB,gL];exact(aY.By (F:=G) (aX.AS f) fun k a _=>g k (f.lt k a).1).kept a
 ·rcases Dz.1 hx with hx | hx
  ·exact(h.ok x hx).kept a
  ·obtain rfl:x=(n,vb,st):=by simpa using hx
   exact di.kept j a
 ·rw[List.map_append,h.eq];rfl
end
def Bm (F:Nat->Prop) (b:Nat) (s:bL) (l:BC) (w:CP) (e:Ending) (w':CP):Prop:=∃vp vs vb L,e=.returned (.tuple #[.agg (cL (bC s l).1 vp vs vb).toArray,.bool (bC s l).2])/\cn (fun k=>F k\/w.heap.size<=k) w' (bC s l).1 vp vs vb L/\ek (fun k=>F k\/w.heap.size<=k) w' b (cm s l)/\Kq (fun i=>i=b) w w'/\jn b w w'
def zz (b:Nat) (w w':CP):Prop:=∀v,b < w.heap.size->w'.cell? ⟨b,0,DG⟩=DJ v->w.cell? ⟨b,0,DG⟩=DJ v\/∃k xs,Pk w' w.heap.size 2 v k xs/\xs.length=k*2
def Sm (b:Nat) (w w':CP):Prop:=b < w.heap.size->w'.cell? ⟨b,0,DG⟩=w.cell? ⟨b,0,DG⟩
theorem Sm.kq {b:Nat} {Q:Nat->Prop} {w a c:CP} (h:Sm b w a) (k:Kq Q a c) (f:w.heap.size<=a.heap.size) (e:Q b->w.heap.size<=b):Sm b w c:=fun d=>by
 rw[<-h d];exact Dp (k.block b (by omega) fun q=>by have:=e q;omega)
def la (F:Nat->Prop) (b:Nat) (s:bL) (l:BC) (w:CP) (e:Ending) (w':CP):Prop:=∃vp vs vb L,e=.returned (.tuple #[.agg (cL (bC s l).1 vp vs vb).toArray,.bool (bC s l).2])/\cn (fun k=>F k\/w.heap.size<=k) w' (bC s l).1 vp vs vb L/\ek (fun k=>F k\/w.heap.size<=k) w' b (cm s l)/\Kq (fun i=>i=b) w w'/\jn b w w'/\zz b w w'
def Kb (b:Nat) (w w':CP):Prop:=Kq (fun i=>i=b\/w.heap.size<=i) w w'/\jn b w w'/\Sm b w w'
theorem Kb.AI {b:Nat} {w w':CP} (h:au w w'):Kb b w w':=⟨Kq.AI h,jn.AI h,Sm.kq (Q:=fun _=>False) (fun _=>rfl) (Kq.AI h) (CU _) fun q=>q.elim⟩
theorem Kb.ext {b:Nat} {w a c:CP} (h:Kb b w a) (h2:au a c):Kb b w c:=⟨h.1.trans (Kq.AI h2),h.2.1.trans (jn.AI h2),h.2.2.kq (Q:=fun _=>False) (Kq.AI h2) h.1.size fun q=>q.elim⟩
theorem Kb.kq {b:Nat} {Q:Nat->Prop} {w c d:CP} (h:Kb b w c) (k:Kq Q c d) (a:∀i,Q i->w.heap.size<=i):Kb b w d:=⟨h.1.trans (k.mono fun i _ q=>.inr (a i q)),h.2.1.kq k a,h.2.2.kq k h.1.size (a b)⟩
theorem Kb.own {b:Nat} {w a d:CP} (h:Kb b w a) (k:Kq (fun i=>i=b) a d) (c:jn b a d) (f:Sm b a d):Kb b w d:=⟨h.1.trans (k.mono fun _ _ q=>.inl q),h.2.1.trans c,fun e=>(f (Dd e h.1.size)).trans (h.2.2 e)⟩
def Ae (BB b:Nat) (w w':CP):Prop:=Kq (fun i=>i=b\/w.heap.size<=i) w w'/\jn b w w'/\∃v k xs,w'.cell? ⟨b,0,DG⟩=DJ v/\Pk w' BB 2 v k xs/\xs.length=k*2
theorem Dh.Cr {F:Nat->Prop} {b:Nat} {d:bL} {lt:BC} {w W:CP} {vp vs vb:CQ} {L:List Sv} (g:(∀i,F i->i < w.heap.size)/\¬F b/\b < w.heap.size) (n:w.heap.size<=R0/\R0 < BB) (a:Kq (fun i=>i=b\/w.heap.size<=i) w W/\jn b w W) (j:cn (fun k=>F k\/BB<=k) W lt vp vs vb L) (f:ek (fun k=>F k\/BB<=k) W b d) (cs:List CQ):
  cn (fun k=>F k\/w.heap.size<=k) (W.setCells R0 0 cs) lt vp vs vb L/\ek (fun k=>F k\/w.heap.size<=k) (W.setCells R0 0 cs) b d/\Kq (fun i=>i=b) w (W.setCells R0 0 cs)/\jn b w (W.setCells R0 0 cs):=by
 obtain⟨h1,h2,m⟩:=g;have h:=a.1;have k:Kq (fun k=>k=R0) W (W.setCells R0 0 cs):=(Kq.refl W).setCells (Q:=fun k=>k=R0) rfl 0 cs;have c:∀i,(F i\/BB<=i)->i≠R0:=fun i q e=>by
  rcases q with q | q
  ·have:=h1 i q;omega
  ·omega
 have hm:∀i,(F i\/BB<=i)->(F i\/w.heap.size<=i):=fun i q=>q.imp id fun q=>by omega
 refine⟨j.kept fun i q l=>⟨hm i q,k.block i l (c i q)⟩,f.kept k (fun i q=>⟨fun r=>c i r q,by omega⟩) (fun i q _=>hm i q) fun q=> ?_,?_,a.2.kq k fun i q=>by omega⟩
 ·rcases q with q | q
  ·exact h2 q
  ·omega
 ·exact(h.trans (k.mono (Q':=fun i=>i=b\/w.heap.size<=i) fun i _ q=>.inr (by omega))).mono fun i o q=>by omega
theorem Dh.fin {F:Nat->Prop} {b:Nat} {c:bL} {lt:BC} {w W:CP} {vp vs vb:CQ} {L:List Sv} (g:(∀i,F i->i < w.heap.size)/\¬F b/\b < w.heap.size) (j:w.heap.size<=R0/\R0 < BB) (a:Kb b w W) (h:cn (fun k=>F k\/BB<=k) W lt vp vs vb L) (f:ek (fun k=>F k\/BB<=k) W b c) (cs:List CQ):
  cn (fun k=>F k\/w.heap.size<=k) (W.setCells R0 0 cs) lt vp vs vb L/\ek (fun k=>F k\/w.heap.size<=k) (W.setCells R0 0 cs) b c/\Kq (fun i=>i=b) w (W.setCells R0 0 cs)/\jn b w (W.setCells R0 0 cs)/\zz b w (W.setCells R0 0 cs):=by
 have k:Kq (fun k=>k=R0) W (W.setCells R0 0 cs):=(Kq.refl W).setCells (Q:=fun k=>k=R0) rfl 0 cs;obtain⟨h1,h2,d,e⟩:=Dh.Cr g j ⟨a.1,a.2.1⟩ h f cs;exact⟨h1,h2,d,e,fun v l m=>.inl (by rw[<-m];exact(a.2.2.kq k a.1.size (fun q=>by omega) l).symm)⟩
theorem Dh.CD {F:Nat->Prop} {b:Nat} {g:bL} {lt:BC} {w W:CP} {vp vs vb:CQ} {L:List Sv} (r:(∀i,F i->i < w.heap.size)/\¬F b/\b < w.heap.size) (t:w.heap.size<=R0/\R0 < BB) {e:Nat} (y:R0 < e) (a:Ae e b w W) (s:cn (fun k=>F k\/BB<=k) W lt vp vs vb L) (p:ek (fun k=>F k\/BB<=k) W b g) (cs:List CQ):
  cn (fun k=>F k\/w.heap.size<=k) (W.setCells R0 0 cs) lt vp vs vb L/\ek (fun k=>F k\/w.heap.size<=k) (W.setCells R0 0 cs) b g/\Kq (fun i=>i=b) w (W.setCells R0 0 cs)/\jn b w (W.setCells R0 0 cs)/\zz b w (W.setCells R0 0 cs):=by
 have k:Kq (fun k=>k=R0) W (W.setCells R0 0 cs):=(Kq.refl W).setCells (Q:=fun k=>k=R0) rfl 0 cs;obtain⟨h1,h2,m,o⟩:=Dh.Cr r t ⟨a.1,a.2.1⟩ s p cs;refine⟨h1,h2,m,o,fun v u c=>.inr ?_⟩;obtain⟨v2,n,xs,h,d,j⟩:=a.2.2;have x:b < W.heap.size:=Dd u a.1.size;have l:(W.setCells R0 0 cs).cell? ⟨b,0,DG⟩=DJ v2:=by rw[<-h];exact Dp (k.block b x fun q=>by omega)
 rw[l]at c;injection c with c;subst c;exact⟨n,xs,(d.kept (fun i f=>k.block i (d.block i f).2 fun q=>by have:=(d.block i f).1;omega) k.size).mono (by omega),j⟩
structure JP (BB:Nat) (e:Dn) (n:Nat) (A E:List CQ) (d:Nat->Bool) (u:Nat->CQ) (w:CP):Prop where
 le:BB<=w.heap.size
 a:d 1=true->d 6=false->w.ownsRow BB e 2 (u 87) 0 []
 b:d 6=true->d 13=false->w.ownsRow BB e 2 (u 92) n A
 l:d 12=true->d 13=false->∃g,u 98=.slice (some ⟨g,0,none⟩) 1 1/\w.rangeAt g 0 E/\(d 1=true->d 6=false->(u 87).ownBlock≠some g)/\(d 6=true->(u 92).ownBlock≠some g)
 c:d 13=true->w.ownsRow BB e 2 (u 99) (n+1) (A++E)
section
variable {BB:Nat} {e:Dn} {n:Nat} {A E:List CQ} {d:Nat->Bool} {u:Nat->CQ} {w w':CP}
theorem JP.start (h:BB<=w.heap.size):JP BB e n A E (fun _=>false) u w:=⟨h,fun q=>(by cases q),fun q=>(by cases q),fun q=>(by cases q),fun q=>(by cases q)⟩
theorem JP.same {j t:Nat} {v:CQ} (h:JP BB e n A E d u w) (k:(decide (j=1)||decide (j=6)||decide (j=12)||decide (j=13)||decide (t=87)||decide (t=92)||decide (t=98)||decide (t=99))=false):JP BB e n A E (bW d j) (bH (some t) u v) w:=by
 simp only[Bool.or_eq_false_iff,decide_eq_false_iff_not]at k;obtain⟨⟨⟨⟨⟨⟨⟨h1,h2⟩,p⟩,q⟩,r⟩,s⟩,x⟩,y⟩:=k;have f:bW d j 1=d 1:=if_neg (fun e=>h1 e.symm);have a2:bW d j 6=d 6:=if_neg (fun e=>h2 e.symm);have a3:bW d j 12=d 12:=if_neg (fun e=>p e.symm);have a4:bW d j 13=d 13:=if_neg (fun e=>q e.symm);have g:bH (some t) u v 87=u 87:=if_neg (fun e=>r e.symm);have i:bH (some t) u v 92=u 92:=if_neg (fun e=>s e.symm);have m:bH (some t) u v 98=u 98:=if_neg (fun e=>x e.symm);have o:bH (some t) u v 99=u 99:=if_neg (fun e=>y e.symm);exact⟨h.le,by rw[f,a2,g];exact h.a,by rw[a2,a4,i];exact h.b,by rw[a3,a4,m,f,a2,g,i];exact h.l,by rw[a4,o];exact h.c⟩
theorem JP.new (h:JP BB e n A E d u w) (i:E≠[]) (c:d 6=false) (b:d 13=false):JP BB e n A E (bW d 1) (bH (some 87) u (.slice (some ⟨w.heap.size,0,none⟩) 0 0)) (w.alloc (.cells #[] e)):=by
 have hx:=ae w (.cells #[] e);refine⟨Dk h.le hx.size,fun _ _=>gB w e BB h.le 2,fun q=> ?_,fun a p=> ?_,fun q=> ?_⟩
 ·have q:d 6=true:=q;rw[c]at q;cases q
 ·have a:d 12=true:=a;obtain⟨g,j,f,m,o⟩:=h.l a b;have k:=bK f i;refine⟨g,j,aL f hx,fun _ _ q=> ?_,fun q=> ?_⟩
  ·have q:some w.heap.size=some g:=q;have:=Ei q;omega
  ·have q:d 6=true:=q;rw[c]at q;cases q
 ·have q:d 13=true:=q;rw[b]at q;cases q
theorem JP.Ce (h:JP BB e n A E d u w) (v:E≠[]) {b:CQ} (h1:d 1=true) (m:d 6=false) (i:d 13=false) (s:w'.ownsRow BB e 2 b (0+n) ([]++A)) (p:w.grownBy w' (u 87).ownBlock) (c:∀k,b.ownBlock=some k->(u 87).ownBlock=some k\/w.heap.size<=k):Below BB w w'/\JP BB e n A E (bW d 6) (bH (some 92) u b) w':=by
 have o:Below BB w w':=(CT BB w).grown p h.le fun k c=>((h.a h1 m).lt k c).1
 refine⟨o,Dk h.le o.size,fun _ q=> ?_,fun _ _=> ?_,fun f F=> ?_,fun q=> ?_⟩
 ·have q:true=false:=q;cases q
 ·rw[Dq,List.nil_append]at s;exact s
 ·have f:d 12=true:=f;obtain⟨g,B,t,C,D⟩:=h.l f i;have y:=bK t v;have r:=C h1 m;refine⟨g,B,fun j x hx=> ?_,fun _ q=> ?_,fun _ q=> ?_⟩
  ·rw[Dp (w:=w) (p.block g y fun q=>r q.symm)];exact t j x hx
  ·have q:true=false:=q;cases q
  ·have q:b.ownBlock=some g:=q;rcases c g q with z | z
   ·exact r z
   ·omega
 ·have q:d 13=true:=q;rw[i]at q;cases q
theorem JP.BS (h:JP BB e n A E d u w) (g:d 13=false):JP BB e n A E (bW d 12) (bH (some 98) u (.slice (some ⟨w.heap.size,0,none⟩) 1 1)) (w.alloc (.cells E.toArray e)):=by
 have hx:=ae w (.cells E.toArray e);refine⟨Dk h.le hx.size,fun c f=>aN (h.a c f) hx,fun c f=>aN (h.b c f) hx,fun _ _=>⟨w.heap.size,rfl,fun j x i=> ?_,fun c f q=> ?_,fun c q=> ?_⟩,fun q=> ?_⟩
 ·rw[Dq,Df];simpa using i
 ·have:=((h.a c f).lt _ q).2;omega
 ·have:=((h.b c g).lt _ q).2;omega
 ·have q:d 13=true:=q;rw[g]at q;cases q
theorem JP.Cf (h:JP BB e n A E d u w) {f:CQ} (a:d 6=true) (g:d 13=false) (l:w'.ownsRow BB e 2 f (n+1) (A++E)) (i:w.grownBy w' (u 92).ownBlock):Below BB w w'/\JP BB e n A E (bW d 13) (bH (some 99) u f) w':=by
 have c:Below BB w w':=(CT BB w).grown i h.le fun k j=>((h.b a g).lt k j).1
 refine⟨c,Dk h.le c.size,fun _ q=> ?_,fun _ q=> ?_,fun _ q=> ?_,fun _=>l⟩
 ·have q:d 6=false:=q;rw[a]at q;cases q
 ·have q:true=false:=q;cases q
 ·have q:true=false:=q;cases q
end
theorem zB (x:Int) (p:Option Addr) (n c:Nat):∀v∈[Value.int .i64 x,.slice p n c],v.oneCell'=true:=fun v a=>by
 simp only[DA,Eg,or_false]at a;rcases a with rfl | rfl<;>rfl
def iT (s:bL) (n:Int) (i:Nat) (x:List Int):bL:=⟨s.AT.map fun p=>if p.1=n then(p.1,p.2.set i x)else p,s.ids⟩
def jq (s:bL) (n at':Int) (x:List Int):Bool:=match bn s n with
 | some st=>decide (0<=at'/\at' < (st.length:Int)/\x.length=16)
 | none=>false
def gZ (s:bL) (n at':Int) (x:List Int):bL:=if jq s n at' x=true then iT s n at'.toNat x else s
theorem oK (n:Int) (i:Nat) (x:List Int) (y:Int):∀(l:List (Int × List (List Int))),(l.map fun p=>if p.1=n then(p.1,p.2.set i x)else p).find? (fun p=>decide (p.1=y))=(l.find? fun p=>decide (p.1=y)).map fun p=>if p.1=n then(p.1,p.2.set i x)else p
 | []=>rfl
 | p :: l=>by
  have a:=oK n i x y l;have e:(if p.1=n then(p.1,p.2.set i x)else p).1=p.1:=by split<;>rfl
  rw[Eu,List.find?_cons,List.find?_cons,e];cases decide (p.1=y)with
  | true=>rfl
  | false=>exact a
theorem u9 (s:bL) (n:Int) (i:Nat) (x:List Int) (y:Int):bn (iT s n i x) y=if y=n then(bn s n).map (·.set i x)else bn s y:=by
 unfold bn iT;simp only;rw[oK];by_cases hy:y=n
 ·subst hy;rw[if_pos rfl];cases hf:s.AT.find? (fun p=>decide (p.1=y))with
  | none=>rfl
  | some p=>
   have e:p.1=y:=by simpa using List.find?_some hf
   simp[e]
 ·rw[if_neg hy];cases hf:s.AT.find? (fun p=>decide (p.1=y))with
  | none=>rfl
  | some p=>
   have e:p.1=y:=by simpa using List.find?_some hf
   have a:¬p.1=n:=by rw[e];exact hy
   simp[a]
theorem oL (s:bL) (n:Int) (i:Nat) (x:List Int):(iT s n i x).AT.map (·.1)=s.AT.map (·.1):=by
 unfold iT;rw[FM];refine List.map_congr_left fun p _=> ?_
 show(if p.1=n then(p.1,p.2.set i x)else p).1=p.1;split<;>rfl
theorem kn {s:bL} {n at':Int} (h:jq s n at' x=true):∃st,bn s n=some st/\0<=at'/\at' < (st.length:Int)/\x.length=16:=by
 unfold jq at h;cases hg:bn s n with
 | none=>rw[hg]at h;cases h
 | some st=>rw[hg]at h;exact⟨st,rfl,by simpa using h⟩
theorem cH.CL {s:bL} (h:cH s) (n:Int) (i:Nat) (h1:x.length=16) (h2:bI x):cH (iT s n i x):=by
 refine⟨by rw[oL];exact h.nd,fun p hp=> ?_,by unfold iT;simp only[CY];exact h.ln⟩;obtain⟨q,d,rfl⟩:=DM.1 hp;have a:=h.ob q d;split
 ·refine⟨by simp only[Ea];exact a.1,by simp only[Ea];exact a.2.1,fun b c=> ?_⟩;rcases Fh c with c | rfl
  ·exact a.2.2 b c
  ·exact⟨h1,h2⟩
 ·exact a
theorem cH.Cs {s:bL} (h:cH s) (n at':Int) (h2:bI x):cH (gZ s n at' x):=by
 unfold gZ;split
 ·next q=>
  obtain⟨_,_,_,_,h1⟩:=kn q;exact h.CL n _ h1 h2
 ·exact h
theorem eR.B9 {N Q:Nat->Prop} {w d:CP} {b m E c:Nat} {mp:List (Int × CQ)} {s:bL} {n:Int} {st:List (List Int)} {u:CQ} (h:eR N Q w b m E mp s) (v:∀i,Q i->N i) (l:dF mp n=DJ (.slice (DJ ⟨g,0,DG⟩) st.length c)) (B:bn s n=DJ st) (O:i < st.length) (I:au w d) (hu:ju (fun k=>¬N k) d (u,x)):
  eR N Q (d.setCell ⟨g,i,DG⟩ u) b m E mp (iT s n i x):=by
 have h2:=h.ext I;have e:=h2.rw _ (dt l) g rfl;have J:g≠b:=fun q=>h2.qb (q▸e.1)
 have k:Kq (fun k=>k=g) d (d.setCell ⟨g,i,DG⟩ u):=(Kq.refl d).setCell (Q:=fun k=>k=g) ⟨g,i,DG⟩ rfl _;obtain⟨any,G,F,s1,s2⟩:=h2.sn;have A:∀y:Bv,ju (fun k=>¬N k) d y->ju (fun k=>¬N k) (d.setCell ⟨g,i,DG⟩ u) y:=fun y hy=>bQ _ _ _ _ _ hy fun j a o=>⟨a,k.block j o fun q=>a (by rw[q];exact v g e.1)⟩
 refine⟨k.box (fun q=>J q.symm) h2.bx,h2.mt.same (k.block m h2.mt.lt fun q=>e.2.1 q.symm),⟨any,G,F,k.box (fun q=>e.2.2 q.symm) s1,s2⟩,by unfold iT;simp only[CY];exact h2.ln,fun y=> ?_,h2.qb,h2.qm,h2.qs,h2.ms,h2.rw,fun j a=>Dd (h2.sz j a) k.size,h2.dj⟩;rw[u9];by_cases hy:y=n
 ·subst hy;rw[if_pos rfl,B,l];show fS N _ _ (st.set i x);obtain⟨L,f,M,C,K,D⟩:=h2.some B;rw[l]at f;injection f with f;subst f;have t:M.length=st.length:=by rw[<-D,CY]
  refine⟨M.set i (u,x),?_,fun z p=> ?_,by rw[List.map_set,D]⟩
  ·rw[t]at C;have H:=C.put (j:=i) (by rw[fy,CY];omega) u;have r:=fA u7 b0 (u,x) u 0 (by decide) M i (by omega) rfl;rw[EZ,Nat.add_zero]at r;rw[Ea,<-r,t];exact H
  ·rcases Fh p with p | rfl
   ·exact A z (K z p)
   ·exact A _ hu
 ·rw[if_neg hy];have h1:=h2.ob y;cases hvy:dF mp y with
  | none=>rw[hvy]at h1;exact nD.Cq h1
  | some L=>
   cases hg:bn s y with
   | none=>rw[hvy,hg]at h1;exact h1.elim
   | some st'=>
    rw[hvy,hg]at h1;refine fS.kept h1 (fun j a=>k.block j (h2.sz j (h2.rw _ (dt hvy) j a).1) fun q=> ?_) k.size fun j a o=>⟨a,k.block j o fun q=>a (by rw[q];exact v g e.1)⟩
    subst q;exact h2.dj _ (dt hvy) _ (dt l) hy j a rfl
theorem aY.B3 {F:Nat->Prop} {w:CP} {v:CQ} {cs:List CQ} (h:aY F w v n cs) {A:Addr} {z u:CQ} (i:w.cell? A=DJ z) (k:z ∉ cs):aY F (w.setCell A u) v n cs:=by
 rcases h with h | ⟨b,o,c,h1,h2,f,d,g⟩
 ·exact .inl h
 ·refine .inr ⟨b,o,c,h1,h2,f,fun j x a=> ?_,g⟩
  rw[Dv _ _ _ _ (by
   intro q;have e:=d j x a;rw[<-q,i]at e;injection e with e;subst e
   exact k (List.mem_of_getElem? a))]
  exact d j x a
theorem lS {k:IntKind} {p:Option Addr} {c:Nat} {l:List Int}:Value.slice p n c ∉ aj k l:=fun h=>by
 unfold aj at h;obtain⟨x,_,q⟩:=DM.1 h;cases q
theorem wW {F:Nat->Prop} {w:CP} {v:CQ} {st:List (List Int)} (j:di F w v st) (h1:1<=st.length) (hx:x.length=16) (i:aY F w v x.length (aj .u8 x)):False:=by
 obtain⟨M,k,l,m⟩:=j;have a:0 < M.length:=by rw[<-m,CY]at h1;exact h1
 obtain⟨b,o,c,g,_,_,_,h⟩:=aX.pos k.BD a (fun q=>by rw[fy]at q;have e:=List.map_eq_nil_iff.1 q;rw[e]at a;exact absurd a (Nat.lt_irrefl 0));obtain⟨n,t,r,f1,_,_,_,f2⟩:=aX.pos i.BD (by omega) (fun q=>by have:=congrArg List.length q;rw[ints_length]at this;simp only[List.length_nil]at this;omega);rw[g]at f1;injection f1 with f1;injection f1 with f1;injection f1 with f1 f3;subst f1 f3;have f:=h 0 (M[0]'a).1 (by rw[fy,DE,CV a];rfl);have d:=f2 0 (.int .u8 (x[0]'(by omega))) (by rw[cJ .u8 x 0 (by omega)];simp[CR,CV (show 0 < x.length by omega)]);rw[f]at d;injection d with d;obtain⟨p,s,g1,_,_⟩:=(l _ (List.getElem_mem a)).1.BD.form;rw[g1]at d;cases d
theorem di.B3 {F:Nat->Prop} {w:CP} {v:CQ} {st:List (List Int)} (h:di F w v st) (j:∀b∈st,b.length=16) {A:Addr} {z u:CQ} (d:w.cell? A=DJ z) {i:List (List Int)} (f:di F w z i) (h1:1<=i.length):di F (w.setCell A u) v st:=by
 obtain⟨p,n,c,k⟩:∃p n c,z=.slice p n c:=by obtain⟨p,c,e,_,_⟩:=f.BF.form;exact⟨p,_,c,e⟩
 obtain⟨M,l,a,g⟩:=h;refine⟨M,l.B3 d fun hm=> ?_,fun y hy=>⟨(a y hy).1.B3 d (by rw[k];exact lS),(a y hy).2⟩,g⟩;rw[fy]at hm;obtain⟨y,hy,e⟩:=DM.1 hm;have h2:=(a y hy).1;rw[e]at h2;exact wW f h1 (j y.2 (by rw[<-g];exact DX hy)) h2
theorem gV.B9 {F:Nat->Prop} {w:CP} {b c:Nat} {K l:CQ} {D:List Ob} {s:bL} (h:gV F w b (.slice (DJ ⟨g,o,DG⟩) D.length c) K D s) (I:cH s) (a:j < D.length) (hx:x.length=16) (Y:di F w l ((D.getD j o0).2.2.set i x)):
  gV F (w.setCell ⟨g,o+(j*2+1),DG⟩ l) b (.slice (DJ ⟨g,o,DG⟩) D.length c) K (D.set j ((D.getD j o0).1,l,(D.getD j o0).2.2.set i x)) (iT s (D.getD j o0).1 i x):=by
 have u:=aJ o0 a;have A:∀y∈D,sw y.2.2:=fun y hy=>I.ob (y.1,y.2.2) (by rw[<-h.eq];exact DX (f:=fun x:Ob=>(x.1,x.2.2)) hy)
 have p:(aD cO D).length=D.length*2:=bu (fun x _=>km x);have H:aD cO D≠[]:=fun q=>by rw[q]at p;simp at p;omega
 have X:=jm km o0 1 (by decide) D j a;obtain⟨C,J,R,S⟩:F g/\w.rangeAt g o (aD cO D)/\D.length<=c/\c<=Dc:=by
  rcases h.ro with ⟨_,_,q⟩ | ⟨b',o',c',h1,h2,L,M,N⟩
  ·exact absurd q H
  ·injection h1 with h1 _ O;injection h1 with h1;injection h1 with h1 P;subst h1 P O;exact⟨N H,M,h2,L⟩
 have n:w.cell? ⟨g,o+(j*2+1),DG⟩=DJ (D.getD j o0).2.1:=J _ _ X;have B:=h.ok _ u;obtain⟨pz,cz,Z,_,_⟩:=di.BF B |>.form;have h1:=(A _ u).1;have W:g≠b:=fun q=>h.nb (q▸C)
 have Q:=EC w ⟨g,o+(j*2+1),DG⟩ l b (fun q=>W q.symm);refine⟨h.bx.same Q,?_,fun y hy=> ?_,?_,h.ra.B3 n (by rw[Z];exact lS),h.rn,h.nb⟩
 ·rw[Ea];refine .inr ⟨g,o,c,rfl,R,S,fun e v he=> ?_,fun _=>C⟩;rw[<-fA km o0 ((D.getD j o0).1,l,(D.getD j o0).2.2.set i x) l 1 (by decide) D j a rfl]at he;by_cases E:e=j*2+1
  ·subst E;rw[Eb (by rw[p];omega)]at he;injection he with he;subst he;exact World.cell?_setCell_same' _ _ _ (by rw[n];rfl)
  ·rw[Ge (fun q=>E q.symm)]at he;rw[Dv _ _ _ _ (by intro q;injection q with _ q;omega)];exact J e v he
 ·rcases Fh hy with hy | rfl
  ·exact di.B3 (h.ok y hy) (fun b m=>((A y hy).2.2 b m).1) n B h1
  ·refine di.B3 Y (fun b m=> ?_) n B h1;rcases Fh m with m | rfl
   ·exact((A _ u).2.2 b m).1
   ·exact hx
 ·have z:(D.map (·.1)).Pairwise (· ≠ ·):=by have:=I.nd;rw[<-h.eq,FM]at this;exact this
  unfold iT;simp only;rw[<-h.eq,FM];refine List.ext_getElem? fun k=> ?_
  rw[DE,DE];by_cases r:k=j
  ·subst r;rw[Eb a,CV a];simp[CV a]
  ·rw[Ge (fun q=>r q.symm)];cases hd:D[k]? with
   | none=>rfl
   | some d=>
    obtain⟨G,T⟩:=Dt.1 hd;have e:D.getD j o0=D[j]:=by rw[CR,CV a];rfl
    have U:¬d.1=(D.getD j o0).1:=by
     rw[e,<-T];rw[List.pairwise_iff_getElem]at z;intro q;rcases Nat.lt_or_gt_of_ne r with t | t
     ·exact z k j (by simpa using G) (by simpa using a) t (by simpa using q)
     ·exact z j k (by simpa using a) (by simpa using G) t (by simpa using q.symm)
    have V:¬d.1=(D[j]?.getD o0).1:=by rw[<-CR];exact U
    simp[V]
def tF (B0:Nat) (w:CP) (b:Nat):Prop:=∃v k xs,w.cell? ⟨b,0,none⟩=some v/\Pk w B0 2 v k xs/\xs.length=k*2
def zC (B0:Nat) (F:Nat->Prop) (b:Nat) (s:bL) (n at':Int) (x:List Int) (w:CP) (e:Ending) (w':CP):Prop:=
 e=.returned (.bool (jq s n at' x))/\ek (fun i=>F i\/w.heap.size<=i) w' b (gZ s n at' x)/\tF B0 w' b/\Kq (fun i=>B0<=i/\i≠b/\∃v,w.cell? ⟨b,0,none⟩=some v/\v.ownBlock=some i) w w'/\w'.cell? ⟨b,0,none⟩=w.cell? ⟨b,0,none⟩
theorem ek.wide {F:Nat->Prop} {w w':CP} {b:Nat} {s:bL} (h:ek F w b s) (a:au w w'):ek (fun i=>F i\/w.heap.size<=i) w' b s:=by
 have c:=h.lt;exact h.kept (Q:=fun _=>False) (Kq.AI a) (fun _ q=>q.elim) (fun i q _=>.inl q) fun q=>by
  rcases q with q | q
  ·exact h.nb q
  ·omega
theorem tF.ext {B0 b:Nat} {w w':CP} (h:tF B0 w b) (d:b < w.heap.size) (a:au w w'):tF B0 w' b:=by
 obtain⟨v,k,xs,h1,h2,c⟩:=h;exact⟨v,k,xs,by rw[<-h1];exact Dp (a.block b d),h2.ext a,c⟩
def AO (T:List (Bool × Nat × Nat)) (p:List (List Int)):List (Bool × List Int):=(T.reverse.zip p).map fun x=>(x.1.1,x.2)
def AP (n i:Nat) (l:List Int) (p:List (List Int)):List (List Int):=yS sha (0 :: l) (AO (bP n i) p)
def AQ (root:List Int) (n i:Int) (l:List Int) (p:List (List Int)):Nat:=
 if iu n i=true then(if p.length=(bP n.toNat i.toNat).length then(if yK ej n.toNat i.toNat (ij l) p=root then 0 else 15)else 8)else 1
theorem oM:∀(n:Nat) (ds:List (List Int)) (i:Nat) (v:CQ) (w:CP),ds.length=n->n<=512->i < n->dd ds->et w v ds->dT w->
  CZ CO 43 #[v,.int .i64 i] w fun e w'=>∃s,e=.returned s/\iR w' s w.heap.size 52 (dm ej zD ds i)/\au w w':=by
 intro n;induction n using Nat.strongRecOn with
 | _ n ih=>
  intro ds i v w A hn hi f K hg;have Q:=aa ih;clear ih;obtain⟨p,c,aK,aL,aU⟩:=K.form;subst aK;rw[A]at K aL⊢;by_cases h1:n=1
  ·subst h1;have t:=aa (gi ej zD ds i (by omega));clear K hg f A;go_enter Tryz.func43,Tryz.ntmps43
   go_wp2
   go_ret;exact⟨_,rfl,by rw[t.out];exact iR.nil _ _ _,CT _ _⟩
  ·have aR:((n:Int)==1)=false:=by rw[beq_eq_false_iff_ne];omega
   obtain⟨s1,s2,s3⟩:=bN n (by omega) (by omega);have E:=aa (fun h:i < sp n=>gI ej zD ds i (by omega) (by omega) (by rw[A];exact h));have F:=aa (fun h:¬i < sp n=>fK ej zD ds i (by omega) (by omega) (by rw[A];exact h));rw[A]at E F;have r:=aa A;have S:=aa K;have j:=aa f;have P:=aa hg;clear K f hg;go_enter Tryz.func43,Tryz.ntmps43
   go_wp2_with fail
   refine(jG _ _ (by omega) (by omega)).mono ?_;rintro e w3 ⟨rfl,aN⟩;subst aN;rw[Int.toNat_natCast];obtain⟨b,o,cc,aE,aC,aD,aq,aJ⟩:=et.pos (by have h:=S.out;rw[<-r.out]at h;exact h) j (by omega);injection aE with aF aH aI;clear aH aI aC aD aq aJ A;subst aF;obtain⟨q,hq⟩:=exq (sp n);rw[<-hq]at s1 s2 s3 E F⊢;clear hq;have aV:(q:Int) < (n:Int):=by omega
   have aW:¬(q=c):=by omega
   have aY:(0:Int)<=(q:Int):=by omega
   have aZ:(q:Int)<=(n:Int):=by omega
   have a0:(q:Int)<=(c:Int):=by omega
   have a1:(n:Int)<=(c:Int):=by omega
   have al:=aa (et.take (by have h:=S.out;rw[<-r.out]at h;exact h) j q (by rw[r.out];omega));have ak:Hid (et w (.slice (some ⟨b,o+q*32,none⟩) (n - q) (c - q)) (ds.drop q)):=aa (by have h:=et.drop (by have h:=S.out;rw[<-r.out]at h;exact h) j q (by rw[r.out];omega);rw[r.out]at h;exact h);have H:Hid ((ds.take q).length=q):=aa (by rw[Da,r.out];omega);have G:Hid ((ds.drop q).length=n - q):=aa (by rw[C6,r.out]);by_cases ae:i < q
   ·have t:=aa (E ae);have aA:(i:Int) < (q:Int):=by omega
    have C:Hid (∀a,au w a->CZ CO 43 #[.slice (some ⟨b,o,none⟩) q c,.int .i64 i] a fun e w'=>∃s,e=.returned s/\iR w' s a.heap.size 52 (dm ej zD (ds.take q) i)/\au a w'):=aa fun a h2=>Q q (by omega) (ds.take q) i _ a H (by omega) ae (j.take q) (aX.ext al h2) (P.ext h2)
    have D:Hid (∀a,au w a->CZ CO 49 #[.slice (some ⟨b,o+q*32,none⟩) (n - q) (c - q)] a fun e w'=>e=.returned (.agg (aj .u8 (bZ (ds.drop q))).toArray)/\au a w'):=aa fun a h2=>kI (n - q) (ds.drop q) _ a G (by omega) (j.drop q) (aX.ext ak h2) (P.ext h2)
    have l:=aa (dP _ (ds.drop q) rfl (j.drop q) (by rw[G.out];omega))
    have y:Hid ((dm ej zD (ds.take q) i).length<=512):=aa (by
     rw[gj _ _ _ _ _ (CU _) (by rw[H.out];omega),H.out]
     have:=eB q q i (CU _) (by omega);omega)
    have x:Hid (dm ej zD ds i=dm ej zD (ds.take q) i++[bZ (ds.drop q)]):=t;obtain⟨d,f⟩:=exq (bZ (ds.drop q));rw[<-f]at D l x;obtain⟨V,J⟩:=exq (dm ej zD (ds.take q) i);rw[<-J]at C y x;clear f J t E F Q
    go_wp2_with fail
    apply aG 10 [15,16,17,18,19,20,21,22,23,24] [ar _,ar _,ar (.slice (some ⟨b,o,none⟩) q c),ar _,(fun v w'=>iR w' v w.heap.size 52 V),ar _,ar _,ar (.slice (some ⟨b,o+q*32,none⟩) (n - q) (c - q)),ar _,(fun v w'=>aX w' v 1 (aO [d]))] (by kernel_rfl) (by kernel_rfl) (by kernel_rfl) (by kernel_rfl);case hsteps=>
     refine⟨?_,?_,?_,?_,?_,?_,?_,?_,?_,?_,trivial⟩;all_goals
      intro ev O g m f;have W:=m 0 (by decide);have X:=m 1 (by decide);have Y:=m 5 (by decide);clear m;simp only[sB]at W X Y;simp only[sD]at f;have hc:=(ay g).1;simp only[dw,C8,if_true];first
      | exact eW mf (by decide) f (by simp[l.out.1]) (fI O 52 d l.1)
      | (go_simp;first | (go_at_call 43;(with_reducible refine(C.out _ g).mono ?_);rintro e a ⟨v2,rfl,ab,z⟩;exact⟨_,rfl,z,ab.mono g.size⟩) | (go_at_call 49;(with_reducible refine(D.out _ g).mono ?_);rintro e a ⟨rfl,z⟩;exact⟨_,rfl,z,rfl⟩) | exact⟨CT _ _,by rw[if_neg (by omega)];rfl⟩ | exact⟨CT _ _,rfl⟩)
    case hmono=>exact⟨ah _,ah _,(ah _),ah _,(fun _ _ _ h k=>iR.ext h k),ah _,ah _,(ah _),ah _,(fun _ _ _ h k=>aX.ext h k),trivial⟩
    case hend=>
     intro u O g hend;simp only[sE]at hend;simp only[sF,hend];have af:=aa hend.2;obtain⟨p2,c2,N,L⟩:=hend.1.1.1.1.1.2;rw[N];have T:=aa L;have B:=aa g;clear g hend L N
     go_wp2_with (with_reducible refine av ?_)
     refine ax ?_;refine bg mf T af rfl rfl (by rw[cM,ints_length,l.out.1]) (cY _) (by have:=y.out;unfold Dc;omega) (by have:=y.out;omega) B.size ?_;intro q3 d3 w9 M ad I Z aB az;have U:=aa M;have R:Hid (au w w9):=aa (DC B I);clear M ad I Z
     go_wp2_with fail
     go_ret;refine⟨_,rfl,?_,R⟩;rw[x.out];refine⟨q3,d3,by rw[C7];rfl,?_⟩;rw[C7,cf];exact U
   ·have t:=aa (F ae);have aA:¬((i:Int) < (q:Int)):=by omega
    have e2:((i - q:Nat):Int)=(i:Int) - (q:Int):=by omega
    have C:Hid (∀a,au w a->CZ CO 43 #[.slice (some ⟨b,o+q*32,none⟩) (n - q) (c - q),.int .i64 ((i:Int) - (q:Int))] a fun e w'=>∃s,e=.returned s/\iR w' s a.heap.size 52 (dm ej zD (ds.drop q) (i - q))/\au a w'):=aa fun a h2=>by rw[<-e2];exact Q (n - q) (by omega) (ds.drop q) (i - q) _ a G (by omega) (by omega) (j.drop q) (aX.ext ak h2) (P.ext h2)
    have D:Hid (∀a,au w a->CZ CO 49 #[.slice (some ⟨b,o,none⟩) q c] a fun e w'=>e=.returned (.agg (aj .u8 (bZ (ds.take q))).toArray)/\au a w'):=aa fun a h2=>kI q (ds.take q) _ a H (by omega) (j.take q) (aX.ext al h2) (P.ext h2)
    have l:=aa (dP _ (ds.take q) rfl (j.take q) (by rw[H.out];omega))
    have y:Hid ((dm ej zD (ds.drop q) (i - q)).length<=512):=aa (by
     rw[gj _ _ _ _ _ (CU _) (by rw[G.out];omega),G.out]
     have:=eB (n - q) (n - q) (i - q) (CU _) (by omega);omega)
    have x:Hid (dm ej zD ds i=dm ej zD (ds.drop q) (i - q)++[bZ (ds.take q)]):=t;obtain⟨d,f⟩:=exq (bZ (ds.take q));rw[<-f]at D l x;obtain⟨V,J⟩:=exq (dm ej zD (ds.drop q) (i - q));rw[<-J]at C y x;have aM:IntKind.i64.wrap ((i:Int) - (q:Int))=(i:Int) - (q:Int):=IntWalk.i64_in _ (by omega);clear f J t E F Q e2
    go_wp2_with fail
    apply aG 12 [26,27,28,29,30,31,32,33,34,35,36,37] [ar _,ar _,ar (.slice (some ⟨b,o+q*32,none⟩) (n - q) (c - q)),ar _,ar _,ar (.int .i64 ((i:Int) - (q:Int))),(fun v w'=>iR w' v w.heap.size 52 V),ar _,ar _,ar (.slice (some ⟨b,o,none⟩) q c),ar _,(fun v w'=>aX w' v 1 (aO [d]))] (by kernel_rfl) (by kernel_rfl) (by kernel_rfl) (by kernel_rfl);case hsteps=>
     refine⟨?_,?_,?_,?_,?_,?_,?_,?_,?_,?_,?_,?_,trivial⟩;all_goals
      intro ev O g m f;have W:=m 0 (by decide);have X:=m 1 (by decide);have Y:=m 5 (by decide);clear m;simp only[sB]at W X Y;simp only[sD]at f;have hc:=(ay g).1;simp only[dw,C8,if_true];first
      | exact eW mf (by decide) f (by simp[l.out.1]) (fI O 52 d l.1)
      | (go_simp;first | (go_at_call 43;(with_reducible refine(C.out _ g).mono ?_);rintro e a ⟨v2,rfl,ab,z⟩;exact⟨_,rfl,z,ab.mono g.size⟩) | (go_at_call 49;(with_reducible refine(D.out _ g).mono ?_);rintro e a ⟨rfl,z⟩;exact⟨_,rfl,z,rfl⟩) | exact⟨CT _ _,by rw[if_neg (by omega)];rfl⟩ | exact⟨CT _ _,rfl⟩)
    case hmono=>exact⟨ah _,ah _,(ah _),ah _,ah _,(ah _),(fun _ _ _ h k=>iR.ext h k),ah _,ah _,(ah _),ah _,(fun _ _ _ h k=>aX.ext h k),trivial⟩
    case hend=>
     intro u O g hend;simp only[sE]at hend;simp only[sF,hend];have af:=aa hend.2;obtain⟨p2,c2,N,L⟩:=hend.1.1.1.1.1.2;rw[N];have T:=aa L;have B:=aa g;clear g hend L N aM
     go_wp2_with (with_reducible refine av ?_)
     refine ax ?_;refine bg mf T af rfl rfl (by rw[cM,ints_length,l.out.1]) (cY _) (by have:=y.out;unfold Dc;omega) (by have:=y.out;omega) B.size ?_;intro q3 d3 w9 M ad I Z aB az;have U:=aa M;have R:Hid (au w w9):=aa (DC B I);clear M ad I Z
     go_wp2_with fail
     go_ret;refine⟨_,rfl,?_,R⟩;rw[x.out];refine⟨q3,d3,by rw[C7];rfl,?_⟩;rw[C7,cf];exact U
theorem vi (v:CQ) (ps:List (List Int)) (i:Int) (w:CP) (a:Addr) (f:aU w v ps) (m:w.cell? ⟨3,0,none⟩=some (.iface 233 (.pointer (some a)))) (b:¬((ps.length:Int)<=512/\0<=i/\i < ps.length)):
  CZ CO 46 #[v,.int .i64 i] w fun e w'=>e=.returned (.tuple #[.slice none 0 0,.iface 233 (.pointer (some a))])/\au w w':=by
 obtain⟨vs,d,k,l⟩:=f;obtain⟨p,c,j,n,h⟩:=d.form;subst j;unfold Dc at h;have g:=aa (iK b);clear d k l b;go_enter Tryz.func46,Tryz.ntmps46
 go_wp2_with fail
 refine(mG _ _ _).mono ?_;rintro e o ⟨rfl,hw⟩;subst hw;rw[g.out]
 go_wp2_with fail
 go_quiet (fail)
 go_wp2_with fail
 go_ret2;exact⟨rfl,(CT _ _).drewN _⟩
theorem vj {s:bL} {l:BC} (h:(bC s l).2=true):(bC s l).1.id=l.id/\(bC s l).1.obj=l.obj:=by
 unfold bC at h⊢;split at h
 ·next hc=>
  rw[if_pos hc];split at h
  ·next h1=>
   rw[if_pos h1];simp only[eE]
   repeat' split
   all_goals exact⟨rfl,rfl⟩
  ·next h1=>
   rw[if_neg h1];split at h
   ·next h3=>
    rw[if_pos h3];simp only[gv]
    repeat' split
    all_goals exact⟨rfl,rfl⟩
   ·next h3=>
    rw[if_neg h3];split at h
    ·next h5=>
     rw[if_pos h5];simp only[fe]
     repeat' split
     all_goals exact⟨rfl,rfl⟩
    ·cases h
 ·cases h
structure Bo (bs:List (List Int)) (l a:BC):Prop where
 kd:¬(a.kind=4/\(a.shown.length:Int)≠l.places.length)
 le:a.shown.length<=l.places.length
 sh:∀i,i < a.shown.length->(a.shown.getD i h0).1=l.places.getD i 0/\0<=(a.shown.getD i h0).1/\(a.shown.getD i h0).1 < bs.length/\(a.shown.getD i h0).2.1=bs.getD (a.shown.getD i h0).1.toNat []/\(a.shown.getD i h0).2.2=gu bs (a.shown.getD i h0).1.toNat
 k4:a.kind=4->a.blocks.length=0
 k5:¬a.kind=4->a.shown.length=0
 bl:∀i,i < a.blocks.length->0<=a.BE/\a.BE+i < bs.length/\a.blocks.getD i []=bs.getD (a.BE+i).toNat []
def AR (bs:List (List Int)):BC:=⟨1,0,0,[],[],0,0,bs,0⟩
theorem rA {a b:Nat} (h:a<=b) (e:b < 2^63):dp a<=dp b:=by
 by_cases d:a < 2
 ·rw[xw a d];exact C9 _
 ·obtain⟨_,_,a3,_⟩:=gd a (by omega) (by omega);obtain⟨_,_,_,c⟩:=gd b (by omega) e;have:=(Gx (a:=2) (by decide)).1 (Dd (Dd a3 h) c);omega
theorem rB (j:Nat) (h:j < 63):dp (2^j)=j:=by
 cases j with
 | zero=>exact xw _ (by simp)
 | succ j=>
  have hp:2^(j+1)=2*2^j:=by rw[Nat.pow_succ];omega
  have h1:=Nat.one_le_two_pow (n:=j);have c:2^(j+1) < 2^63:=Nat.pow_lt_pow_right (by decide) h;obtain⟨d1,d2,d3,d4⟩:=gd (2^(j+1)) (by omega) c;have a:=(Nat.pow_le_pow_iff_right (a:=2) (by decide)).1 d4;have b:=(Gx (a:=2) (by decide)).1 d3;omega
theorem lT:∀(m n i:Nat),n<=m->n<=1048576->(bP n i).length<=dp n
 | 0,n,i,h,_=>by rw[ec n i (by omega)];exact C9 _
 | m+1,n,i,h,hn=>by
  by_cases h2:2<=n
  ·obtain⟨a,b,c⟩:=bN n h2 (by omega);obtain⟨d1,d2,d3,d4⟩:=gd n h2 (by omega);have f:2^(dp n - 1) < 2^63:=by omega
   have e:=(Gx (a:=2) (by decide)).1 f;have g:dp (sp n)=dp n - 1:=by rw[tN n (by omega),rB _ e]
   by_cases d:i < sp n
   ·rw[ed n i h2 (by omega) d,DB];have:=lT m (sp n) i (by omega) (by omega);omega
   ·rw[dN n i h2 (by omega) d,DB];have:=lT m (n - sp n) (i - sp n) (by omega) (by omega);have:=rA (a:=n - sp n) (b:=sp n) (by omega) (by omega);omega
  ·rw[ec n i (by omega)];exact C9 _
theorem ya (h:n<=512):dp n<=9:=by
 have:=rA (a:=n) (b:=2^9) h (by decide);rw[rB 9 (by decide)]at this;exact this
theorem sP (all:List (List Int)) (i:Nat) (h:all.length<=512):(gu all i).length<=40:=by
 rw[gu,gj _ _ _ _ _ (CU _) (by rw[CY];omega),CY];have h1:=lT all.length all.length i (CU _) (by omega);have h2:=ya h;omega
theorem nh.bare (k i o f c d:Int):nh ⟨k,i,o,[],[],f,c,[],d⟩:=⟨C9 _,C9 _,C9 _,fun s a=>(by cases a),fun s a=>(by cases a)⟩
theorem wX {l:BC} {all:List (List Int)} (c:sw all) (hp:l.places.length<=12):nh (mj l all):=by
 obtain⟨h1,h2,a⟩:=c;refine⟨C9 _,?_,C9 _,fun x hx=> ?_,fun x hx=>(by cases hx)⟩
 ·show(gY all l.places).length<=30;unfold gY;rw[CY];omega
 ·have hx:x∈gY all l.places:=hx;unfold gY at hx;obtain⟨p,_,rfl⟩:=DM.1 hx;refine⟨?_,sP all _ h2⟩;show(all.getD p.toNat []).length<=100;by_cases b:p.toNat < all.length
  ·have:=(a _ (aJ [] b)).1;omega
  ·rw[CR,List.getElem?_eq_none (by omega)];simp
theorem wY {l:BC} {all:List (List Int)} (b:sw all):nh (ki l all):=by
 obtain⟨h1,h2,a⟩:=b;refine⟨C9 _,C9 _,?_,fun x hx=>(by cases hx),fun x hx=> ?_⟩
 ·show((all.drop l.BE.toNat).take l.BG.toNat).length<=600;rw[Da,C6];omega
 ·have hx:x∈(all.drop l.BE.toNat).take l.BG.toNat:=hx;have:=(a x (Fq (En hx))).1;omega
theorem rC {s:bL} {l:BC} (a:cH s):nh (bC s l).1:=by
 unfold bC;split
 ·next hc=>
  split
  ·simp only[eE]
   repeat' split
   all_goals exact nh.bare _ _ _ _ _ _
  split
  ·next h3=>
   simp only[gv];split
   ·exact nh.bare _ _ _ _ _ _
   ·next all hg=>
    split
    ·exact wX (a.get hg) (qv hc h3).2.1
    ·exact nh.bare _ _ _ _ _ _
  split
  ·simp only[fe];split
   ·exact nh.bare _ _ _ _ _ _
   ·next all hg=>
    split
    ·exact nh.bare _ _ _ _ _ _
    ·split
     ·exact wY (a.get hg)
     ·exact nh.bare _ _ _ _ _ _
  ·exact nh.bare _ _ _ _ _ _
 ·exact nh.bare _ _ _ _ _ _
theorem wZ {s:bL} {l:BC}: -1125899906842624<=(bC s l).1.id/\(bC s l).1.id<=1125899906842624:=by
 by_cases h:(bC s l).2=true
 ·rw[(vj h).1];unfold bC at h;split at h
  ·next hc=>
   obtain⟨_,a,_,_,_⟩:=fg hc;obtain⟨⟨h1,h2⟩,_,_⟩:=dr a;omega
  ·cases h
 ·have:(bC s l).1=dW:=by
   unfold bC at h⊢;split
   ·next hc=>
    rw[if_pos hc]at h;split
    ·next h1=>rw[if_pos h1]at h;exact absurd rfl h
    ·next h1=>
     rw[if_neg h1]at h;split
     ·next h3=>rw[if_pos h3]at h;exact absurd rfl h
     ·next h3=>
      rw[if_neg h3]at h;split
      ·next h5=>rw[if_pos h5]at h;exact absurd rfl h
      ·rfl
   ·rfl
  rw[this];decide
theorem vk (s:bL) (l:BC):(cm s l).ids.length<=s.ids.length+1:=by
 have h:(fx s l).length<=s.ids.length+1:=by
  unfold fx;split
  ·rw[C7];exact CU _
  ·omega
 unfold cm;split
 ·unfold fF
  repeat' split
  all_goals exact h
 ·omega
def AU (s:bL) (k at' y:Int) (bs:List Int):List Int × Bool:=
 if (dE bs).1=0 then
  (if (bC s (dE bs).2).2=true then
   (if (kK k at' y (bC s (dE bs).2).1).2=true then
    (if aR (kK k at' y (bC s (dE bs).2).1).1=0 then(bE (kK k at' y (bC s (dE bs).2).1).1,true)else([],false))
   else([],false))
  else([],false))
 else([],false)
def AV (s:bL) (l:BC) (ot:List Int):BC × Bool:=
 if l.kind=3/\aR l=0/\ot.length=16 then(match bn s l.obj with
  | none=>(dW,false)
  | some all=>if ∀p∈l.places,p < (all.length:Int)then(mj l (all.set (l.places.getD 0 0).toNat ot),true)else(dW,false))
 else(dW,false)
end Go.Proofs.Bl
