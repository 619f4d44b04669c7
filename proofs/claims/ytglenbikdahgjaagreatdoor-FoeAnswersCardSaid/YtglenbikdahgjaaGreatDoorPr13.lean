/- Walks of the document's Fresh and Stored. -/
import Derived.Maps.AppendAt
import Derived.Test.YtglenbikdahgjaaGreatDoorPr12
set_option maxRecDepth 100000
set_option maxHeartbeats 16000000
open Bool renaming and_eq_true->Ek,or_eq_false_iff->Et
open Go renaming Calls->DN,Operand->Fu,Program->Ee,TypeId->Ec,Value->DG,World->DF,execOp->Fg,info_parts->Gq,maxLen->DV,wpList->Fl
open Go.Addr renaming add_mid->Ft
open Go.Builtin renaming append_->FY
open Go.Instr renaming build->GI,storeAt->Fb
open Go.Region renaming wanted->DP
open Go.Result renaming andThen->GO,andThen_ok->Ey
open Go.RowKit renaming Below->EZ
open Go.RowKit.Below renaming heap_setCell->Ff,refl->DI,trans->Ei
open Go.Sem renaming run_bind->E0,run_pure->E7
open Go.Value renaming int->Ej
open Go.World renaming cell?_alloc_new->D6,rangeAt_setCells_apart->FB,size_alloc->DO
open List renaming getD_eq_getElem?_getD->DJ,getElem?_set_ne->FA,length_append->DS,length_drop->DR,length_eq_zero_iff->Ed,length_set->Ea,length_singleton->Ez,length_take->DX,map_cons->E2,map_nil->FI,map_set->F8,map_toArray->Fx,mem_append->EL,mem_cons->Es,mem_of_mem_drop->FL,mem_or_eq_of_mem_set->EJ,nil_append->EG,not_mem_nil->ED
open Nat renaming add_assoc->FX,le_refl->DH,le_trans->D0,mul_one->Fi,zero_add->DY,zero_le->DZ,zero_mul->Gg
open Option renaming none->Gx
open Option.some renaming inj->Fk
namespace Go.Proofs.Bl
open Go Go.RowKit Go.Proofs
open Go.Proofs.Tryz renaming prog->DE,underlying43->DU
variable {i n D P g cap j R n3 csn t o m1 m2:Nat} {at' k y p x:Int} {st:List Int}
def Bz (F:Nat->Prop) (w w':DF) (b:Nat) (vo:DG) (D:List Ob) (s:eb) (ids:List Int):Prop:=(∃va',iQ (fun i=>F i\/w.heap.size<=i) w' b vo va' D ⟨s.BY,ids⟩)/\Kq (fun i=>i=b) w w'/\ka b w w'
def zR (F:Nat->Prop) (b:Nat) (vo:DG) (D:List Ob) (s:eb) (x:Int) (w:DF) (e:Ending) (w':DF):Prop:=e=.returned (.bool (fa s.ids x))/\Bz F w w' b vo D s (if fa s.ids x=true then s.ids++[x]else s.ids)
theorem iQ.wide {F:Nat->Prop} {w w':DF} {b:Nat} {c a:DG} {D:List Ob} {s:eb} (h:iQ F w b c a D s) (d:az w w'):iQ (fun i=>F i\/w.heap.size<=i) w' b c a D s:=
 h.kept (Q:=fun _=>False) (Kq.AI d) (fun _ q=>q.elim) (fun _ q _=>.inl q) fun q=>q.elim h.nb fun q=>by have:=h.bx.lt;omega
theorem rH (F:Nat->Prop) (b:Nat) (T S:DG) (D:List Ob) (s:eb) (x:Int) (w:DF) (h:iQ F w b T S D s) (hl:s.ids.length<=1048576):
  DN DE 42 #[.pointer (some ⟨b,1,none⟩),.int .i64 x] w fun e w'=>zR F b T D s x w e w':=by
 have H:=aa h;have l:Hid (∀a,az w a->fa s.ids x=false->Bz F w a b T D s (if fa s.ids x=true then s.ids++[x]else s.ids)):=aa fun a h2 d=>by rw[d];exact⟨⟨S,h.wide h2⟩,Kq.AI h2,ka.AI h2⟩
 have B:∀a,az w a->a.cell? ⟨b,1,none⟩=some S:=fun a h2=>(h.bx.ext h2).cell (i:=1) rfl
 have W:Hid (∀a,az w a->DN DE 76 #[.pointer (some ⟨b,1,none⟩),.int .i64 x] a fun e w'=>e=.returned (.bool (gU s.ids x))/\az a w'):=aa fun a h2=>pS b _ _ x a (B a h2) (h.ra.AT.ext h2) h.rn
 have V:Hid (∀a,az w a->DN DE 77 #[.pointer (some ⟨b,1,none⟩),.int .i64 x] a fun e w'=>e=.returned (.bool (jB s.ids x))/\az a w'):=aa fun a h2=>wM b _ _ x a (B a h2) (h.ra.AT.ext h2) h.rn
 have Hc:=aa B;have j:=aa hl;clear h B hl;go_enter Tryz.func42,Tryz.ntmps42;by_cases aK:x < 0
 ·have d:fa s.ids x=false:=l7 (.inl (iK.2 (.inl aK)));have f:=aa d;clear d
  go_wp2_with fail
  go_ret;unfold zR;exact⟨by rw[f.out]<;>rfl,l _ (DI _ _) f⟩
 by_cases aL:(1099511627776:Int) < x
 ·have d:fa s.ids x=false:=l7 (.inl (iK.2 (.inr aL)));have f:=aa d;clear d
  go_wp2_with fail
  go_ret;unfold zR;exact⟨by rw[f.out]<;>rfl,l _ (DI _ _) f⟩
 go_wp2_with fail
 refine(W w (DI _ _)).mono ?_;rintro e w1 ⟨rfl,ad⟩;have t:=aa ad;clear ad W;cases ho:gU s.ids x;case true=>
  have d:fa s.ids x=false:=l7 (.inr (.inl ho));have f:=aa d;clear d ho
  go_wp2_with fail
  go_ret;unfold zR;exact⟨by rw[f.out]<;>rfl,l _ t f⟩
 have X:=aa ho;clear ho
 go_wp2_with fail
 refine(V w1 t).mono ?_;rintro e a ⟨rfl,af⟩;have g:=aa (t.trans af);clear af V t;cases hh:jB s.ids x;case true=>
  have d:fa s.ids x=false:=l7 (.inr (.inr hh));have f:=aa d;clear d hh
  go_wp2_with fail
  go_ret;unfold zR;exact⟨by rw[f.out]<;>rfl,l _ g f⟩
 have d:fa s.ids x=true:=sN (bJ.2 ⟨by omega,by omega⟩) X hh;have f:=aa d;have aq:Hid (∀y∈s.ids++[x],0<=y/\y<=1099511627776):=aa fun y hy=>by
  rcases EL.1 hy with hy | hy
  ·exact H.rn y hy
  ·obtain rfl:=List.mem_singleton.1 hy;omega
 clear d hh X l;obtain⟨p,c,aJ,hn,hm⟩:=H.ra.AT.form;subst aJ;have O:=Hc a g;have K:Hid (Rd a .i64 (.slice p s.ids.length c) s.ids):=aa (H.ra.AT.ext g);have U:=aa (H.bx.ext g);have ai:b < a.heap.size:=U.lt;have an:=aa ai;have HN:=aa (et a 3 a.heap.size (DH _) 1);have u:=aa (ae a (.cells #[] 3));have aj:(a.alloc (.cells #[] 3)).cell? ⟨b,1,none⟩=some (.slice p s.ids.length c):=((aD u).1 _ 1 ai).trans O;obtain⟨n,m⟩:=exq s.ids.length;have M:=aa m;rw[<-m]at O aj;have K:Hid (bh a (.slice p n c) n (ao .i64 s.ids)):=aa (by rw[m];exact K);have j:Hid (n<=1048576):=aa (by rw[m];exact j);clear m hn hm
 go_wp2_with (with_reducible refine ax ?_)
 clear O aj;refine au ?_;refine aZ za HN (K.ext u) rfl rfl (by rw[ints_length,M.out];omega) (aF _ _) (by have:=j.out;unfold DV;omega) (by have:=j.out;omega) u.size ?_;intro p4 c4 o P aB ab av aG ay;rw[DY,EG]at P;rw[DY];have Z:az a o:=Ei u ab;have N:=aa (aR P (ae o (.cells #[.int .i64 x] 3)));have L:=aa (fe o 3 .i64 x);have z:Hid (az a (o.alloc (.cells #[.int .i64 x] 3))):=aa (Z.trans (ae _ _));clear Z P aB ab av aG ay
 go_wp2_with (with_reducible refine ax ?_)
 obtain⟨W5,ah⟩:=exq (o.alloc (.cells #[.int .i64 x] 3));rw[<-ah]at N L z⊢;clear ah;refine au ?_;refine aZ za N L rfl rfl rfl (aF _ _) (by have:=j.out;unfold DV;omega) (by have:=j.out;omega) z.size ?_;intro G A r R aC ac aw aH aA;rw[<-aT]at R;have J:Hid (az a r):=aa (Ei z ac);have Y:=aa R;have I:=aa (U.ext J);have aQ:=I.cell (i:=1) (v:=.slice p n c) (by rw[M.out];rfl);have aP:=I.fz (i:=1) (show 1 < 2 by decide);clear R aC ac aw aH aA N L z
 go_wp2_with fail
 go_ret;unfold zR;refine⟨by rw[f.out]<;>rfl,?_⟩;rw[f.out,if_pos rfl];have E:Kq (fun i=>i=b) w (r.setCell ⟨b,1,none⟩ (.slice G (n+1) A)):=(Kq.AI (g.trans J)).setCell (Q:=fun i=>i=b) ⟨b,1,none⟩ rfl _;refine⟨⟨.slice G (n+1) A,?_⟩,E,(ka.AI (g.trans J)).set (i:=1) (by decide) _⟩;have aI:¬(fun i=>F i\/w.heap.size<=i) b:=fun q=>q.elim H.nb fun q=>by have:=H.bx.lt;omega
 have ag:∀i,F i->i < w.heap.size->(F i\/w.heap.size<=i)/\(r.setCell ⟨b,1,none⟩ (.slice G (n+1) A)).heap[i]? =w.heap[i]? :=fun i C al=>⟨.inl C,E.block i al fun q=>H.nb (q▸C)⟩
 refine⟨?_,H.ro.kept ag,fun y hy=>(H.ok y hy).kept ag,H.eq,?_,aq,aI⟩
 ·exact I.put (i:=1) (show 1 < 2 by decide) _
 ·have h6:aS (fun i=>a.heap.size<=i) r (.slice G (n+1) A) (n+1) (ao .i64 (s.ids++[x])):=aS.By (bh.AS Y) fun k E _=>(Y.lt k E).1
  have hlen:(s.ids++[x]).length=n+1:=by rw[DS,M.out];rfl
  show aS _ _ _ (s.ids++[x]).length _;rw[hlen];exact h6.kept fun i C al=>⟨.inr (D0 g.size C),Ff r ⟨b,1,none⟩ _ i (by have:=an.out;show i≠b;omega)⟩
abbrev yb:=Nat × Nat × (DG->DF->Prop)
def eT:(DF->Prop)->List yb->(Nat->Bool)->(Nat->DG)->DF->Prop
 | S,[],_,_,w=>S w
 | S,x :: r,d,u,w=>(d x.1=false->S w)/\(d x.1=true->eT (x.2.2 (u x.2.1)) r d u w)
def BA (d:Nat->Bool):List yb->Prop
 | []=>True
 | x :: r=>d x.1=true/\BA d r
def zS (d:Nat->Bool):List yb->Prop
 | []=>True
 | x :: _=>d x.1=false
theorem eT.start:∀ {S:DF->Prop} {l:List yb} {u:Nat->DG} {w:DF},S w->eT S l (fun _=>false) u w
 | _,[],_,_,h=>h
 | _,_ :: _,_,_,h=>⟨fun _=>h,fun q=>(by cases q)⟩
theorem eT.same {v:DG}:∀ {S:DF->Prop} {l:List yb} {d:Nat->Bool} {u:Nat->DG} {w:DF},eT S l d u w->(l.all fun x=>decide (x.1≠i)&&decide (x.2.1≠t))=true->eT S l (bD d i) (aQ (some t) u v) w
 | _,[],_,_,_,h,_=>h
 | S,x :: r,d,u,w,h,hi=>by
  simp only[List.all_cons,Ek,decide_eq_true_eq]at hi;obtain⟨⟨h1,h2⟩,c⟩:=hi;have a:bD d i x.1=d x.1:=if_neg h1;have b:aQ (some t) u v x.2.1=u x.2.1:=if_neg h2;show(bD d i x.1=false->S w)/\(bD d i x.1=true->eT (x.2.2 (aQ (some t) u v x.2.1)) r (bD d i) (aQ (some t) u v) w);rw[a,b];exact⟨h.1,fun q=>eT.same (h.2 q) c⟩
theorem eT.set {P:DG->DF->Prop} {b:List yb} {v:DG} {d:Nat->Bool} {u:Nat->DG} {w:DF} (e:zS d b) (c:(b.all fun x=>decide (x.1≠i))=true) (g:P v w):∀ {S:DF->Prop} {a:List yb},BA d a->(a.all fun x=>decide (x.1≠i)&&decide (x.2.1≠t))=true->eT S (a++(i,t,P) :: b) (bD d i) (aQ (some t) u v) w
 | S,[],_,_=>by
  have f:bD d i i=true:=if_pos rfl;have h:aQ (some t) u v t=v:=if_pos rfl;show(bD d i i=false->S w)/\(bD d i i=true->eT (P (aQ (some t) u v t)) b (bD d i) (aQ (some t) u v) w);rw[f,h];refine⟨fun q=>(by cases q),fun _=> ?_⟩
  match b,e,c with
  | [],_,_=>exact g
  | x :: r,e,c=>simp only[List.all_cons,Ek,decide_eq_true_eq]at c;have a2:bD d i x.1=d x.1:=if_neg c.1;show(bD d i x.1=false->P v w)/\(bD d i x.1=true->_);rw[a2,show d x.1=false from e];exact⟨fun _=>g,fun q=>(by cases q)⟩
 | S,x :: r,ha,hi=>by simp only[List.all_cons,Ek,decide_eq_true_eq]at hi;obtain⟨⟨h1,h2⟩,j⟩:=hi;have f:bD d i x.1=d x.1:=if_neg h1;show(bD d i x.1=false->S w)/\(bD d i x.1=true->eT (x.2.2 (aQ (some t) u v x.2.1)) (r++(i,t,P) :: b) (bD d i) (aQ (some t) u v) w);rw[f,ha.1];exact⟨fun q=>(by cases q),fun _=>eT.set e c g ha.2 j⟩
section
variable {S:DF->Prop} {i t:Nat} {P:DG->DF->Prop} {x1 x2 x3 x4:yb} {r:List yb} {d:Nat->Bool} {u:Nat->DG} {v:DG} {w:DF}
theorem eT.s1 (b:P v w) (c:zS d r) (e:(r.all fun x=>decide (x.1≠i))=true):eT S ((i,t,P) :: r) (bD d i) (aQ (some t) u v) w:=eT.set (a:=[]) c e b trivial rfl
theorem eT.s2 (b:P v w) (h1:d x1.1=true) (c:zS d r) (e:(r.all fun x=>decide (x.1≠i))=true) (f:([x1].all fun x=>decide (x.1≠i)&&decide (x.2.1≠t))=true):eT S (x1 :: (i,t,P) :: r) (bD d i) (aQ (some t) u v) w:=eT.set (a:=[x1]) c e b ⟨h1,trivial⟩ f
theorem eT.s3 (b:P v w) (h1:d x1.1=true) (h2:d x2.1=true) (c:zS d r) (e:(r.all fun x=>decide (x.1≠i))=true) (f:([x1,x2].all fun x=>decide (x.1≠i)&&decide (x.2.1≠t))=true):eT S (x1 :: x2 :: (i,t,P) :: r) (bD d i) (aQ (some t) u v) w:=eT.set (a:=[x1,x2]) c e b ⟨h1,h2,trivial⟩ f
theorem eT.s4 (c:P v w) (h1:d x1.1=true) (h2:d x2.1=true) (b:d x3.1=true) (e:zS d r) (f:(r.all fun x=>decide (x.1≠i))=true) (g:([x1,x2,x3].all fun x=>decide (x.1≠i)&&decide (x.2.1≠t))=true):eT S (x1 :: x2 :: x3 :: (i,t,P) :: r) (bD d i) (aQ (some t) u v) w:=eT.set (a:=[x1,x2,x3]) e f c ⟨h1,h2,b,trivial⟩ g
theorem eT.s5 (e:P v w) (h1:d x1.1=true) (h2:d x2.1=true) (b:d x3.1=true) (c:d x4.1=true) (f:zS d r) (g:(r.all fun x=>decide (x.1≠i))=true) (h:([x1,x2,x3,x4].all fun x=>decide (x.1≠i)&&decide (x.2.1≠t))=true):eT S (x1 :: x2 :: x3 :: x4 :: (i,t,P) :: r) (bD d i) (aQ (some t) u v) w:=eT.set (a:=[x1,x2,x3,x4]) f g e ⟨h1,h2,b,c,trivial⟩ h
end
structure GQ {α :Type} (f: α ->List DG) (s:Nat) (Ok:(Nat->Prop)->DF-> α ->Prop) (A:Nat->Prop) (B:Nat) (w:DF) (X fi:Nat) (cs:List DG) (v:DG) (M:List α):Prop where
 box:av w X cs
 CC:cs[fi]? =some v
 own:Pk w B s v M.length (aw f M)
 ok:∀x∈M,Ok (fun b=>b≠X/\v.ownBlock≠some b/\A b) w x
 ne:v.ownBlock≠some X
section
variable {α :Type} {f: α ->List DG} {s:Nat} {Ok:(Nat->Prop)->DF-> α ->Prop} {A:Nat->Prop} {B:Nat} {w w1 w2:DF} {X fi:Nat} {cs:List DG} {v v':DG} {M:List α} {y: α}
theorem GQ.ext (c:fG Ok) (h:GQ f s Ok A B w X fi cs v M) (a:az w w1):GQ f s Ok A B w1 X fi cs v M:=
 ⟨h.box.ext a,h.CC,h.own.ext a,fun x hx=>c _ _ _ _ _ (h.ok x hx) fun b d e=>⟨d,a.block b e⟩,h.ne⟩
theorem GQ.start (a:av w X cs) (b:cs[fi]? =some (.slice none 0 0)):GQ f s Ok A B w X fi cs (.slice none 0 0) []:=
 ⟨a,b,Pk.nil _ _ _,fun x hx=>(by cases hx),fun q=>(by cases q)⟩
theorem GQ.lt (h:GQ f s Ok A B w X fi cs v M):fi < cs.length:=(List.getElem?_eq_some_iff.1 h.CC).1
theorem GQ.cell (h:GQ f s Ok A B w X fi cs v M):w.cell? ⟨X,fi,none⟩=some v:=h.box.cell h.CC
theorem GQ.Cz (h:GQ f s Ok A B w1 X fi cs v M) (a:w1.grownBy w2 v.ownBlock):av w2 X cs:=h.box.grown a (fun q=>h.ne q)
theorem GQ.form (h:GQ f s Ok A B w X fi cs v M):∃p c,v=.slice p M.length c:=by
 obtain⟨p,c,h1,_⟩:=h.own.AT.form;exact⟨p,c,h1⟩
theorem GQ.push (d:fG Ok) (h:GQ f s Ok A B w1 X fi cs v M) (n:Pk w2 B s v' (M.length+1) (aw f M++f y)) (e:w1.grownBy w2 v.ownBlock) (i:∀k,v'.ownBlock=some k->v.ownBlock=some k\/w1.heap.size<=k) (hy:Ok (fun b=>b≠X/\v.ownBlock≠some b/\A b) w1 y):
  GQ f s Ok A B (w2.setCell ⟨X,fi,none⟩ v') X fi (cs.set fi v') v' (M++[y]):=by
 have l:v'.ownBlock≠some X:=fun q=>by
  rcases i X q with z | z
  ·exact h.ne z
  ·have:=h.box.lt;omega
 have g:∀j,j≠X->(w2.setCell ⟨X,fi,none⟩ v').heap[j]? =w2.heap[j]? :=fun j c=>Ff w2 ⟨X,fi,none⟩ _ j c
 have o:w2.heap.size<=(w2.setCell ⟨X,fi,none⟩ v').heap.size:=((DI 0 w2).setCell (DZ _) _).size;refine⟨(h.Cz e).put h.lt v',by rw[List.getElem?_set_self h.lt],?_,fun x hx=> ?_,l⟩
 ·rw[DS,Ez,di,gO];exact n.kept (fun j c=>g j (fun q=>l (by rw[c,q]))) o
 ·have key:∀b,(b≠X/\v.ownBlock≠some b/\A b)->b < w1.heap.size->(b≠X/\v'.ownBlock≠some b/\A b)/\(w2.setCell ⟨X,fi,none⟩ v').heap[b]? =w1.heap[b]? :=fun b a m=>by
   refine⟨⟨a.1,fun q=> ?_,a.2.2⟩,?_⟩
   ·rcases i b q with z | z
    ·exact a.2.1 z
    ·omega
   ·rw[g b a.1];exact e.block b m (fun q=>a.2.1 q.symm)
  rcases EL.1 hx with hx | hx
  ·exact d _ _ _ _ _ (h.ok x hx) key
  ·obtain rfl:x=y:=by simpa using hx
   exact d _ _ _ _ _ hy key
end
section
variable {α :Type} (f: α ->List DG) (s:Nat) (Ok:(Nat->Prop)->DF-> α ->Prop) (A:Nat->Prop) (B Y fi:Nat) (cs:List DG) (vr:DG) (M:List α) (Pr: α ->Prop)
def A0 (w:DF):Prop:=GQ f s Ok A B w Y fi cs vr M/\B<=w.heap.size
def A1 (v:DG) (w:DF):Prop:=∃y,Pr y/\v.cells=(f y).toArray/\(f y).length=s/\(∀c∈f y,c.oneCell'=true)/\Ok (fun b=>b≠Y/\vr.ownBlock≠some b/\A b) w y/\A0 f s Ok A B Y fi cs vr M w
def A2 (v:DG) (w:DF):Prop:=∃y g,v=.slice (some ⟨g,0,none⟩) 1 1/\w.rangeAt g 0 (f y)/\Pr y/\(f y).length=s/\(∀c∈f y,c.oneCell'=true)/\Ok (fun b=>b≠Y/\vr.ownBlock≠some b/\A b) w y/\A0 f s Ok A B Y fi cs vr M w
def A3 (v:DG) (w:DF):Prop:=∃y p c,v=.slice p (M.length+1) c/\Pr y/\w.cell? ⟨Y,fi,none⟩=some vr/\w.frozen? ⟨Y,fi,none⟩=false/\GQ f s Ok A B (w.setCell ⟨Y,fi,none⟩ v) Y fi (cs.set fi v) v (M++[y])
end
section
variable {α :Type} {f: α ->List DG} {s:Nat} {Ok:(Nat->Prop)->DF-> α ->Prop} {A:Nat->Prop} {B Y fi:Nat} {cs:List DG} {vr:DG} {M:List α} {Pr: α ->Prop} {w w':DF}
theorem A0.ext (b:fG Ok) (h:A0 f s Ok A B Y fi cs vr M w) (a:az w w'):A0 f s Ok A B Y fi cs vr M w':=⟨h.1.ext b a,D0 h.2 a.size⟩
theorem A1.size {v:DG} (h:A1 f s Ok A B Y fi cs vr M Pr v w):v.cells.size=s:=by
 obtain⟨y,_,h2,a,_⟩:=h;rw[h2];simpa using a
theorem A1.a2 (c:fG Ok) {v:DG} (h:A1 f s Ok A B Y fi cs vr M Pr v w) (e:Ec):A2 f s Ok A B Y fi cs vr M Pr (.slice (some ⟨w.heap.size,0,none⟩) 1 1) (w.alloc (.cells v.cells e)):=by
 obtain⟨y,h1,h2,d,g,i,k⟩:=h;have a:=ae w (.cells v.cells e);refine⟨y,w.heap.size,rfl,fun j u hu=> ?_,h1,d,g,c _ _ _ _ _ i fun b l m=>⟨l,a.block b m⟩,k.ext c a⟩;rw[DY,D6,h2];simpa using hu
end
section
variable {P:Ee} {R:DF->DF->Prop} {α :Type} {f: α ->List DG} {s:Nat} {Ok:(Nat->Prop)->DF-> α ->Prop} {A:Nat->Prop} {B Y fi:Nat} {cs:List DG} {vr:DG} {M:List α} {Pr: α ->Prop} {w:DF} {ev:Nat->DG} {φ :DG->DF->Prop} {d:Option Tmp} {tt t e:Ec} {z:DG} {bytes n:Nat} {pp:String} {af:Array Edge} {g:Option (Nat × Bool)} {x y:Fu}
theorem pT (D:jE P t e z s bytes) (C:fG Ok) {v2:DG} (F:A2 f s Ok A B Y fi cs vr M Pr v2 w) (hy:aX ev y=v2) (hx:aX ev x=vr) (hlen:M.length+1<=DV) (E:(M.length+1)*bytes<=140737488355328)
  (I:∀i w',Kq (fun k=>B<=k) w w'->A3 f s Ok A B Y fi cs vr M Pr i w'->R w w'/\ φ i w'):
  dU R P w φ ((Fg (aX ev) ⟨d,.call {callee:=.builtin .append,args:=#[x,y],argTypes:=#[t,t]},tt,pp,af,g⟩).run P w):=by
 obtain⟨a,b,h1,h2,n,o,q,r,h,u⟩:=F;refine dy D h.own h2 (by rw[o,Nat.one_mul]) q (by decide) hlen E u hx (hy.trans h1) fun i w' m j J=> ?_
 have v:Kq (fun k=>B<=k) w w':=Kq.grown j fun k H=>(h.own.block k H).1
 obtain⟨p,c,G,_⟩:=m.AT.form;have l:=h.Cz j;exact I i w' v ⟨a,p,c,G,n,l.cell h.CC,l.fz h.lt,h.push C m j J r⟩
theorem mj {i j k:Nat} {u:Fu} {b c a v:DG} {ty:Ec} (f:∀w,R w w) (hx:aX ev x=b) (hy:aX ev y=c) (hu:aX ev u=a) (e:(GI ty #[(i,b),(j,c),(k,a)]).run P w=.ok v w) (h: φ v w):
  dU R P w φ ((Fg (aX ev) ⟨d,.build ty #[(i,x),(j,y),(k,u)],tt,pp,af,g⟩).run P w):=by
 unfold Fg;simp only[hx,hy,hu,Fx,E2,FI,E0,E7,e,Ey];exact⟨f _,h⟩
theorem jC {i0 i1 i2 i3 i4:Nat} {c:DG} {u o:Fu} {e f b a v:DG} {ty:Ec} (k:∀w,R w w) (hx:aX ev x=e) (hy:aX ev y=f) (hu:aX ev u=b) (j:aX ev o=a) (h:(GI ty #[(i0,c),(i1,e),(i2,f),(i3,b),(i4,a)]).run P w=.ok v w) (l: φ v w):
  dU R P w φ ((Fg (aX ev) ⟨d,.build ty #[(i0,.const c),(i1,x),(i2,y),(i3,u),(i4,o)],tt,pp,af,g⟩).run P w):=by
 unfold Fg;have i:aX ev (.const c)=c:=rfl;simp only[i,hx,hy,hu,j,Fx,E2,FI,E0,E7,h,Ey];exact⟨k _,l⟩
def yc {α :Type} (f: α ->List DG) (s:Nat) (Ok:(Nat->Prop)->DF-> α ->Prop) (A:Nat->Prop) (B Y fi:Nat) (cs:List DG) (vr:DG) (M:List α) (vw:DG) (pth:List (List Int)) (w:DF):Prop:=A0 f s Ok A B Y fi cs vr M w/\aS (fun b=>b≠Y/\vr.ownBlock≠some b/\A b) w vw pth.length (aN pth)
def yQ {α :Type} (f: α ->List DG) (s:Nat) (Ok:(Nat->Prop)->DF-> α ->Prop) (A:Nat->Prop) (B Y fi:Nat) (cs:List DG) (vr:DG) (M:List α) (vw:DG) (pth:List (List Int)) (st:List Int) (v:DG) (w:DF):Prop:=aS (fun b=>b≠Y/\vr.ownBlock≠some b/\A b) w v st.length (ao .u8 st)/\yc f s Ok A B Y fi cs vr M vw pth w
theorem yc.ext {α :Type} {f: α ->List DG} {s:Nat} {a:(Nat->Prop)->DF-> α ->Prop} {A:Nat->Prop} {B Y c:Nat} {cs:List DG} {g:DG} {M:List α} {i:DG} {e:List (List Int)} {w w':DF} (j:fG a) (h:yc f s a A B Y c cs g M i e w) (d:az w w'):yc f s a A B Y c cs g M i e w':=⟨h.1.ext j d,h.2.kept fun b k l=>⟨k,d.block b l⟩⟩
theorem yQ.a1 {A:Nat->Prop} {B Y i:Nat} {cs:List DG} {j:DG} {M:List Sv} {p:Int} {g f:Option Addr} {d b:Nat} {a:List (List Int)} {st:List Int} {w:DF} (h:yQ cS 3 ez A B Y i cs j M (.slice g a.length d) a st (.slice f st.length b) w) (k:bA st) (l:dm a):A1 cS 3 ez A B Y i cs j M (fun y=>cf y=(p,st,a)) (.agg #[.int .i64 p,.slice f st.length b,.slice g a.length d]) w:=
 ⟨(p,(.slice f st.length b,st),.slice g a.length d,a),rfl,rfl,rfl,fun c e=>by
  unfold cS at e;simp only[Es,ED,or_false]at e
  rcases e with rfl | rfl | rfl<;>rfl,⟨h.1,k,h.2.2,l⟩,h.2.1⟩
theorem yQ.Dw {A:Nat->Prop} {B Y d:Nat} {cs:List DG} {g:DG} {M:List Sv} {p:Int} {f e:Option Addr} {c b:Nat} {a:List (List Int)} {st:List Int} {v:DG} {w:DF} (h:yQ cS 3 ez A B Y d cs g M (.slice f a.length c) a st v w) (k:v=.slice e st.length b) (i:bA st) (j:dm a):A1 cS 3 ez A B Y d cs g M (fun y=>cf y=(p,st,a)) (.agg #[.int .i64 p,.slice e st.length b,.slice f a.length c]) w:=by
 subst k;exact h.a1 i j
end
section
variable {P:Ee} {ops:Array Oper} {rest:List Oper} {a:Act} {w w':DF} {Q:Exit->Act->DF->Prop} {d:Option Tmp} {tt t t2:Ec} {pp:String} {af:Array Edge} {s x:Fu} {v u r:DG}
theorem ml {args:Array Fu} {b:Array Ec} (h:jF (Fl P ops Q (⟨d,.call {callee:=.builtin .clear,args:=args,argTypes:=b},tt,pp,af,none⟩ :: rest) a w)):Fl P ops Q (⟨d,.call {callee:=.builtin .clear,args:=args,argTypes:=b},tt,pp,af,none⟩ :: rest) a w:=h
theorem nN (c:∀ty,(Builtin.clear_ #[t] ty #[v]).run P w=.ok r w') (e:a.eval s=v) (h:Fl P ops Q rest (a.put d r) w'):
  Fl P ops Q (⟨d,.call {callee:=.builtin .clear,args:=#[s],argTypes:=#[t]},tt,pp,af,none⟩ :: rest) a w:=
 wpList_plain rfl fun K b=>by
  unfold Oper.wp Fg;simp only[resolve,invoke,builtin,E0,E7,Ey,Fx,E2,FI,e,c];exact b _ _ h
theorem mS {e:Ec} {z:DG} {cs:List DG} {b o c:Nat} (g:P.underlying t=some (.slice e)) (h:∀w,(zeroValue e).run P w=.ok z w) (i:(Builtin.zeroCells z.cells 1).toList=cs) (h1:∀c∈cs,c.oneCell'=true)
  (d:∀j,j < cs.length->(w.cell? ⟨b,o+j,none⟩).isSome=true) (f:∀j,j < cs.length->w.frozen? ⟨b,o+j,none⟩=false) (ty:Ec):
  (Builtin.clear_ #[t] ty #[.slice (some ⟨b,o,none⟩) 1 c]).run P w=.ok (.tuple #[]) (w.setCells b o cs):=by
 have a:=run_storeCells_cells (P:=P) b o cs 0 w (by simpa using d) (by simpa using f) h1;simp only[Nat.add_zero]at a;simp[Builtin.clear_,run_underlying g,h,i,a]
theorem mm {R:DF->DF->Prop} {a:Nat->DG} {φ :DG->DF->Prop} {g:Option (Nat × Bool)} (b:∀ty,(FY #[t,t2] ty #[v,u]).run P w=.ok r w') (c:aX a s=v) (hx:aX a x=u) (e:R w w'/\ φ r w'):
  dU R P w φ ((Fg (aX a) ⟨d,.call {callee:=.builtin .append,args:=#[s,x],argTypes:=#[t,t2]},tt,pp,af,g⟩).run P w):=by
 unfold Fg;simp only[resolve,invoke,builtin,E0,E7,Ey,Fx,E2,FI,c,hx,b];exact e
end
theorem pU {w:DF} {A B:List DG} (h:w.rangeAt g o A) (k:w.rangeAt g (o+A.length) B):w.rangeAt g o (A++B):=fun j u hu=>by
 by_cases a:j < A.length
 ·rw[List.getElem?_append_left a]at hu;exact h j u hu
 ·rw[List.getElem?_append_right (by omega)]at hu;have:=k (j - A.length) u hu;rwa[show o+A.length+(j - A.length)=o+j by omega]at this
theorem fL (L:List Sv) (i:Nat):aw cS (L.eraseIdx i)=aw cS (L.take i)++aw cS (L.drop (i+1)):=by
 rw[List.eraseIdx_eq_take_drop_succ,di]
theorem yd (w:DF):(zeroValue 57).run DE w=.ok (.agg fj) w:=by kernel_rfl
theorem ye (g cap n m N1 i:Nat) (L:List Sv) (w:DF) (W:Pk w N1 3 (.slice (some ⟨g,0,none⟩) n cap) n (aw cS L)) (hL:L.length=n) (hi:n=i+1+m) (hn:n<=30) (Z:∀c∈aw cS L,c.oneCell'=true):
  DN DE 113 #[.slice (some ⟨g,0,none⟩) n cap,.int .i64 i,.int .i64 (i+1)] w fun e w'=>e=.returned (.slice (some ⟨g,0,none⟩) (i+m) cap)/\w'.rangeAt g 0 (aw cS (L.eraseIdx i))/\Kq (fun k=>k=g) w w':=by
 subst hi;have ap:w.rangeAt g 0 (aw cS L)/\w.there g 0 (cap*3)/\i+1+m<=cap/\cap<=DV:=by
  rcases W with ⟨q,_⟩ | ⟨g',aB,hf,_,hp⟩
  ·cases q
  ·injection hf with I _ ax;injection I with I;injection I with I;subst I ax;exact⟨hp.rg,hp.th,hp.le,hp.mx⟩
 obtain⟨ac,ae,aM,aq⟩:=ap;have HS:=aa (And.intro ac ae);obtain⟨news,C⟩:=exq (aw cS (L.drop (i+1)));have y:news.length=m*3:=by rw[C,dj,DR,hL];omega
 have Y:∀c∈news,c.oneCell'=true:=fun c z=>by rw[C,<-eQ (s:=3) (fun x _=>bz x)]at z;exact Z c (FL z)
 have ad:∀l:DF,l.rangeAt g 0 (aw cS L)->l.rangeAt g ((i+1)*3) news:=fun l h=>by have h2:=ch h ((i+1)*3);rw[eQ (s:=3) (fun x _=>bz x),<-C,DY]at h2;exact h2
 have ab:∀l:DF,l.rangeAt g 0 (aw cS L)->l.rangeAt g 0 (aw cS (L.take i)):=fun l h=>by have h2:=cU h (i*3);rw[iH (s:=3) (fun x _=>bz x)]at h2;exact h2
 have J:(aw cS (L.take i)).length=i*3:=by rw[dj,DX,hL,Nat.min_eq_left (by omega)]
 have ai:Hid (∀l:DF,(l.rangeAt g 0 (aw cS L)/\l.there g 0 (cap*3))->(l.setCells g (0+i*3) news).rangeAt g 0 (aw cS (L.eraseIdx i))/\(l.setCells g (0+i*3) news).there g 0 (cap*3)):=aa fun l h2=>by
  refine⟨?_,World.there_setCells h2.2 _ _ _⟩;rw[fL,<-C];refine pU (FB (ab l h2.1) g (0+i*3) news (.inr (.inl (by rw[J];omega)))) ?_;rw[J]
  exact World.rangeAt_setCells_same l g (0+i*3) news (fun j r=>by
   have:=h2.2 (i*3+j) (by rw[y]at r;omega)
   rwa[<-FX]at this)
 obtain⟨i0,X,ak,D,al⟩:=Gq pg.info;have K:∀(A:Addr) (c:Nat) (l:DF),(m=0\/A=⟨g,(i+1)*3,none⟩)->(l.rangeAt g 0 (aw cS L)/\l.there g 0 (cap*3))->∀ty,(FY #[24,24] ty #[.slice (some ⟨g,0,none⟩) i cap,.slice (some A) m c]).run DE l=.ok (.slice (some ⟨g,0,none⟩) (i+m) cap) (l.setCells g (0+i*3) news):=fun A c l hA h2 ty=>by
  have h:=run_append_room_cells (P:=DE) l 24 ty 57 i0 pg.ht X g 0 i cap A m c news (by rw[D];exact y) (fun j u r=>by
   rcases hA with rfl | rfl
   ·have aA:news=[]:=Ed.1 (by simpa using y);rw[aA]at r;simp at r
   ·rw[Ft];exact ad l h2.1 j u r) Y (by omega) (fun j r=>(by
    rw[D];have:=(h2.2 (i*3+j) (by rw[y]at r;omega)).1
    rwa[<-FX]at this)) (fun j r=>(by
    rw[D];have:=(h2.2 (i*3+j) (by rw[y]at r;omega)).2
    rwa[<-FX]at this))
  rw[D]at h;exact h
 have ag:Hid (∀(c:Nat) (l:DF),l.there g 0 (cap*3)->∀ty,(Builtin.clear_ #[24] ty #[.slice (some ⟨g,(i+m)*3,none⟩) 1 c]).run DE l=.ok (.tuple #[]) (l.setCells g ((i+m)*3) fj.toList)):=aa fun c l h ty=>mS (P:=DE) (cs:=fj.toList) pg.ht yd (by kernel_rfl) (fun c z=>by
   simp only[Es,ED,or_false]at z
   rcases z with rfl | rfl | rfl<;>rfl) (fun j r=>by
   have:=(h ((i+m)*3+j) (by have:j < 3:=r;omega)).1
   rwa[DY]at this) (fun j r=>by
   have:=(h ((i+m)*3+j) (by have:j < 3:=r;omega)).2
   rwa[DY]at this) ty
 have ah:Hid ((aw cS (L.eraseIdx i)).length=(i+m)*3):=aa (by rw[fL,<-C,DS,J,y];omega);have h0:(0:Int)<=(i:Int):=by omega
 have h1:(i:Int)+1<=(i:Int)+1+(m:Int):=by omega
 have h4:(0:Int)<=(i:Int)+1:=by omega
 have h2:(i:Int)+1+(m:Int)<=(cap:Int):=by omega
 have h3:(i:Int)+1+(m:Int)<=30:=by omega
 have h5:i<=cap:=by omega
 have h6:(i:Int)<=(i:Int)+1:=by omega
 have h7:(i:Int)+(m:Int)<=(i:Int)+1+(m:Int):=by omega
 have h8:(0:Int)<=(i:Int)+(m:Int):=by omega
 have h9:¬(cap - (i+m)=0):=by omega
 unfold DV at aq;by_cases z:cap=i+1
 ·obtain rfl:m=0:=by omega
  have S:Hid (∀l:DF,_->∀ty,_):=aa (fun(l:DF)=>K ⟨g,0,none⟩ 0 l (.inl rfl));subst z;clear W ac ae C y Y ad ab J K Z X ak D al;go_enter Tryz.func113,Tryz.ntmps113
  go_wp2_with fail
  apply ay (Kq (fun k=>k=g)) (HJ 6 (fun w'=>w'.rangeAt g 0 (aw cS L)/\w'.there g 0 ((i+1)*3)) (fun w'=>w'.rangeAt g 0 (aw cS (L.eraseIdx i))/\w'.there g 0 ((i+1)*3))) 7 [20,21,22,23,24,25,26] [ar _,ar _,ar _,ar _,ar _,ar _,ar _] (fun w=>Kq.refl w) (fun a b c h k=>Kq.trans h k) (by kernel_rfl) (by kernel_rfl) (by kernel_rfl) (by kernel_rfl);case hsteps=>
   refine⟨?_,?_,?_,?_,?_,?_,?_,trivial⟩;all_goals
    intro d ev o B p F G v t f;replace F:=aa F;replace p:=aa p;replace G:=aa G;replace v:=aa v;have T:=t 0 (by decide);have U:=t 1 (by decide);have V:=t 2 (by decide);clear t;simp only[sB]at T U V;simp only[sG]at f;rw[if_pos (rfl:DP _ _=true)];first
    | ((with_reducible refine mm (S.out o (HJ.get p.out v.out)) ?_ ?_ ?_);exact(by first | ((repeat(first | exact f | exact f.2 | replace f:=f.1));done) | (repeat(first | exact f | exact f.1 | replace f:=f.2)));exact(by first | ((repeat(first | exact f | exact f.2 | replace f:=f.1));done) | (repeat(first | exact f | exact f.1 | replace f:=f.2)));exact⟨(Kq.refl o).setCells (Q:=fun k=>k=g) rfl _ _,rfl,HJ.set (ai o (HJ.get p v))⟩)
    | (go_simp;first | exact⟨Kq.refl _,rfl,HJ.same (by decide) p⟩ | exact⟨DI _ _,rfl,HJ.same (by decide) p⟩)
  case hmono=>exact mR
  case hR0=>exact Kq.drew _
  case hend=>
   intro u o B H hend;simp only[sE]at hend;simp only[sF,hend];have E:=aa (HJ.CE H rfl);have M:=aa B;have R:=aa (ag (1) o E.2);have N:Hid (Kq (fun k=>k=g) w (o.setCells g ((i+0)*3) fj.toList)):=aa (M.setCells (Q:=fun k=>k=g) rfl _ _);have O:Hid ((o.setCells g ((i+0)*3) fj.toList).rangeAt g 0 (aw cS (L.eraseIdx i))):=aa (FB E.1 g _ _ (.inr (.inl (by rw[ah.out];omega))));clear B H hend
   go_wp2_with (with_reducible refine ml ?_)
   refine au ?_;try rw[show i+1+0 - (i+0)=1 by omega]
   refine nN R rfl ?_
   go_wp2_with fail
   go_ret;exact⟨rfl,O,N⟩
  case hJ0=>exact HJ.start HS
 ·have aK:¬(cap - (i+1)=0):=by omega
  have S:Hid (∀l:DF,_->∀ty,_):=aa (fun(l:DF)=>K ⟨g,(i+1)*3,none⟩ (cap - (i+1)) l (.inr rfl));clear W ac ae C y Y ad ab J K Z X ak D al;go_enter Tryz.func113,Tryz.ntmps113
  go_wp2_with fail
  apply ay (Kq (fun k=>k=g)) (HJ 6 (fun w'=>w'.rangeAt g 0 (aw cS L)/\w'.there g 0 (cap*3)) (fun w'=>w'.rangeAt g 0 (aw cS (L.eraseIdx i))/\w'.there g 0 (cap*3))) 7 [20,21,22,23,24,25,26] [ar _,ar _,ar _,ar _,ar _,ar _,ar _] (fun w=>Kq.refl w) (fun a b c h k=>Kq.trans h k) (by kernel_rfl) (by kernel_rfl) (by kernel_rfl) (by kernel_rfl);case hsteps=>
   refine⟨?_,?_,?_,?_,?_,?_,?_,trivial⟩;all_goals
    intro d ev o B p F G v t f;replace F:=aa F;replace p:=aa p;replace G:=aa G;replace v:=aa v;have T:=t 0 (by decide);have U:=t 1 (by decide);have V:=t 2 (by decide);clear t;simp only[sB]at T U V;simp only[sG]at f;rw[if_pos (rfl:DP _ _=true)];first
    | ((with_reducible refine mm (S.out o (HJ.get p.out v.out)) ?_ ?_ ?_);exact(by first | ((repeat(first | exact f | exact f.2 | replace f:=f.1));done) | (repeat(first | exact f | exact f.1 | replace f:=f.2)));exact(by first | ((repeat(first | exact f | exact f.2 | replace f:=f.1));done) | (repeat(first | exact f | exact f.1 | replace f:=f.2)));exact⟨(Kq.refl o).setCells (Q:=fun k=>k=g) rfl _ _,rfl,HJ.set (ai o (HJ.get p v))⟩)
    | (go_simp;first | exact⟨Kq.refl _,rfl,HJ.same (by decide) p⟩ | exact⟨DI _ _,rfl,HJ.same (by decide) p⟩)
  case hmono=>exact mR
  case hR0=>exact Kq.drew _
  case hend=>
   intro u o B H hend;simp only[sE]at hend;simp only[sF,hend];have E:=aa (HJ.CE H rfl);have M:=aa B;have R:=aa (ag (cap - (i+m)) o E.2);have N:Hid (Kq (fun k=>k=g) w (o.setCells g ((i+m)*3) fj.toList)):=aa (M.setCells (Q:=fun k=>k=g) rfl _ _);have O:Hid ((o.setCells g ((i+m)*3) fj.toList).rangeAt g 0 (aw cS (L.eraseIdx i))):=aa (FB E.1 g _ _ (.inr (.inl (by rw[ah.out];omega))));clear B H hend
   go_wp2_with (with_reducible refine ml ?_)
   refine au ?_;rw[show i+1+m - (i+m)=1 by omega];refine nN R rfl ?_
   go_wp2_with fail
   go_ret;exact⟨rfl,O,N⟩
  case hJ0=>exact HJ.start HS
def zi (k at' y:Int) (l:Cp) (vp vb:DG) (P B:Nat) (w:DF) (e:Ending) (w':DF):Prop:=e=.returned (.tuple #[])/\∃vs2 L2,av w' P (cL (dN k at' y l) vp vs2 vb)/\bZ (fun b=>B<=b) w' (dN k at' y l) vp vs2 vb L2/\Kq (fun k=>k=P\/B<=k) w w'
theorem mn {α :Type} (d: α) (L:List α) (i:Nat) (h:i < L.length):L.set i (L.getD i d)=L:=by
 rw[oF L i _ h,<-oE d L i h]
theorem sQ (L:List Sv) (i:Nat) (c:i < L.length) (a b:DG) (st:List Int) (pa:List (List Int)):((aw cS L).set (i*3+1) a).set (i*3+2) b=aw cS (L.set i ((L.getD i s0).1,(a,st),b,pa)):=by
 rw[cQ bz s0 ((L.getD i s0).1,(a,st),(L.getD i s0).2.2.1,pa) a 1 (by decide) L i c rfl];rw[cQ bz s0 ((L.getD i s0).1,(a,st),b,pa) b 2 (by decide) _ i (by rw[Ea];exact c) (by rw[ja s0 _ L i c];rfl),List.set_set]
theorem Pk.there {w:DF} {base size m:Nat} {xs:List DG} (h:Pk w base size (.slice (some ⟨g,0,none⟩) n cap) n xs) (hm:m<=n*size):w.there g 0 m:=by
 rcases h with ⟨q,_,_⟩ | ⟨d,c,a,e,hp⟩
 ·cases q
 injection a with a _ b;injection a with a;injection a with a;subst a b;exact fun j f=>hp.th j (by have:=Nat.mul_le_mul_right size hp.le;omega)
def wN (L:List Sv) (i:Nat):List Sv:=(L.set i ((L.getD i s0).1,(L.getD 0 s0).2)).set 0 (((L.set i ((L.getD i s0).1,(L.getD 0 s0).2)).getD 0 s0).1,(L.getD i s0).2)
theorem yf (L:List Sv) (i:Nat):(wN L i).length=L.length:=by unfold wN;rw[Ea,Ea]
theorem rI (L:List Sv) (i:Nat) (h0:0 < L.length) (a:i < L.length):((((aw cS L).set (i*3+1) (L.getD 0 s0).2.1.1).set 1 (L.getD i s0).2.1.1).set (i*3+2) (L.getD 0 s0).2.2.1).set 2 (L.getD i s0).2.2.1=aw cS (wN L i):=by
 rw[List.set_comm (i:=1) (j:=i*3+2) _ _ (by omega),sQ L i a _ _ (L.getD 0 s0).2.1.2 (L.getD 0 s0).2.2.2];have h:=sQ (L.set i ((L.getD i s0).1,(L.getD 0 s0).2)) 0 (by rw[Ea];exact h0) (L.getD i s0).2.1.1 (L.getD i s0).2.2.1 (L.getD i s0).2.1.2 (L.getD i s0).2.2.2;rw[Gg,DY,DY]at h;exact h
theorem mT (L:List Sv) (i:Nat) (y:Sv) (a:i < L.length) (hy:y.1=(L.getD i s0).1):((L.set i y).getD 0 s0).1=(L.getD 0 s0).1:=by
 by_cases h:i=0
 ·subst h;rw[ja s0 y L 0 a,hy]
 ·rw[DJ,DJ,FA h]
theorem yg (L:List Sv) (i:Nat) (_h0:0 < L.length) (a:i < L.length):(wN L i).map cf=Aw (L.map cf) i:=by
 unfold wN Aw;rw[mT L i ((L.getD i s0).1,(L.getD 0 s0).2) a rfl,F8,F8,cR,cR];show((L.map cf).set i ((cf (L.getD i s0)).1,(cf (L.getD 0 s0)).2)).set 0 ((cf (L.getD 0 s0)).1,(cf (L.getD i s0)).2)=((L.map cf).set 0 ((cf (L.getD 0 s0)).1,(cf (L.getD i s0)).2)).set i ((cf (L.getD i s0)).1,(cf (L.getD 0 s0)).2);by_cases h:i=0
 ·subst h;rfl
 ·exact List.set_comm _ _ h
theorem yh {F:Nat->Prop} {w:DF} {L:List Sv} (h0:0 < L.length) (c:i < L.length) (h:∀x∈L,ez F w x):∀x∈wN L i,ez F w x:=fun x hx=>by
 have a:=h _ (aH s0 h0);have b:=h _ (aH s0 c);unfold wN at hx;rcases EJ hx with hx | rfl
 ·rcases EJ hx with hx | rfl
  ·exact h x hx
  ·exact⟨a.st,a.bs,a.pa,a.dg⟩
 ·exact⟨b.st,b.bs,b.pa,b.dg⟩
theorem la (ds:List (List Int)) (j:Nat) (x:Int) (h:0 < ds.length) (a:dm ds) (b:j < 32):(aN ds).set j (.int .u8 x)=aN (ds.set 0 ((ds.getD 0 []).set j x)):=by
 cases ds with
 | nil=>cases h
 | cons d r=>have c:=(a d (by simp)).1;show(ao .u8 d++aN r).set j _=ao .u8 (d.set j x)++aN r;rw[List.set_append_left _ _ (by rw[ints_length,c];exact b),dA]
theorem EP.Dt {b c:Nat} {w:DF} {d:DG} {pa:List (List Int)} (h:EP m1 m2 w (p,(.slice (some ⟨b,0,none⟩) n c,st),d,pa)) (a:n=st.length) (e:j < n) (hx:0<=x/\x<=255):EP m1 m2 (w.setCell ⟨b,j,none⟩ (.int .u8 x)) (p,(.slice (some ⟨b,0,none⟩) n c,st.set j x),d,pa):=by
 have g:=((DI 0 w).setCell (p:=⟨b,j,none⟩) (DZ _) (.int .u8 x)).size;refine⟨⟨?_,h.st.2⟩,⟨h.pa.1.kept (fun k f=>Ff w ⟨b,j,none⟩ _ k (fun q=>h.ne b rfl (by have q:k=b:=q;rw[<-q];exact f))) g,h.pa.2⟩,h.ne,h.bs.C8 hx j,h.dg⟩;have h1:=h.st.1;simp only at h1;rw[<-a]at h1;have h2:=h1.put (j:=j) (by rw[ints_length,<-a];exact e) (.int .u8 x);rw[dA]at h2;show Pk _ m1 1 _ (st.set j x).length _;rw[Ea,<-a];exact h2
theorem EP.Ds {b c:Nat} {w:DF} {g:DG} {pa:List (List Int)} (h:EP m1 m2 w (p,(g,st),.slice (some ⟨b,0,none⟩) n c,pa)) (f:n=pa.length) (h0:0 < n) (m:j < 32) (hx:0<=x/\x<=255):EP m1 m2 (w.setCell ⟨b,j,none⟩ (.int .u8 x)) (p,(g,st),.slice (some ⟨b,0,none⟩) n c,pa.set 0 ((pa.getD 0 []).set j x)):=by
 have r:=((DI 0 w).setCell (p:=⟨b,j,none⟩) (DZ _) (.int .u8 x)).size;have a:(pa.getD 0 []).length=32/\bA (pa.getD 0 []):=h.dg.get (i:=0) (by show 0 < pa.length;omega);refine⟨⟨h.st.1.kept (fun k o=>Ff w ⟨b,j,none⟩ _ k (fun q=>h.ne k o (by have q:k=b:=q;rw[q];rfl))) r,h.st.2⟩,⟨?_,h.pa.2⟩,h.ne,h.bs,fun d l=> ?_⟩
 ·have h1:=h.pa.1;simp only at h1;rw[<-f]at h1;have e:=bF h.dg;simp only at e;have h2:=h1.put (j:=j) (by rw[e];show j < pa.length*32;omega) (.int .u8 x);rw[la pa j x (by omega) h.dg m]at h2;show Pk _ m1 32 _ (pa.set 0 _).length _;rw[Ea,<-f];exact h2
 ·rcases EJ l with q | rfl
  ·exact h.dg d q
  ·exact⟨by rw[Ea];exact a.1,a.2.C8 hx j⟩
theorem bZ.CV {w:DF} {cs:List DG} {l:Cp} {vp vs vb:DG} {L:List Sv} (h:kA w cs l vp vs vb L):bZ (fun b=>b < w.heap.size) w l vp vs vb L:=by
 obtain⟨M,h1,h2,a⟩:=oG h.bl;refine⟨aS.By h.pl fun b _ q=>q,aS.By h.sh.rd fun b _ q=>q,fun x hx=>⟨aS.By (h.sh.ok x hx).st fun b _ q=>q,(h.sh.ok x hx).bs,aS.By (h.sh.ok x hx).pa fun b _ q=>q,(h.sh.ok x hx).dg⟩,h.sl,M,aS.By h1 fun b _ q=>q,fun y hy=>⟨aS.By (a y hy) fun b _ q=>q,h.Ct _ (by rw[<-h2];exact List.mem_map_of_mem hy)⟩,h2⟩
def gD (D:Nat) (w:DF) (v:DG) (l:Cp):Prop:=∃vp vs vb L,v=.agg (cL l vp vs vb).toArray/\bZ (fun b=>b < w.heap.size/\b≠D) w l vp vs vb L
def nO (D:Nat) (k at' y:Int) (l:Cp) (w:DF) (e:Ending) (w':DF):Prop:=∃v',e=.returned (.tuple #[v',.bool (bE k at' y l).2])/\(∃vp vs vb L,v'=.agg (cL (bE k at' y l).1 vp vs vb).toArray/\bZ (fun b=>b≠D\/w.heap.size<=b) w' (bE k at' y l).1 vp vs vb L)/\az w w'
theorem bZ.DB {F:Nat->Prop} {w:DF} {l:Cp} {vp vs vb:DG} {L:List Sv} (h:bZ F w l vp vs vb L) {vs2:DG} {L2:List Sv} {S2:List Sh} (row:aS F w vs2 L2.length (aw cS L2)) (ok:∀x∈L2,ez F w x) (a:L2.map cf=S2):bZ F w {l with shown:=S2} vp vs2 vb L2:=⟨h.pl,row,ok,a,h.bl⟩
def yi (L:List Sv) (i:Nat):List Sv:=(L.set 0 ((L.getD 0 s0).1,(L.getD i s0).2)).set i (((L.set 0 ((L.getD 0 s0).1,(L.getD i s0).2)).getD i s0).1,(L.getD 0 s0).2)
theorem yj (L:List Sv) (i:Nat):(yi L i).length=L.length:=by unfold yi;rw[Ea,Ea]
theorem pV (L:List Sv) (i:Nat) (h0:0 < L.length) (a:i < L.length):((((aw cS L).set 1 (L.getD i s0).2.1.1).set 2 (L.getD i s0).2.2.1).set (i*3+1) (L.getD 0 s0).2.1.1).set (i*3+2) (L.getD 0 s0).2.2.1=aw cS (yi L i):=by
 have h:=sQ L 0 h0 (L.getD i s0).2.1.1 (L.getD i s0).2.2.1 (L.getD i s0).2.1.2 (L.getD i s0).2.2.2;rw[Gg,DY,DY]at h;rw[h];exact sQ (L.set 0 ((L.getD 0 s0).1,(L.getD i s0).2)) i (by rw[Ea];exact a) (L.getD 0 s0).2.1.1 (L.getD 0 s0).2.2.1 (L.getD 0 s0).2.1.2 (L.getD 0 s0).2.2.2
theorem wO (L:List Sv) (i:Nat) (_h0:0 < L.length) (a:i < L.length):(yi L i).map cf=Aw (L.map cf) i:=by
 have h1:((L.set 0 ((L.getD 0 s0).1,(L.getD i s0).2)).getD i s0).1=(L.getD i s0).1:=by
  by_cases h:i=0
  ·subst h;rw[ja s0 _ L 0 a]
  ·rw[DJ,FA (fun q=>h q.symm),<-DJ]
 unfold yi Aw;rw[h1,F8,F8,cR,cR];rfl
theorem wP {F:Nat->Prop} {w:DF} {L:List Sv} (h0:0 < L.length) (c:i < L.length) (h:∀x∈L,ez F w x):∀x∈yi L i,ez F w x:=fun x hx=>by
 have a:=h _ (aH s0 h0);have b:=h _ (aH s0 c);unfold yi at hx;rcases EJ hx with hx | rfl
 ·rcases EJ hx with hx | rfl
  ·exact h x hx
  ·exact⟨b.st,b.bs,b.pa,b.dg⟩
 ·exact⟨a.st,a.bs,a.pa,a.dg⟩
theorem eU {l:Cp} (a:¬k=6) (b:¬k=7) (c:¬k=8) (d:¬k=9) (e:¬(k=1/\l.kind=6/\0 < l.blocks.length)):bE k at' y l=(dN k at' y l,true):=by
 unfold bE;rw[if_neg d,if_neg a,if_neg b,if_neg c,if_neg e]
theorem fM {l:Cp} (h:¬l.kind=4\/l.shown.length=0\/k < 1\/5 < k):dN k at' y l=l:=by
 unfold dN;split
 ·next hc=>
  have a:bS k (at' % (l.shown.length:Int)).toNat y l.shown=l.shown:=by unfold bS;rw[if_neg (by omega),if_neg (by omega),if_neg (by omega),if_neg (by omega),if_neg (by omega)]
  rw[a]
 ·rfl
section
variable {P:Ee}
theorem ld {w:DF} {X:Nat} {cs:List DG} (b:w.there X 0 cs.length) (h1:∀c∈cs,c.oneCell'=true) {ty:Ec} (a:(P.info? ty).map (·.size)=some cs.length):
  (Fb ty (.pointer (some ⟨X,0,none⟩)) (.agg cs.toArray)).run P w=.ok () (w.setCells X 0 cs):=by
 have h2:=run_storeAt_mid (P:=P) w X 0 ty cs.toArray (by simpa using b) (by simpa using a) (all_oneCell_toArray h1);simpa using h2
theorem mo {w:DF} {t ty e:Ec} {v z:DG} {base size bytes n m c b o:Nat} {xs news:List DG}
  (d:jE P t e z size bytes) (r:Pk w base size v n xs) (A:w.rangeAt b o news) (k:news.length=m*size) (h1:∀u∈news,u.oneCell'=true)
  (hlen:n+m<=DV) (p:(n+m)*bytes<=140737488355328) (l:base<=w.heap.size):
  ∃f w',(FY #[t,t] ty #[v,.slice (some ⟨b,o,none⟩) m c]).run P w=.ok f w'/\Pk w' base size f (n+m) (xs++news)/\w.grownBy w' v.ownBlock:=by
 by_cases hm:0 < m
 ·obtain⟨f,w',h2,h,s,_⟩:=jj (ty:=ty) (c:=c) d r A k h1 hm hlen p l;exact⟨f,w',h2,h,s⟩
 obtain rfl:m=0:=by omega
 obtain rfl:news=[]:=Ed.1 (by simpa using k);obtain⟨i,q,D,C,x⟩:=Gq d.info;rcases r with ⟨rfl,rfl,rfl⟩ | ⟨g,cap,rfl,y,hp⟩
 ·obtain⟨f,w',B,h2,h,_⟩:=run_append_own (P:=P) w w.heap.size t ty e i z size bytes d.ht q D C x d.hz d.pos (.slice none 0 0) 0 [] (World.ownsRow_nil w _ e size) ⟨b,o,none⟩ 0 c [] k (fun j u a=>by simp at a) h1 hlen p (DH _);exact⟨f,w',B,Pk.AS (dQ h2 l),h⟩
 ·refine⟨_,_,run_append_room_cells (P:=P) w t ty e i d.ht q g 0 n cap ⟨b,o,none⟩ 0 c [] (by simp) (fun j u a=>by simp at a) h1 (by have:=hp.le;omega) (fun j a=>by simp at a) (fun j a=>by simp at a),?_,?_⟩
  ·rw[List.append_nil];exact .inr ⟨g,cap,rfl,y,hp⟩
  ·exact World.grownBy.refl _ _
theorem eO {R:DF->DF->Prop} {f:Nat->DG} {w:DF} {φ :DG->DF->Prop} {d:Option Tmp} {h t e:Ec} {pp:String} {i:Array Edge} {g:Option (Nat × Bool)} {s x:Fu} {v z:DG} {base size bytes n m c b o:Nat} {xs news:List DG}
  (k:jE P t e z size bytes) (y:Pk w base size v n xs) (r:w.rangeAt b o news) (q:news.length=m*size) (h1:∀u∈news,u.oneCell'=true)
  (hlen:n+m<=DV) (p:(n+m)*bytes<=140737488355328) (l:base<=w.heap.size)
  (B:aX f s=v) (hx:aX f x=.slice (some ⟨b,o,none⟩) m c)
  (C:∀a w',Pk w' base size a (n+m) (xs++news)->w.grownBy w' v.ownBlock->R w w'/\ φ a w'):
  dU R P w φ ((Fg (aX f) ⟨d,.call {callee:=.builtin .append,args:=#[s,x],argTypes:=#[t,t]},h,pp,i,g⟩).run P w):=by
 obtain⟨a,w',A,h2,j⟩:=mo (P:=P) (ty:=h) (t:=t) k y r q h1 hlen p l (c:=c);simp[Fg,resolve,invoke,builtin,B,hx,A,GO];exact C a w' h2 j
end
structure JC (B i m:Nat) (A C:List DG) (d:Nat->Bool) (u:Nat->DG) (w:DF):Prop where
 le:B<=w.heap.size
 a:d 0=true->d 4=false->Pk w B 3 (u 186) 0 []
 b:d 4=true->d 9=false->Pk w B 3 (u 190) i A
 c:d 9=true->Pk w B 3 (u 195) (i+m) (A++C)
section
variable {B i m:Nat} {A C:List DG} {d:Nat->Bool} {u:Nat->DG} {w w':DF}
theorem JC.start (h:B<=w.heap.size):JC B i m A C (fun _=>false) u w:=⟨h,fun q=>(by cases q),fun q=>(by cases q),fun q=>(by cases q)⟩
theorem JC.same {j t:Nat} {v:DG} (h:JC B i m A C d u w) (f:(decide (j=0)||decide (j=4)||decide (j=9)||decide (t=186)||decide (t=190)||decide (t=195))=false):JC B i m A C (bD d j) (aQ (some t) u v) w:=by
 simp only[Et,decide_eq_false_iff_not]at f;obtain⟨⟨⟨⟨⟨h1,h2⟩,o⟩,p⟩,q⟩,r⟩:=f;have g:bD d j 0=d 0:=if_neg (fun e=>h1 e.symm);have a2:bD d j 4=d 4:=if_neg (fun e=>h2 e.symm);have a3:bD d j 9=d 9:=if_neg (fun e=>o e.symm);have k:aQ (some t) u v 186=u 186:=if_neg (fun e=>p e.symm);have l:aQ (some t) u v 190=u 190:=if_neg (fun e=>q e.symm);have n:aQ (some t) u v 195=u 195:=if_neg (fun e=>r e.symm);exact⟨h.le,by rw[g,a2,k];exact h.a,by rw[a2,a3,l];exact h.b,by rw[a3,n];exact h.c⟩
theorem JC.new {e:Ec} (h:JC B i m A C d u w) (a:d 4=false) (b:d 9=false):JC B i m A C (bD d 0) (aQ (some 186) u (.slice (some ⟨w.heap.size,0,none⟩) 0 0)) (w.alloc (.cells #[] e)):=
 ⟨by rw[DO];exact Nat.le_succ_of_le h.le,fun _ _=>Pk.AS (et w e B h.le 3),fun q=>(by have q:d 4=true:=q;rw[a]at q;cases q),fun q=>(by have q:d 9=true:=q;rw[b]at q;cases q)⟩
theorem JC.CN (h:JC B i m A C d u w) {a:DG} (b:d 9=false) (hp:Pk w' B 3 a (0+i) ([]++A)) (c:EZ B w w'):JC B i m A C (bD d 4) (aQ (some 190) u a) w':=
 ⟨D0 h.le c.size,fun _ q=>(by have q:true=false:=q;cases q),fun _ _=>(by rw[DY,EG]at hp;exact hp),fun q=>(by have q:d 9=true:=q;rw[b]at q;cases q)⟩
theorem JC.CO (h:JC B i m A C d u w) {a:DG} (b:d 4=true) (hp:Pk w' B 3 a (i+m) (A++C)) (c:EZ B w w'):JC B i m A C (bD d 9) (aQ (some 195) u a) w':=
 ⟨D0 h.le c.size,fun _ q=>(by have q:d 4=false:=q;rw[b]at q;cases q),fun _ q=>(by have q:true=false:=q;cases q),fun _=>hp⟩
theorem Pk.Cx {base size n:Nat} {v:DG} {xs:List DG} (h:Pk w base size v n xs) (a:base<=w.heap.size) (b:w.grownBy w' v.ownBlock):EZ base w w':=(DI base w).grown b a fun k c=>(h.block k c).1
end
def b0:Bv:=(.slice none 0 0,[])
theorem wQ (x:Bv):(cB x).length=1:=rfl
theorem rJ {F:Nat->Prop} {w:DF} {M:List Bv} (h:∀x∈M,aS F w x.1 x.2.length (ao .u8 x.2)):∀c∈aw cB M,c.oneCell'=true:=eg fun x hx c a=>by
 obtain⟨p,cap,b,_,_⟩:=(h x hx).AT.form;have a:c=x.1:=by simpa[cB] using a
 rw[a,b];rfl
theorem Ay (x:Int) (p:Option Addr) (n c:Nat) (q:Option Addr) (d b:Nat):∀v∈[Ej .i64 x,.slice p n c,.slice q d b],v.oneCell'=true:=fun v a=>by
 simp only[Es,ED,or_false]at a;rcases a with rfl | rfl | rfl<;>rfl
theorem eV {w:DF} {v:DG} {l:Cp} (h:gD D w v l) (s:fv l):∃(pp ps e:Option Addr) (f d c n g P R:Nat) (L:List Sv) (a:DF),
  v=.agg #[.int .i64 l.kind,.int .i64 l.id,.int .i64 l.obj,.slice pp l.places.length f,.slice ps n d,.int .i64 l.Cq,.int .i64 l.Cs,.slice e g c,.int .i64 l.code]/\a=(w.alloc (.cells #[.int .i64 l.kind,.int .i64 l.id,.int .i64 l.obj,.slice pp l.places.length f,.slice ps n d,.int .i64 l.Cq,.int .i64 l.Cs,.slice e g c,.int .i64 l.code] 43)).alloc (.cells zL 43)/\R=w.heap.size+1/\P=w.heap.size/\
  Hid (n=L.length/\n=l.shown.length/\g=l.blocks.length/\n<=30/\g<=600)/\Hid (P=w.heap.size/\R=w.heap.size+1/\a.heap.size=w.heap.size+2)/\Hid (az w a)/\Hid (av a P (cL l (.slice pp l.places.length f) (.slice ps n d) (.slice e g c)))/\Hid (av a R zL.toList)/\
  Hid (bZ (fun b=>(b < w.heap.size/\b≠D)\/w.heap.size+2<=b) a l (.slice pp l.places.length f) (.slice ps n d) (.slice e g c) L)/\
  a.cell? ⟨P,0,none⟩=some (.int .i64 l.kind)/\a.cell? ⟨P,4,none⟩=some (.slice ps n d)/\a.cell? ⟨P,7,none⟩=some (.slice e g c)/\a.cell? ⟨P,1,none⟩=some (.int .i64 l.id)/\a.cell? ⟨P,2,none⟩=some (.int .i64 l.obj)/\
  Hid (Kq (fun k=>w.heap.size<=k) w a):=by
 obtain⟨vp,vs,vb,L,rfl,r⟩:=h;have m:=r.Cr;obtain⟨pp,f,rfl,_,_⟩:=m.pl.form;obtain⟨ps,d,rfl,_,_⟩:=m.sh.rd.form;obtain⟨e,c,rfl,_,_⟩:=m.bl.form;have t:L.length=l.shown.length:=by have:=congrArg List.length m.sl;simpa using this
 have o:=(ae w (.cells (cL l (.slice pp l.places.length f) (.slice ps L.length d) (.slice e l.blocks.length c)).toArray 43)).trans (ae _ (.cells zL 43));have j:=(av.box w 43 (cg l (.slice pp l.places.length f) (.slice ps L.length d) (.slice e l.blocks.length c))).ext (ae _ (.cells zL 43));have p:=av.box (cs:=zL.toList) (w.alloc (.cells (cL l (.slice pp l.places.length f) (.slice ps L.length d) (.slice e l.blocks.length c)).toArray 43)) 43 (fun q=>by cases q);rw[DO]at p;exact⟨pp,ps,e,f,d,c,L.length,l.blocks.length,_,_,L,_,rfl,rfl,rfl,rfl,aa ⟨rfl,t,rfl,by rw[t];exact s.sh,s.bl⟩,aa ⟨rfl,rfl,by rw[DO,DO]⟩,aa o,aa j,aa p,aa (r.kept fun b u x=>⟨.inl u,o.block b x⟩),j.cell (i:=0) rfl,j.cell (i:=4) rfl,j.cell (i:=7) rfl,j.cell (i:=1) rfl,j.cell (i:=2) rfl,aa (Kq.AI o)⟩
theorem eB {w c j:DF} {l a:Cp} {vp vs vb:DG} {L:List Sv} (f:Hid (P=w.heap.size/\R=w.heap.size+1/\j.heap.size=w.heap.size+2)) (h:av c P (cL a vp vs vb)) (e:bZ (fun b=>(b < w.heap.size/\b≠D)\/w.heap.size+2<=b) c a vp vs vb L) (d:av c R zL.toList) (i:Kq (fun k=>w.heap.size<=k) w c) (p:bE k at' y l=(a,true)):
  (Instr.loadAt 43 (.pointer (some ⟨P,0,none⟩))).run DE c=.ok (.agg (cL a vp vs vb).toArray) c/\
  (Fb 43 (.pointer (some ⟨R,0,none⟩)) (.agg (cL a vp vs vb).toArray)).run DE c=.ok () (c.setCells R 0 (cL a vp vs vb))/\
  (loadVar 43 ⟨R,0,none⟩).run DE (c.setCells R 0 (cL a vp vs vb))=.ok (.agg (cL a vp vs vb).toArray) (c.setCells R 0 (cL a vp vs vb))/\
  nO D k at' y l w (.returned (.tuple #[.agg (cL a vp vs vb).toArray,.bool true])) (c.setCells R 0 (cL a vp vs vb)):=by
 have g:=(Kq.refl c).setCells (Q:=fun k=>k=R) rfl 0 (cL a vp vs vb);have m:=i.trans (g.mono (Q':=fun k=>w.heap.size<=k) fun k n q=>by have:=f.out;omega);refine⟨h.load DU rfl (by kernel_rfl),d.store (cs':=cL a vp vs vb) rfl e.Cr.one (by kernel_rfl),(d.set (cs':=cL a vp vs vb) rfl).loadVar DU rfl (by kernel_rfl),?_⟩;unfold nO;rw[p];exact⟨_,rfl,⟨_,_,_,_,rfl,e.kept (F':=fun b=>b≠D\/w.heap.size<=b) fun k n o=>⟨by omega,g.block k o (by have:=f.out;omega)⟩⟩,m.ext fun k q=>q⟩
theorem wR {l:Cp} {L:List Sv} (at':Int) (b:n=L.length/\n=l.shown.length/\n3=l.blocks.length/\n<=30/\n3<=600) (h0:0 < l.shown.length):∃i:Nat,(at' % (l.shown.length:Int)).toNat=i/\(0:Int)<=(i:Int)/\(i:Int) < (n:Int)/\¬((n:Int)=0)/\¬(n=0)/\(n:Int)<=30/\Hid (i < n/\0 < n/\i < L.length/\0 < L.length)/\
  Hid (∀a,DN DE 98 #[.int .i64 at',.int .i64 n] a fun e w'=>e=.returned (.int .i64 (i:Nat))/\a=w'):=by
 obtain⟨i,f,c,d⟩:=fK at' (n:=n) (by omega);refine⟨i,by rw[<-b.2.1];exact d,by omega,by omega,by omega,by omega,by omega,aa ⟨f,by omega,by omega,by omega⟩,aa fun a=> ?_⟩;have h:=ej at' n a (by omega) (by omega);rw[c]at h;exact h
theorem wS {l:Cp} (k y:Int) (h1:1<=k) (c:k<=5) (a:l.kind=4) (h0:0 < l.shown.length) (b:(at' % (l.shown.length:Int)).toNat=i):bE k at' y l=({l with shown:=bS k i y l.shown},true):=by
 rw[eU (by omega) (by omega) (by omega) (by omega) (fun q=>by have:=q.2.1;omega)];unfold dN;rw[if_pos ⟨a,h0⟩,b]
theorem wT {w a:DF} {l:Cp} {vp vb:DG} {ps:Option Addr} {L:List Sv} (e:n=L.length/\n=l.shown.length/\n3=l.blocks.length/\n<=30/\n3<=600) (d:bZ (fun b=>(b < w.heap.size/\b≠D)\/w.heap.size+2<=b) a l vp (.slice ps n csn) vb L) (g:av a P (cL l vp (.slice ps n csn) vb)):
  Hid ((a.alloc (.cells #[] 100)).ownsRow a.heap.size 100 3 (.slice (some ⟨a.heap.size,0,none⟩) 0 0) 0 [])/\Hid (bh (a.alloc (.cells #[] 100)) (.slice ps n csn) n (aw cS L))/\(a.alloc (.cells #[] 100)).cell? ⟨P,4,none⟩=some (.slice ps n csn)/\Hid (∀c∈aw cS L,c.oneCell'=true)/\Hid ((aw cS L).length=n*3):=by
 have f:=ae a (.cells #[] 100);refine⟨aa (bW a 100 #[] a.heap.size 0 3 (DH _) (by decide) rfl),aa ?_,(g.ext f).cell (i:=4) rfl,aa (eg fun x hx=>gP (d.so x hx).ok),aa (by rw[dj,<-e.1])⟩;have h:=d.sh.AT;rw[<-e.1]at h;exact h.ext f
theorem wU {w a c:DF} {l:Cp} {vp vb:DG} {ps o:Option Addr} {L:List Sv} (F:n=L.length/\n=l.shown.length/\n3=l.blocks.length/\n<=30/\n3<=600) (k:i < n/\0 < n/\i < L.length/\0 < L.length) (E:P=w.heap.size/\R=w.heap.size+1/\a.heap.size=w.heap.size+2) (h:bZ (fun b=>(b < w.heap.size/\b≠D)\/w.heap.size+2<=b) a l vp (.slice ps n csn) vb L) (p:av a P (cL l vp (.slice ps n csn) vb)) (r:av a R zL.toList) (f:c.ownsRow a.heap.size 100 3 (.slice o (0+n) cap) (0+n) ([]++aw cS L)) (s:EZ a.heap.size (a.alloc (.cells #[] 100)) c):
  ∃g,o=some ⟨g,0,none⟩/\(n:Int)<=(cap:Int)/\Hid (c.rangeAt g 0 (aw cS L))/\Hid (Pk c a.heap.size 3 (.slice (some ⟨g,0,none⟩) n cap) n (aw cS L))/\Hid (az a c)/\Hid (av c P (cL l vp (.slice ps n csn) vb))/\Hid (av c R zL.toList)/\
  Hid (bZ (fun b=>(b < w.heap.size/\b≠D)\/w.heap.size+2<=b/\b≠g) c l vp (.slice ps n csn) vb L)/\
  Hid (a.heap.size<=g/\g < c.heap.size/\n<=cap/\cap<=DV/\w.heap.size+2<=g/\P≠g/\R≠g)/\
  Hid (∀j,j < 3->(aw cS L)[i*3+j]? =(cS (L.getD i s0))[j]?)/\Hid (cf (L.getD i s0)=l.shown.getD i h0):=by
 rw[DY,EG]at f;have d:az a c:=Ei (ae _ _) s;obtain⟨g,G,t,x,y,z,A,C⟩:=(Pq.AS f).1.form k.2.1;injection t with u H v;subst u v;refine⟨g,rfl,by omega,aa C,aa (Pq.AS f).1,aa d,aa (p.ext d),aa (r.ext d),aa ?_,aa ⟨x,y,z,A,by omega,by omega,by omega⟩,aa fun j B=>dk bz s0 j B L i k.2.2.1,aa (by rw[<-cR,h.sl])⟩;exact(bZ.kept (F':=fun b=>b < a.heap.size/\((b < w.heap.size/\b≠D)\/w.heap.size+2<=b)) h fun b e m=>⟨⟨m,e⟩,rfl⟩).kept fun b e m=>⟨by rcases e.2 with q | q;exact .inl q;exact .inr ⟨q,by omega⟩,d.block b e.1⟩
theorem lf {w e d a:DF} {v:Nat} {l:Cp} {vp vb c:DG} {ps:Option Addr} {L L2:List Sv} {S2:List Sh} (I:P=w.heap.size/\R=w.heap.size+1/\e.heap.size=w.heap.size+2) (H:e.heap.size<=g/\g < d.heap.size/\n<=cap/\cap<=DV/\w.heap.size+2<=g/\P≠g/\R≠g) (r:av d P (cL l vp (.slice ps n csn) vb)) (s:av d R zL.toList) (z:bZ (fun b=>(b < w.heap.size/\b≠D)\/w.heap.size+2<=b/\b≠g) d l vp (.slice ps n csn) vb L) (y:az w e) (t:az e d)
  (f:Kq (fun k=>k=g\/d.heap.size<=k) d a) (u:Pk a e.heap.size 3 c v (aw cS L2)) (C:L2.length=v) (E:bZ (fun b=>(b < w.heap.size/\b≠D)\/w.heap.size+2<=b) a l vp (.slice ps n csn) vb L->∀x∈L2,ez (fun b=>(b < w.heap.size/\b≠D)\/w.heap.size+2<=b) a x) (G:L2.map cf=S2):
  a.cell? ⟨P,4,none⟩=some (.slice ps n csn)/\a.frozen? ⟨P,4,none⟩=false/\Hid (av (a.setCell ⟨P,4,none⟩ c) P (cL {l with shown:=S2} vp c vb))/\Hid (bZ (fun b=>(b < w.heap.size/\b≠D)\/w.heap.size+2<=b) (a.setCell ⟨P,4,none⟩ c) {l with shown:=S2} vp c vb L2)/\Hid (av (a.setCell ⟨P,4,none⟩ c) R zL.toList)/\Hid (Kq (fun k=>w.heap.size<=k) w (a.setCell ⟨P,4,none⟩ c)):=by
 have m:=f.box (by have:=r.lt;omega) r;have A:=f.box (by have:=s.lt;omega) s;have o:Kq (fun k=>k=P) a (a.setCell ⟨P,4,none⟩ c):=(Kq.refl a).setCell (Q:=fun k=>k=P) ⟨P,4,none⟩ rfl _;have hw:=t.size;refine⟨m.cell (i:=4) rfl,m.fz (i:=4) (show 4 < 9 by decide),aa (m.put (i:=4) (show 4 < 9 by decide) c),aa ?_,aa (o.box (by omega) A),aa ((((Kq.AI y).trans (Kq.AI t)).trans (f.mono fun k B q=>by omega)).trans (o.mono fun k B q=>by omega))⟩;have h:=z.kept (w':=a) (F':=fun b=>(b < w.heap.size/\b≠D)\/w.heap.size+2<=b) fun b j p=>⟨by omega,f.block b p (by omega)⟩
 refine bZ.kept (F:=fun b=>(b < w.heap.size/\b≠D)\/w.heap.size+2<=b) (h.DB (vs2:=c) (L2:=L2) ?_ (E h) G) fun b j p=>⟨j,o.block b p (by omega)⟩
 rw[C];exact aS.By u.AT fun b j _=>.inr (by have:=(u.block b j).1;omega)
section
variable {P:Ee}
theorem mq {w:DF} {t ty e:Ec} {v u z:DG} {base size bytes n m:Nat} {xs news:List DG}
  (g:jE P t e z size bytes) (l:w.ownsRow base e size v n xs) (D:bh w u m news) (B:news.length=m*size) (h1:∀c∈news,c.oneCell'=true)
  (hlen:n+m<=DV) (A:(n+m)*bytes<=140737488355328) (y:base<=w.heap.size):
  ∃a w',(FY #[t,t] ty #[v,u]).run P w=.ok a w'/\w'.ownsRow base e size a (n+m) (xs++news)/\w.grownBy w' v.ownBlock/\(∀k,a.ownBlock=some k->v.ownBlock=some k\/w.heap.size<=k):=by
 obtain⟨i,r,F,E,x⟩:=Gq g.info;have key:∀(ad:Addr) (c:Nat),(∀j u,news[j]? =some u->w.cell? (ad.add j)=some u)->∃a w',(FY #[t,t] ty #[v,.slice (some ad) m c]).run P w=.ok a w'/\w'.ownsRow base e size a (n+m) (xs++news)/\w.grownBy w' v.ownBlock/\(∀k,a.ownBlock=some k->v.ownBlock=some k\/w.heap.size<=k):=fun ad c C=>by
  obtain⟨a,w',q,h2,s,_,f⟩:=run_append_own_at (P:=P) w base t ty e i z size bytes g.ht r F E x g.hz g.pos v n xs l ad m c news B C h1 hlen A y;refine⟨a,w',q,h2,s,fun k d=> ?_⟩;rcases f with f | f
  ·rw[f]at d;exact .inl d
  ·rw[f]at d;exact .inr (by have:=Fk d;omega)
 rcases D with ⟨⟨p,rfl⟩,rfl,rfl⟩ | ⟨b,o,c,rfl,H,G,q⟩
 ·cases p with
  | none=>exact⟨v,w,run_append_owned_none w base t ty e i size g.ht r v n xs l,by simpa using l,World.grownBy.refl w _,fun k d=>.inl d⟩
  | some ad=>exact key ad 0 fun j u h=>by simp at h
 ·exact key ⟨b,o,none⟩ c fun j u h=>by rw[Ft];exact q j u h
theorem gF {R:DF->DF->Prop} {b:Nat->DG} {w:DF} {φ :DG->DF->Prop} {d:Option Tmp} {f t e:Ec} {pp:String} {h:Array Edge} {g:Option (Nat × Bool)} {s x:Fu} {v u z:DG} {base size bytes n m:Nat} {xs news:List DG}
  (l:jE P t e z size bytes) (r:w.ownsRow base e size v n xs) (y:bh w u m news) (q:news.length=m*size) (h1:∀c∈news,c.oneCell'=true)
  (hlen:n+m<=DV) (p:(n+m)*bytes<=140737488355328) (o:base<=w.heap.size)
  (B:aX b s=v) (hx:aX b x=u)
  (C:∀a w',w'.ownsRow base e size a (n+m) (xs++news)->w.grownBy w' v.ownBlock->(∀k,a.ownBlock=some k->v.ownBlock=some k\/w.heap.size<=k)->R w w'/\ φ a w'):
  dU R P w φ ((Fg (aX b) ⟨d,.call {callee:=.builtin .append,args:=#[s,x],argTypes:=#[t,t]},f,pp,h,g⟩).run P w):=by
 obtain⟨a,w',A,h2,i,j⟩:=mq (P:=P) (ty:=f) (t:=t) l r y q h1 hlen p o;simp[Fg,resolve,invoke,builtin,B,hx,A,GO];exact C a w' h2 i j
theorem rK {R:DF->DF->Prop} {a:Nat->DG} {w:DF} {φ :DG->DF->Prop} {d:Option Tmp} {l:Ec} {pp:String} {e:Array Edge} {g:Option (Nat × Bool)} {x y:Fu} {i j:Nat} {b c v:DG} {ty:Ec} (h:∀w,R w w) (hx:aX a x=b) (hy:aX a y=c) (f:(GI ty #[(i,b),(j,c)]).run P w=.ok v w) (k: φ v w):
  dU R P w φ ((Fg (aX a) ⟨d,.build ty #[(i,x),(j,y)],l,pp,e,g⟩).run P w):=by
 unfold Fg;simp only[hx,hy,Fx,E2,FI,E0,E7,f,Ey];exact⟨h _,k⟩
end
theorem bZ.Cy {F:Nat->Prop} {w:DF} {l:Cp} {vp vs vb:DG} {L:List Sv} (h:bZ F w l vp vs vb L):ep F w vb l.blocks:=h.bl
theorem ep.slice {F:Nat->Prop} {w:DF} {b c:Nat} {st:List (List Int)} (h:ep F w (.slice (some ⟨b,o,none⟩) n c) st) (C:i < n) (D:i<=j) (E:j<=n):ep F w (.slice (some ⟨b,o+i,none⟩) (j - i) (c - i)) ((st.drop i).take (j - i)):=by
 obtain⟨M,h1,h2,r⟩:=h;have e:∀x∈M,(cB x).length=1:=fun _ _=>rfl
 have B:M.length=n:=by obtain⟨p,k,d,_,_⟩:=h1.AT.form;injection d with _ d _;exact d.symm
 have hlen:((M.drop i).take (j - i)).length=j - i:=by rw[DX,DR];omega
 refine⟨(M.drop i).take (j - i),?_,fun y hy=>h2 y (FL (List.mem_of_mem_take hy)),by rw[<-r,List.map_take,List.map_drop]⟩;rw[hlen];rcases h1 with ⟨_,q,_⟩ | ⟨A,K,k,a,I,J,v,z⟩
 ·omega
 injection a with a G t;injection a with a;injection a with a u H;subst a t u;refine .inr ⟨b,o+i,c - i,rfl,by omega,by omega,?_,fun _=>z fun q=> ?_⟩
 ·have g:=cU (ch v i) (j - i);have l:(aw cB M).drop i=aw cB (M.drop i):=by have:=eQ e i;rwa[Fi]at this
  have m:(aw cB (M.drop i)).take (j - i)=aw cB ((M.drop i).take (j - i)):=by have:=iH (f:=cB) (s:=1) (L:=M.drop i) (fun _ _=>rfl) (j - i);rwa[Fi]at this
  rw[l,m]at g;exact g
 ·have:=bG e;rw[q]at this;simp at this;omega
theorem ep.el {F:Nat->Prop} {w:DF} {v:DG} {st:List (List Int)} (h:ep F w v st) (t:i < st.length):∃(b o c:Nat) (p1:Option Addr) (a:Nat),v=.slice (some ⟨b,o,none⟩) st.length c/\st.length<=c/\c<=DV/\b < w.heap.size/\w.cell? ⟨b,o+i,none⟩=some (.slice p1 (st.getD i []).length a)/\aS F w (.slice p1 (st.getD i []).length a) (st.getD i []).length (ao .u8 (st.getD i []))/\bA (st.getD i []):=by
 obtain⟨M,h1,h2,g⟩:=h;have k:M.length=st.length:=by rw[<-g,List.length_map]
 have d:i < M.length:=by omega
 obtain⟨b,o,c,r,m,hm,l,p⟩:=bh.pos h1.AT (by omega) (fun q=>by have:=bG (f:=cB) (s:=1) (L:=M) (fun _ _=>rfl);rw[q]at this;simp at this;omega);have hx:=h2 _ (aH kJ d);have j:=p i _ (j9 M i d);have e:(M.getD i kJ).2=st.getD i []:=by rw[<-g,DJ,DJ,List.getElem?_map,List.getElem?_eq_getElem d];rfl
 unfold iI at hx;rw[e]at hx;obtain⟨p1,a,n,_,_⟩:=hx.1.AT.form;rw[n]at j hx;exact⟨b,o,c,p1,a,by rw[<-k];exact r,by rw[<-k];exact m,hm,l,j,hx.1,hx.2⟩
theorem ep.form {F:Nat->Prop} {w:DF} {v:DG} {st:List (List Int)} (h:ep F w v st):∃p c,v=.slice p st.length c/\st.length<=c/\c<=DV:=h.CB.form
section
variable {F F' G Q:Nat->Prop} {w w':DF} {b:Nat} {vo va:DG} {D:List Ob} {s:eb}
theorem iQ.mono (h:iQ F w b vo va D s) (a:∀i,F i->i < w.heap.size->F' i) (c:¬F' b):iQ F' w b vo va D s:=h.kept (Q:=fun _=>False) (Kq.refl w) (fun _ q=>q.elim) a c
theorem iQ.bound (h:iQ F w b vo va D s):iQ (fun i=>F i/\i < w.heap.size) w b vo va D s:=h.mono (fun _ q l=>⟨q,l⟩) fun q=>h.nb q.1
theorem fb.mono (h:fb F w b s) (a:∀i,F i->i < w.heap.size->F' i) (c:¬F' b):fb F' w b s:=by
 obtain⟨e,d,D,h⟩:=h;exact⟨e,d,D,h.mono a c⟩
theorem fb.kept (h:fb F w b s) (k:Kq Q w w') (d:∀i,Q i->¬F i/\i≠b) (a:∀i,F i->i < w.heap.size->F' i) (c:¬F' b):fb F' w' b s:=by
 obtain⟨f,e,D,h⟩:=h;exact⟨f,e,D,h.kept k d a c⟩
theorem fb.lt (h:fb F w b s):b < w.heap.size:=by
 obtain⟨c,a,D,h⟩:=h;exact h.bx.lt
theorem fb.nb (h:fb F w b s):¬F b:=by
 obtain⟨c,a,D,h⟩:=h;exact h.nb
theorem zj {D:List Ob} (h:∀x∈D,Bx F w x):∀c∈aw cO D,c.oneCell'=true:=eg fun x hx c a=>by
 obtain⟨p,n,b,_⟩:=(h x hx).form;unfold cO at a;rw[b]at a;simp only[Es,ED,or_false]at a;rcases a with rfl | rfl<;>rfl
theorem iQ.push (h:iQ G w b vo va D s) {BB:Nat} (g:∀i,BB<=i->G i) {e:Ec} {c:DG} {n:Int} {vb:DG} {st:List (List Int)} (f:w.ownsRow BB e 2 c (D.length+1) (aw cO D++cO (n,vb,st))) (j:ep G w vb st):
  iQ G (w.setCell ⟨b,0,Gx⟩ c) b c va (D++[(n,vb,st)]) ⟨s.BY++[(n,st)],s.ids⟩:=by
 have a:∀i,G i->i < w.heap.size->G i/\(w.setCell ⟨b,0,Gx⟩ c).heap[i]? =w.heap[i]? :=fun i d _=>⟨d,Ff w ⟨b,0,Gx⟩ c i fun q=>h.nb (by rw[show i=b from q]at d;exact d)⟩
 refine⟨h.bx.put (i:=0) (show 0 < 2 by decide) c,?_,fun x hx=> ?_,?_,h.ra.kept a,h.rn,h.nb⟩
 ·rw[DS,Ez,di,gO];exact(aS.By (F:=G) (bh.AS f) fun k a _=>g k (f.lt k a).1).kept a
 ·rcases EL.1 hx with hx | hx
  ·exact(h.ok x hx).kept a
  ·obtain rfl:x=(n,vb,st):=by simpa using hx
   exact ep.kept j a
 ·rw[List.map_append,h.eq];rfl
end
def mr (F:Nat->Prop) (b:Nat) (s:eb) (l:Cp) (w:DF) (e:Ending) (w':DF):Prop:=∃vp vs vb L,e=.returned (.tuple #[.agg (cL (bO s l).1 vp vs vb).toArray,.bool (bO s l).2])/\bZ (fun k=>F k\/w.heap.size<=k) w' (bO s l).1 vp vs vb L/\fb (fun k=>F k\/w.heap.size<=k) w' b (du s l)/\Kq (fun i=>i=b) w w'/\ka b w w'
def Kb (b:Nat) (w w':DF):Prop:=Kq (fun i=>i=b\/w.heap.size<=i) w w'/\ka b w w'
theorem Kb.AI {b:Nat} {w w':DF} (h:az w w'):Kb b w w':=⟨Kq.AI h,ka.AI h⟩
theorem Kb.ext {b:Nat} {w a c:DF} (h:Kb b w a) (h2:az a c):Kb b w c:=⟨h.1.trans (Kq.AI h2),h.2.trans (ka.AI h2)⟩
theorem Kb.kq {b:Nat} {Q:Nat->Prop} {w c d:DF} (h:Kb b w c) (k:Kq Q c d) (a:∀i,Q i->w.heap.size<=i):Kb b w d:=⟨h.1.trans (k.mono fun i _ q=>.inr (a i q)),h.2.kq k a⟩
theorem Kb.own {b:Nat} {w a d:DF} (h:Kb b w a) (k:Kq (fun i=>i=b) a d) (c:ka b a d):Kb b w d:=⟨h.1.trans (k.mono fun _i _ q=>.inl q),h.2.trans c⟩
theorem Dh.fin {F:Nat->Prop} {b a BB:Nat} {f:eb} {lt:Cp} {w W:DF} {vp vs vb:DG} {L:List Sv} (h:(∀i,F i->i < w.heap.size)/\¬F b/\b < w.heap.size) (o:w.heap.size<=a/\a < BB) (c:Kb b w W) (l:bZ (fun k=>F k\/BB<=k) W lt vp vs vb L) (g:fb (fun k=>F k\/BB<=k) W b f) (cs:List DG):
  bZ (fun k=>F k\/w.heap.size<=k) (W.setCells a 0 cs) lt vp vs vb L/\fb (fun k=>F k\/w.heap.size<=k) (W.setCells a 0 cs) b f/\Kq (fun i=>i=b) w (W.setCells a 0 cs)/\ka b w (W.setCells a 0 cs):=by
 obtain⟨h1,h2,n⟩:=h;have j:=c.1;have k:Kq (fun k=>k=a) W (W.setCells a 0 cs):=(Kq.refl W).setCells (Q:=fun k=>k=a) rfl 0 cs;have d:∀i,(F i\/BB<=i)->i≠a:=fun i q e=>by
  rcases q with q | q
  ·have:=h1 i q;omega
  ·omega
 have hm:∀i,(F i\/BB<=i)->(F i\/w.heap.size<=i):=fun i q=>q.imp id fun q=>by omega
 refine⟨l.kept fun i q m=>⟨hm i q,k.block i m (d i q)⟩,g.kept k (fun i q=>⟨fun r=>d i r q,by omega⟩) (fun i q _=>hm i q) fun q=> ?_,?_,c.2.kq k fun i q=>by omega⟩
 ·rcases q with q | q
  ·exact h2 q
  ·omega
 ·exact(j.trans (k.mono (Q':=fun i=>i=b\/w.heap.size<=i) fun i _ q=>.inr (by omega))).mono fun i p q=>by omega
structure JP (BB:Nat) (e:Ec) (n:Nat) (A E:List DG) (d:Nat->Bool) (u:Nat->DG) (w:DF):Prop where
 le:BB<=w.heap.size
 a:d 1=true->d 6=false->w.ownsRow BB e 2 (u 87) 0 []
 b:d 6=true->d 13=false->w.ownsRow BB e 2 (u 92) n A
 l:d 12=true->d 13=false->∃g,u 98=.slice (some ⟨g,0,none⟩) 1 1/\w.rangeAt g 0 E/\(d 1=true->d 6=false->(u 87).ownBlock≠some g)/\(d 6=true->(u 92).ownBlock≠some g)
 c:d 13=true->w.ownsRow BB e 2 (u 99) (n+1) (A++E)
section
variable {BB:Nat} {e:Ec} {n:Nat} {A E:List DG} {d:Nat->Bool} {u:Nat->DG} {w w':DF}
theorem JP.start (h:BB<=w.heap.size):JP BB e n A E (fun _=>false) u w:=⟨h,fun q=>(by cases q),fun q=>(by cases q),fun q=>(by cases q),fun q=>(by cases q)⟩
theorem JP.same {j t:Nat} {v:DG} (h:JP BB e n A E d u w) (k:(decide (j=1)||decide (j=6)||decide (j=12)||decide (j=13)||decide (t=87)||decide (t=92)||decide (t=98)||decide (t=99))=false):JP BB e n A E (bD d j) (aQ (some t) u v) w:=by
 simp only[Et,decide_eq_false_iff_not]at k;obtain⟨⟨⟨⟨⟨⟨⟨h1,h2⟩,p⟩,q⟩,r⟩,s⟩,x⟩,y⟩:=k;have f:bD d j 1=d 1:=if_neg (fun e=>h1 e.symm);have a2:bD d j 6=d 6:=if_neg (fun e=>h2 e.symm);have a3:bD d j 12=d 12:=if_neg (fun e=>p e.symm);have a4:bD d j 13=d 13:=if_neg (fun e=>q e.symm);have g:aQ (some t) u v 87=u 87:=if_neg (fun e=>r e.symm);have i:aQ (some t) u v 92=u 92:=if_neg (fun e=>s e.symm);have m:aQ (some t) u v 98=u 98:=if_neg (fun e=>x e.symm);have o:aQ (some t) u v 99=u 99:=if_neg (fun e=>y e.symm);exact⟨h.le,by rw[f,a2,g];exact h.a,by rw[a2,a4,i];exact h.b,by rw[a3,a4,m,f,a2,g,i];exact h.l,by rw[a4,o];exact h.c⟩
theorem JP.new (h:JP BB e n A E d u w) (i:E≠[]) (c:d 6=false) (b:d 13=false):JP BB e n A E (bD d 1) (aQ (some 87) u (.slice (some ⟨w.heap.size,0,none⟩) 0 0)) (w.alloc (.cells #[] e)):=by
 have hx:=ae w (.cells #[] e);refine⟨D0 h.le hx.size,fun _ _=>et w e BB h.le 2,fun q=> ?_,fun a p=> ?_,fun q=> ?_⟩
 ·have q:d 6=true:=q;rw[c]at q;cases q
 ·have a:d 12=true:=a;obtain⟨g,j,f,m,o⟩:=h.l a b;have k:=bP f i;refine⟨g,j,aJ f hx,fun _ _ q=> ?_,fun q=> ?_⟩
  ·have q:some w.heap.size=some g:=q;have:=Fk q;omega
  ·have q:d 6=true:=q;rw[c]at q;cases q
 ·have q:d 13=true:=q;rw[b]at q;cases q
theorem JP.CN (h:JP BB e n A E d u w) (v:E≠[]) {b:DG} (h1:d 1=true) (m:d 6=false) (i:d 13=false) (s:w'.ownsRow BB e 2 b (0+n) ([]++A)) (p:w.grownBy w' (u 87).ownBlock) (c:∀k,b.ownBlock=some k->(u 87).ownBlock=some k\/w.heap.size<=k):EZ BB w w'/\JP BB e n A E (bD d 6) (aQ (some 92) u b) w':=by
 have o:EZ BB w w':=(DI BB w).grown p h.le fun k c=>((h.a h1 m).lt k c).1
 refine⟨o,D0 h.le o.size,fun _ q=> ?_,fun _ _=> ?_,fun f F=> ?_,fun q=> ?_⟩
 ·have q:true=false:=q;cases q
 ·rw[DY,EG]at s;exact s
 ·have f:d 12=true:=f;obtain⟨g,B,t,C,D⟩:=h.l f i;have y:=bP t v;have r:=C h1 m;refine⟨g,B,fun j x hx=> ?_,fun _ q=> ?_,fun _ q=> ?_⟩
  ·rw[World.cell?_of_block (w:=w) (p.block g y fun q=>r q.symm)];exact t j x hx
  ·have q:true=false:=q;cases q
  ·have q:b.ownBlock=some g:=q;rcases c g q with z | z
   ·exact r z
   ·omega
 ·have q:d 13=true:=q;rw[i]at q;cases q
theorem JP.CF (h:JP BB e n A E d u w) (g:d 13=false):JP BB e n A E (bD d 12) (aQ (some 98) u (.slice (some ⟨w.heap.size,0,none⟩) 1 1)) (w.alloc (.cells E.toArray e)):=by
 have hx:=ae w (.cells E.toArray e);refine⟨D0 h.le hx.size,fun c f=>aR (h.a c f) hx,fun c f=>aR (h.b c f) hx,fun _ _=>⟨w.heap.size,rfl,fun j x i=> ?_,fun c f q=> ?_,fun c q=> ?_⟩,fun q=> ?_⟩
 ·rw[DY,D6];simpa using i
 ·have:=((h.a c f).lt _ q).2;omega
 ·have:=((h.b c g).lt _ q).2;omega
 ·have q:d 13=true:=q;rw[g]at q;cases q
theorem JP.CO (h:JP BB e n A E d u w) {f:DG} (a:d 6=true) (g:d 13=false) (l:w'.ownsRow BB e 2 f (n+1) (A++E)) (i:w.grownBy w' (u 92).ownBlock):EZ BB w w'/\JP BB e n A E (bD d 13) (aQ (some 99) u f) w':=by
 have c:EZ BB w w':=(DI BB w).grown i h.le fun k j=>((h.b a g).lt k j).1
 refine⟨c,D0 h.le c.size,fun _ q=> ?_,fun _ q=> ?_,fun _ q=> ?_,fun _=>l⟩
 ·have q:d 6=false:=q;rw[a]at q;cases q
 ·have q:true=false:=q;cases q
 ·have q:true=false:=q;cases q
end
theorem Bc (x:Int) (p:Option Addr) (n c:Nat):∀v∈[Ej .i64 x,.slice p n c],v.oneCell'=true:=fun v a=>by
 simp only[Es,ED,or_false]at a;rcases a with rfl | rfl<;>rfl
end Go.Proofs.Bl
