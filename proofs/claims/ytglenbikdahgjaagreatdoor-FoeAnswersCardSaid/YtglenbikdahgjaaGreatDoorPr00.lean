/- Part 0 of the proof. -/
import Derived.WalkKit
import Derived.Deep.MidRow
import Derived.Deep.QuietTactic
import Derived.Deep.AppendLies
import Derived.Laws.AppendOwnNone
import Derived.StillTail
import Derived.RangeFuncNested
import Derived.RangeFuncBound
import Derived.RangeFuncCalls
import Derived.RangeFuncLeaves
import Derived.OwnWalkIn
import Derived.TacticsInMore
import Derived.Laws.BytesString
import Derived.Laws.Cells
import Derived.Laws.Strings
import Derived.Laws.StructEq
import Derived.BigQuiet
import Derived.Laws.OwnMore
import Derived.Laws.MakeOwn
import Derived.LaidEql
import Derived.Great.BuildSlice
set_option maxRecDepth 100000
set_option maxHeartbeats 16000000
open Array renaming getD_eq_getD_getElem?->EE,replicate->FP
open Bool renaming and_eq_true->Ek,eq_iff_iff->Iu,false_eq_true->Fh,false_or->Gv,not_true->Ep,or_eq_false_iff->Et
open Go renaming IntKind->E6,Operand->Fu,Program->Ee,TypeId->Ec,Value->DG,World->DF,execOp->Fg,getD_replicate_false->ER,getD_set_ne->GC,info_parts->Gq,maxLen->DV,run_underlying->Gk,undef->EI,wpList->Fl,wpList_plain->H3
open Go.Addr renaming add_mid->Ft
open Go.Builtin renaming append_->FY
open Go.Instr renaming loadAt->Fm,storeAt->Fb
open Go.Region renaming binds->Fo,wanted->DP
open Go.Result renaming andThen_ok->Ey
open Go.RowKit renaming Below->EZ
open Go.RowKit.Below renaming heap_setCell->Ff,refl->DI
open Go.Sem renaming run_bind->E0,run_pure->E7
open Go.Value renaming cells->Gw,int->Ej
open Go.World renaming block_lt_of_cell?->DM,cell?_alloc_new->D6,cell?_setCell_other->El,frozen?_setCell->Gc,there_setCells->Fp
open Int renaming toNat_natCast->Eo
open List renaming all_eq_true->Eg,append_assoc->Em,countP_append->Gz,drop_of_length_le->FQ,foldl_cons->It,getD_eq_getElem?_getD->DJ,getElem?_drop->E3,getElem?_eq_getElem->DL,getElem?_eq_some_iff->Er,getElem?_map->Ev,getElem?_take->EA,getElem_mem->Fc,length_cons->Eu,length_drop->DR,length_eq_zero_iff->Ed,length_nil->EK,length_take->DX,map_cons->E2,map_nil->FI,map_toArray->Fx,mem_append->EL,mem_cons_of_mem->FM,mem_filterMap->GA,mem_of_getElem?->EY,mem_of_mem_drop->FL,mem_of_mem_take->EN,mem_zipIdx_iff_getElem?->EO,range->Eh,range_succ->G2,replicate->D7,take_append_drop->Fs,take_left'->Iv,take_of_length_le->DW
open Nat renaming add_assoc->FX,le_refl->DH,min_eq_left->Fw,mul_one->Fi,zero_add->DY,zero_mul->Gg
open Option renaming bind_some->Fj
open UInt8 renaming ofNat->G7
namespace Go.Proofs.Bl
open Go Go.RowKit Go.Proofs
variable {n g b o B base size e i j bytes p m:Nat} {l a:List Int} {d:Nat->Bool}
theorem Q1{α:Type _}{a:α}{l:List α}{n:Nat}:(a::l)[n+1]? =l[n]? :=List.getElem?_cons_succ
theorem Q2{α:Type _}{a:α}{l:List α}:(a::l)[0]? =some a:=List.getElem?_cons_zero
theorem Q3{α:Type _}{a d:α}{l:List α}{n:Nat}:(a::l).getD (n+1) d=l.getD n d:=List.getD_cons_succ
theorem Q4{α:Type _}{a d:α}{l:List α}:(a::l).getD 0 d=a:=List.getD_cons_zero
theorem Q5{α:Type _}{a:α}{l:List α}{i:Nat}:l.toArray.setIfInBounds i a=(l.set i a).toArray:=by simp
theorem Q6{α:Type _}{a b:α}{l:List α}{i:Nat}:(a::l).set (i+1) b=a::l.set i b:=List.set_cons_succ
theorem Q7{α:Type _}{a b:α}{l:List α}:(a::l).set 0 b=b::l:=List.set_cons_zero
theorem Q8{α:Type _}{a:α}{l:List α}{n:Nat}:(a::l).drop (n+1)=l.drop n:=List.drop_succ_cons
theorem Q9{α:Type _}{l:List α}:l.drop 0=l:=List.drop_zero
theorem Qa{α:Type _}{d:α}{l:Array α}{i:Nat}:l.getD i d=l[i]?.getD d:=Array.getD_eq_getD_getElem?
theorem Qb{α:Type _}{l:List α}{i:Nat}:l.toArray[i]? =l[i]? :=List.getElem?_toArray
theorem Qc{α β:Type _}(a:α)(f:α->Option β):(some a).bind f=f a:=rfl
theorem Qd{α:Type _}{a b:α}:(some a).getD b=a:=rfl
theorem exq{α:Sort _}(a:α):∃b,b=a:=⟨a,rfl⟩
theorem aa {p:Prop} (h:p):Hid p:=h
def ao (k:E6) (l:List Int):List DG:=l.map (Ej k)
@[simp] theorem ints_length (k:E6) (l:List Int):(ao k l).length=l.length:=by simp[ao]
theorem cX (k:E6) (l:List Int) (i:Nat) (h:i < l.length):(ao k l)[i]? =some (.int k (l.getD i 0)):=by
 simp[ao,DJ,DL h]
theorem aT (k:E6) (a b:List Int):ao k (a++b)=ao k a++ao k b:=by simp[ao]
theorem aF (k:E6) (l:List Int):∀u∈ao k l,u.oneCell'=true:=by
 intro u hu;simp only[ao,List.mem_map]at hu;obtain⟨x,_,rfl⟩:=hu;rfl
theorem dA (k:E6) (l:List Int) (i:Nat) (x:Int):(ao k l).set i (.int k x)=ao k (l.set i x):=by simp[ao]
abbrev az (w w':DF):Prop:=EZ w.heap.size w w'
theorem az.trans {a b c:DF} (h:az a b) (k:az b c):az a c:=Below.trans h (Below.mono k h.size)
theorem _root_.Go.RowKit.Below.drewN {a w:DF} (h:EZ B a w) (n:Nat):EZ B a (w.drewN n):=⟨h.os,h.tape,h.output,h.size,h.block⟩
theorem aD {W a:DF} (c:EZ B W a):(∀b o,b < B->a.cell? ⟨b,o,none⟩=W.cell? ⟨b,o,none⟩)/\(∀b o,b < B->a.frozen? ⟨b,o,none⟩=W.frozen? ⟨b,o,none⟩):=
 ⟨fun b o h=>c.cell (p:=⟨b,o,none⟩) h,fun b o h=>c.frozen (p:=⟨b,o,none⟩) h⟩
theorem bP {w:DF} {cs:List DG} (h:w.rangeAt b o cs) (a:cs≠[]):b < w.heap.size:=by
 cases cs with
 | nil=>exact absurd rfl a
 | cons v r=>have:=h 0 v (by simp);exact DM w _ this
theorem mF {w w':DF} {cs:List DG} (h:w.rangeAt b o cs) (a:EZ B w w') (c:b < B):w'.rangeAt b o cs:=fun j v d=>by
 rw[a.cell (p:=⟨b,o+j,none⟩) c];exact h j v d
theorem aJ {w w':DF} {cs:List DG} (h:w.rangeAt b o cs) (c:az w w'):w'.rangeAt b o cs:=by
 by_cases a:cs=[]
 ·subst a;intro j v d;simp at d
 ·exact mF h c (bP h a)
theorem ch {w:DF} {cs:List DG} (h:w.rangeAt b o cs) (n:Nat):w.rangeAt b (o+n) (cs.drop n):=fun j v a=>by
 rw[E3]at a;have:=h (n+j) v a;rw[<-FX]at this;exact this
theorem cU {w:DF} {cs:List DG} (h:w.rangeAt b o cs) (n:Nat):w.rangeAt b o (cs.take n):=fun j v a=>by
 refine h j v ?_;rw[EA]at a;split at a
 ·exact a
 ·cases a
def bh (w:DF) (v:DG) (n:Nat) (cs:List DG):Prop:=
 ((∃p,v=.slice p 0 0)/\n=0/\cs=[])\/∃b o c,v=.slice (some ⟨b,o,none⟩) n c/\n<=c/\c<=DV/\w.rangeAt b o cs
theorem bh.ext {w w':DF} {v:DG} {cs:List DG} (h:bh w v n cs) (e:az w w'):bh w' v n cs:=by
 rcases h with h | ⟨b,o,c,h1,h2,a,d⟩
 ·exact .inl h
 ·exact .inr ⟨b,o,c,h1,h2,a,aJ d e⟩
theorem bh.nil (w:DF):bh w (.slice none 0 0) 0 []:=.inl ⟨⟨_,rfl⟩,rfl,rfl⟩
abbrev Rd (w:DF) (k:E6) (v:DG) (l:List Int):Prop:=bh w v l.length (ao k l)
theorem Rd.ext {w w':DF} {k:E6} {v:DG} (h:Rd w k v l) (a:az w w'):Rd w' k v l:=bh.ext h a
theorem Rd.nil (w:DF) (k:E6):Rd w k (.slice none 0 0) []:=bh.nil w
theorem Rd.pos {w:DF} {k:E6} {v:DG} (h:Rd w k v l) (f:0 < l.length):
  ∃b o c,v=.slice (some ⟨b,o,none⟩) l.length c/\l.length<=c/\c<=DV/\b < w.heap.size/\w.rangeAt b o (ao k l)/\∀i,i < l.length->w.cell? ⟨b,o+i,none⟩=some (.int k (l.getD i 0)):=by
 rcases h with ⟨_,h,_⟩ | ⟨b,o,c,h1,h2,d,a⟩
 ·omega
 ·refine⟨b,o,c,h1,h2,d,bP a ?_,a,fun i e=>a i _ (cX k l i e)⟩;intro h;have:=congrArg List.length h;rw[ints_length]at this;simp only[EK]at this;omega
theorem bh.form {w:DF} {v:DG} {cs:List DG} (h:bh w v n cs):∃p c,v=.slice p n c/\n<=c/\c<=DV:=by
 rcases h with ⟨⟨p,h⟩,a,_⟩ | ⟨b,o,c,h1,h2,d,e⟩
 ·exact⟨p,0,by rw[h,a],by omega,by unfold DV;omega⟩
 ·exact⟨_,c,h1,h2,d⟩
theorem bh.AS {w:DF} {v:DG} {xs:List DG} (h:w.ownsRow base e size v n xs):bh w v n xs:=by
 have h2:=h;obtain⟨h0,h1⟩:=h;rcases h1 with ⟨rfl,h1⟩ | ⟨g,cap,cur,rfl,c,d,a,hm,f,hx⟩
 ·subst h1;rw[Gg]at h0;exact .inl ⟨⟨_,rfl⟩,rfl,Ed.1 h0⟩
 ·refine .inr ⟨g,0,cap,rfl,a,hm,fun j v b=> ?_⟩;have:=h2.cells (g:=g) rfl j v b;rw[Ft]at this;exact this
def lF (w:DF) (g:Nat) (v:DG) (n:Nat) (cs:List DG):Prop:=
 (v=.slice none 0 0/\n=0/\cs=[])\/∃b o c,v=.slice (some ⟨b,o,none⟩) n c/\n<=c/\c<=DV/\b≠g/\w.rangeAt b o cs
theorem lF.AT {w:DF} {v:DG} {cs:List DG} (h:lF w g v n cs):bh w v n cs:=by
 rcases h with ⟨h1,h2,a⟩ | ⟨b,o,c,h1,h2,a,_,d⟩
 ·exact .inl ⟨⟨_,h1⟩,h2,a⟩
 ·exact .inr ⟨b,o,c,h1,h2,a,d⟩
theorem lF.set {w:DF} {v:DG} {cs:List DG} (h:lF w g v n cs) (i:Nat) (u:DG):lF (w.setCell ⟨g,i,none⟩ u) g v n cs:=by
 rcases h with h | ⟨b,o,c,h1,h2,d,a,e⟩
 ·exact .inl h
 ·refine .inr ⟨b,o,c,h1,h2,d,a,fun j x hx=> ?_⟩;rw[El _ _ _ _ (by intro q;injection q with q;exact a q.symm)];exact e j x hx
theorem lF.AS {w:DF} {v:DG} {xs:List DG} (h:w.ownsRow base e size v n xs) (b:v.ownBlock≠some g):lF w g v n xs:=by
 have h2:=h;obtain⟨h0,h1⟩:=h;rcases h1 with ⟨rfl,h1⟩ | ⟨k,cap,cur,rfl,f,d,a,hm,i,hx⟩
 ·subst h1;rw[Gg]at h0;exact .inl ⟨rfl,rfl,Ed.1 h0⟩
 ·refine .inr ⟨k,0,cap,rfl,a,hm,fun q=>b (by rw[<-q];rfl),fun j v c=> ?_⟩;have:=h2.cells (g:=k) rfl j v c;rw[Ft]at this;exact this
structure jE (P:Ee) (t e:Ec) (z:DG) (size bytes:Nat):Prop where
 ht:P.underlying t=some (.slice e)
 info:(P.info? e).map (fun i=>(i.zero,i.size,i.bytes))=some (some z,size,bytes)
 hz:z.cells.size=size
 pos:0 < size
theorem cY {P:Ee} {ops:Array Oper} {rest:List Oper} {a:Act} {w:DF} {Q:Exit->Act->DF->Prop} {d:Option Tmp} {tt t e:Ec} {pp:String} {T:Array Edge} {s x:Fu} {v u z:DG} {xs news:List DG}
  (r:jE P t e z size bytes) (y:w.ownsRow base e size v n xs) (aa:bh w u m news) (H:news.length=m*size) (h1:∀c∈news,c.oneCell'=true)
  (hlen:n+m<=DV) (L:(n+m)*bytes<=140737488355328) (J:base<=w.heap.size)
  (F:a.eval s=v) (hx:a.eval x=u)
  (h:∀D w',w'.ownsRow base e size D (n+m) (xs++news)->w.grownBy w' v.ownBlock->EZ base w w'->(∀k,D.ownBlock=some k->v.ownBlock=some k\/w.heap.size<=k)->Fl P ops Q rest (a.put d D) w'):
  Fl P ops Q (⟨d,.call {callee:=.builtin .append,args:=#[s,x],argTypes:=#[t,t]},tt,pp,T,none⟩ :: rest) a w:=by
 obtain⟨i,E,S,I,K⟩:=Gq r.info;have G:∀w',w.grownBy w' v.ownBlock->EZ base w w':=fun w' M=>(DI base w).grown M J (fun k f=>(y.lt k f).1)
 rcases aa with ⟨⟨p,hu⟩,hm,N⟩ | ⟨b,o,c,hu,af,ae,Z⟩
 ·subst hm N;cases p with
  | none=>refine wpList_append_own_none rfl s x t rfl base e i size r.ht E v n xs F y (hx.trans hu) ?_;have:=h v w (by simpa using y) (World.grownBy.refl w _) (DI _ _) (fun k f=>.inl f);exact this
  | some ad=>
   have R:=y;rcases y.2 with ⟨C,N⟩ | ⟨g,cap,cur,C,M,X,V,Y,W,ab⟩
   ·refine wpList_append_own w rfl s x t rfl base e i z size bytes r.ht E S I K r.hz r.pos v n xs F y ad 0 0 [] (hx.trans hu) H (fun j u B=>by simp at B) h1 hlen L J ?_;intro D w' h2 l A;refine h D w' h2 l (G w' l) fun k f=> ?_
    rw[A.2 ⟨C,rfl⟩]at f;cases f
   ·subst C;refine wpList_append_fits_any w rfl s x t rfl base e i size r.ht E I g n cap xs F R (some ad) 0 0 [] (hx.trans hu) H (fun q=>by cases q) (fun _ _ j u B=>by simp at B) h1 (by omega) ?_;intro w' h2 l;exact h _ w' h2 l (G w' l) fun k f=>.inl f
 ·have O:∀j u,news[j]? =some u->w.cell? ((⟨b,o,none⟩:Addr).add j)=some u:=fun j u B=>by rw[Ft];exact Z j u B
  by_cases hm:0 < m
  ·refine wpList_append_lies w rfl s x t rfl base e i z size bytes r.ht E S I K r.hz r.pos v n xs F y ⟨b,o,none⟩ m c news (hx.trans hu) H O h1 hm hlen L J w.heap.size rfl ?_;intro g cap w' h2 l A _;refine h _ w' h2 l (G w' l) fun k f=> ?_
   simp only[Value.ownBlock,Option.some.injEq]at f;subst f;rcases A with A | A
   ·exact .inl A
   ·exact .inr (by omega)
  ·obtain rfl:m=0:=by omega
   have R:=y;rcases y.2 with ⟨C,N⟩ | ⟨g,cap,cur,C,M,X,V,Y,W,ab⟩
   ·refine wpList_append_own w rfl s x t rfl base e i z size bytes r.ht E S I K r.hz r.pos v n xs F y ⟨b,o,none⟩ 0 c news (hx.trans hu) H O h1 hlen L J ?_;intro D w' h2 l A;refine h D w' h2 l (G w' l) fun k f=> ?_
    rw[A.2 ⟨C,rfl⟩]at f;cases f
   ·subst C;refine wpList_append_fits_any w rfl s x t rfl base e i size r.ht E I g n cap xs F R (some ⟨b,o,none⟩) 0 c news (hx.trans hu) H (fun q=>by cases q) (fun ad U j u B=>by cases U;exact O j u B) h1 (by omega) ?_;intro w' h2 l;exact h _ w' h2 l (G w' l) fun k f=>.inl f
theorem bW (w:DF) (e:Ec) (cs:Array DG) (base n size:Nat) (a:base<=w.heap.size) (hm:n<=DV) (b:cs.size=n*size):
  (w.alloc (.cells cs e)).ownsRow base e size (.slice (some ⟨w.heap.size,0,none⟩) n n) n cs.toList:=World.ownsRow_lit w cs n a hm b
theorem qE {w w':DF} {v:DG} {xs:List DG} (h:w.ownsRow base e size v n xs) (c:EZ B w w') (b:∀k,v.ownBlock=some k->k < B):w'.ownsRow base e size v n xs:=by
 obtain⟨h1,h2⟩:=h;refine⟨h1,?_⟩;rcases h2 with h2 | ⟨g,cap,cur,a,d,f,r⟩
 ·exact .inl h2
 ·exact .inr ⟨g,cap,cur,a,d,by rw[c.block g (b g (by rw[a];rfl))];exact f,r⟩
theorem fc {w:DF} {v:DG} {xs:List DG} (h:w.ownsRow base e size v n xs) (b:v.ownBlock≠some g) (i:Nat) (u:DG):(w.setCell ⟨g,i,none⟩ u).ownsRow base e size v n xs:=by
 obtain⟨h1,h2⟩:=h;refine⟨h1,?_⟩;rcases h2 with h2 | ⟨k,cap,cur,a,d,c,r⟩
 ·exact .inl h2
 ·exact .inr ⟨k,cap,cur,a,d,by rw[Ff _ _ _ _ (fun q=>b (by rw[a];exact congrArg some q))];exact c,r⟩
theorem aR {w w':DF} {v:DG} {xs:List DG} (h:w.ownsRow base e size v n xs) (a:az w w'):w'.ownsRow base e size v n xs:=qE h a (fun k b=>(h.lt k b).2)
theorem dQ {w:DF} {a:Nat} {v:DG} {xs:List DG} (h:w.ownsRow base e size v n xs) (c:a<=base):w.ownsRow a e size v n xs:=by
 obtain⟨h1,h2⟩:=h;refine⟨h1,?_⟩;rcases h2 with h2 | ⟨g,cap,cur,b,d,r⟩
 ·exact .inl h2
 ·exact .inr ⟨g,cap,cur,b,by omega,r⟩
def dB (w:DF) (g:Nat) (k:E6) (n:Nat) (f:Nat->Int):Prop:=
 (∀i,i < n->w.cell? ⟨g,i,none⟩=some (.int k (f i)))/\∀i,w.frozen? ⟨g,i,none⟩=false
theorem dB.set {w:DF} {k:E6} {f:Nat->Int} (h:dB w g k n f) (i:Nat) (b:i < n) (v:Int):
  dB (w.setCell ⟨g,i,none⟩ (.int k v)) g k n (fun j=>if j=i then v else f j):=by
 refine⟨fun j a=> ?_,fun j=>by rw[Gc];exact h.2 j⟩;by_cases e:j=i
 ·subst e;simp only[if_true];exact World.cell?_setCell_same _ _ _ (h.1 j a)
 ·simp only[if_neg e];rw[El _ _ _ _ (by intro q;injection q with _ q;omega)];exact h.1 j a
theorem dB.congr {w:DF} {k:E6} {f f':Nat->Int} (h:dB w g k n f) (e:∀i,i < n->f i=f' i):dB w g k n f':=
 ⟨fun i a=>by rw[<-e i a];exact h.1 i a,h.2⟩
theorem dB.below {w w':DF} {k:E6} {f:Nat->Int} (h:dB w g k n f) (a:EZ B w w') (b:g < B):dB w' g k n f:=
 ⟨fun i c=>by rw[(aD a).1 g i b];exact h.1 i c,fun i=>by rw[(aD a).2 g i b];exact h.2 i⟩
theorem dB.drew {w:DF} {k:E6} {f:Nat->Int} (h:dB w g k n f) (j:Nat):dB (w.drewN j) g k n f:=by
 induction j generalizing w with
 | zero=>exact h
 | succ j ih=>exact ih (w:=w.drew) h
theorem dB.other {w:DF} {k:E6} {f:Nat->Int} (h:dB w g k n f) (p:Addr) (v:DG) (hp:p.block≠g):dB (w.setCell p v) g k n f:=
 ⟨fun i a=>by rw[El _ _ _ _ (by intro q;rw[q]at hp;exact hp rfl)];exact h.1 i a,fun i=>by rw[Gc];exact h.2 i⟩
theorem dB.Cu {w:DF} {k:E6} {f:Nat->Int} (h:dB w g k 8 f) (a b c d e j l m:Int):
  dB ((((((((w.setCell ⟨g,0,none⟩ (.int k a)).setCell ⟨g,1,none⟩ (.int k b)).setCell ⟨g,2,none⟩ (.int k c)).setCell ⟨g,3,none⟩ (.int k d)).setCell ⟨g,4,none⟩ (.int k e)).setCell ⟨g,5,none⟩ (.int k j)).setCell ⟨g,6,none⟩ (.int k l)).setCell ⟨g,7,none⟩ (.int k m)) g k 8 (fun i=>([a,b,c,d,e,j,l,m]:List Int).getD i 0):=by
 refine((((((((h.set 0 (by decide) a).set 1 (by decide) b).set 2 (by decide) c).set 3 (by decide) d).set 4 (by decide) e).set 5 (by decide) j).set 6 (by decide) l).set 7 (by decide) m).congr fun i n=> ?_
 match i,n with
 | 0,_=>rfl
 | 1,_=>rfl
 | 2,_=>rfl
 | 3,_=>rfl
 | 4,_=>rfl
 | 5,_=>rfl
 | 6,_=>rfl
 | 7,_=>rfl
theorem dB.CX {w:DF} {k:E6} {f:Nat->Int} (h:dB w g k n f) (b:Nat) (a:b≠g) (c d e i j l m o:DG):
  dB ((((((((w.setCell ⟨b,0,none⟩ c).setCell ⟨b,1,none⟩ d).setCell ⟨b,2,none⟩ e).setCell ⟨b,3,none⟩ i).setCell ⟨b,4,none⟩ j).setCell ⟨b,5,none⟩ l).setCell ⟨b,6,none⟩ m).setCell ⟨b,7,none⟩ o) g k n f:=
 (((((((h.other _ _ a).other _ _ a).other _ _ a).other _ _ a).other _ _ a).other _ _ a).other _ _ a).other _ _ a
theorem lG {a w:DF} (h:EZ B a w) (b:Nat) (c:B<=b) (d e f g i j k l:DG):
  EZ B a ((((((((w.setCell ⟨b,0,none⟩ d).setCell ⟨b,1,none⟩ e).setCell ⟨b,2,none⟩ f).setCell ⟨b,3,none⟩ g).setCell ⟨b,4,none⟩ i).setCell ⟨b,5,none⟩ j).setCell ⟨b,6,none⟩ k).setCell ⟨b,7,none⟩ l):=
 (((((((h.setCell c _).setCell c _).setCell c _).setCell c _).setCell c _).setCell c _).setCell c _).setCell c _
theorem dB.grown {w w':DF} {k:E6} {f:Nat->Int} {row:Option Nat} (h:dB w g k n f) (a:w.grownBy w' row) (b:g < w.heap.size) (c:some g≠row):dB w' g k n f:=
 ⟨fun i d=>(a.cell_far ⟨g,i,none⟩ b c).trans (h.1 i d),fun i=>(a.frozen_far ⟨g,i,none⟩ b c).trans (h.2 i)⟩
theorem dB.range {w:DF} {k:E6} {f:Nat->Int} (h:dB w g k n f):w.rangeAt g 0 (ao k ((Eh n).map f)):=fun j v b=>by
 have a:j < n:=by have:=(Er.1 b).1;simpa using this
 rw[cX _ _ _ (by simpa using a)]at b;cases b;rw[DY,h.1 j a];simp[DJ,a]
theorem dB.alloc {w:DF} {k:E6} {f:Nat->Int} (h:dB w g k n f) (a:g < w.heap.size) (o:Obj):dB (w.alloc o) g k n f:=
 h.below ((DI w.heap.size w).alloc (DH _) o) a
def bA (l:List Int):Prop:=∀x∈l,0<=x/\x<=255
theorem bA.get (h:bA l) (i:Nat):0<=l.getD i 0/\l.getD i 0<=255:=by
 rw[DJ];by_cases a:i < l.length
 ·rw[DL a];exact h _ (Fc a)
 ·rw[List.getElem?_eq_none (by omega)];simp
theorem bA.append {b:List Int} (h:bA a) (k:bA b):bA (a++b):=fun x hx=>by
 rcases EL.1 hx with hx | hx
 ·exact h x hx
 ·exact k x hx
theorem bA.take (h:bA a) (n:Nat):bA (a.take n):=fun x hx=>h x (EN hx)
theorem bA.drop (h:bA a) (n:Nat):bA (a.drop n):=fun x hx=>h x (FL hx)
theorem bA.nil:bA []:=fun x hx=>by cases hx
section
variable {P:Ee} {ops:Array Oper} {rest:List Oper} {a:Act} {w w':DF} {Q:Exit->Act->DF->Prop} {d:Option Tmp} {tt ty:Ec} {pp:String} {af:Array Edge} {x y:Fu} {p v:DG}
theorem ak (hx:a.eval x=p) (c:(Fm ty p).run P w=.ok v w) (h:Fl P ops Q rest (a.put d v) w):
  Fl P ops Q (⟨d,.load ty x,tt,pp,af,none⟩ :: rest) a w:=
 H3 rfl fun K b=>by
  unfold Oper.wp Fg;simp only[hx,E0,E7,Ey,c];exact b _ _ h
theorem bM (hx:a.eval x=p) (hy:a.eval y=v) (c:(Fb ty p v).run P w=.ok () w') (h:Fl P ops Q rest (a.put d EI) w'):
  Fl P ops Q (⟨d,.store ty x y,tt,pp,af,none⟩ :: rest) a w:=
 H3 rfl fun K b=>by
  unfold Oper.wp Fg;simp only[hx,hy,E0,E7,Ey,c];exact b _ _ h
theorem kf (hx:a.eval x=p) (hy:a.eval y=v) {r:DG} (c:(Instr.index ty p v).run P w=.ok r w) (h:Fl P ops Q rest (a.put d r) w):
  Fl P ops Q (⟨d,.index ty x y,tt,pp,af,none⟩ :: rest) a w:=
 H3 rfl fun K b=>by
  unfold Oper.wp Fg;simp only[hx,hy,E0,E7,Ey,c];exact b _ _ h
end
theorem bC {P:Ee} {w:DF} {ty e:Ec} {k:E6} (a:w.rangeAt b o (ao k l)) (hu:P.underlying ty=some (.array n e)) (c:(P.info? ty).map (·.size)=some n) (d:l.length=n):
  (Fm ty (.pointer (some ⟨b,o,none⟩))).run P w=.ok (.agg (ao k l).toArray) w:=
 run_loadAt_mid w b o ty (ao k l) _ a hu rfl (by rw[c,ints_length,d])
theorem bu {P:Ee} {w:DF} {ty:Ec} {k:E6} (d:w.there b o n) (c:(P.info? ty).map (·.size)=some n) (a:l.length=n):
  (Fb ty (.pointer (some ⟨b,o,none⟩)) (.agg (ao k l).toArray)).run P w=.ok () (w.setCells b o (ao k l)):=by
 have h:=run_storeAt_mid (P:=P) w b o ty (ao k l).toArray (by simpa[a] using d) (by rw[c];simp[a]) (all_oneCell_toArray (aF _ _));simpa using h
theorem dB.there {w:DF} {k:E6} {f:Nat->Int} (h:dB w g k n f):w.there g 0 n:=fun j a=>by
 rw[DY,h.1 j a];exact⟨rfl,h.2 j⟩
theorem aE {a:DF}:∀(vs:List DG) (b o:Nat) (w:DF),EZ B a w->B<=b->EZ B a (w.setCells b o vs)
 | [],_,_,_,h,_=>h
 | v :: r,b,o,w,h,hb=>by rw[World.setCells];exact aE r b (o+1) _ (h.setCell (p:=⟨b,o,none⟩) hb _) hb
theorem jn {P:Ee} {w:DF} {ty e:Ec} {k:E6} (hu:P.underlying ty=some (.array n e)) (c:∀w,(sizeOf e).run P w=.ok 1 w) (a:∀w,(isAgg e).run P w=.ok false w) (f:l.length=n) (d:i < n):
  (Instr.index ty (.agg (ao k l).toArray) (.int .i64 i)).run P w=.ok (.int k (l.getD i 0)) w:=by
 have b:=cX k l i (by omega);have h1:(0:Int)<=(i:Int)/\(i:Int) < (n:Int):=by omega
 simp only[Instr.index,asIntOf,E0,E7,Ey,Gk hu,if_pos h1,c,part,a,Fh,if_false,Fi,Eo,List.getElem?_toArray,b]
theorem aG {P:Ee} {fn:Func} {p:Tmp} {ty:Ec} {tmps:Array DG} {w:DF} {b:Addr} {v:DG} (h:fn.results=#[.cell p ty]) (hp:tmps.getD p EI=.pointer (some b)) (a:(loadVar ty b).run P w=.ok v w):
  (results fn tmps).run P w=.ok v w:=by
 have c:tmps[p]?.getD EI=.pointer (some b):=by simpa using hp
 simp[results,h,c,asAddr,a]
def mX (g:Nat) (w w':DF):Prop:=∀k,k≠g->w'.heap[k]? =w.heap[k]?
theorem mX.refl (g:Nat) (w:DF):mX g w w:=fun _ _=>rfl
theorem mX.set {a w:DF} (h:mX g a w) (i:Nat) (u:DG):mX g a (w.setCell ⟨g,i,none⟩ u):=fun k b=>(Ff _ _ _ _ b).trans (h k b)
theorem mX.Cu {a w:DF} (h:mX g a w) (b c d e f i j k:DG):
  mX g a ((((((((w.setCell ⟨g,0,none⟩ b).setCell ⟨g,1,none⟩ c).setCell ⟨g,2,none⟩ d).setCell ⟨g,3,none⟩ e).setCell ⟨g,4,none⟩ f).setCell ⟨g,5,none⟩ i).setCell ⟨g,6,none⟩ j).setCell ⟨g,7,none⟩ k):=
 (((((((h.set 0 _).set 1 _).set 2 _).set 3 _).set 4 _).set 5 _).set 6 _).set 7 _
theorem mX.range {w w':DF} (h:mX g w w') {cs:List DG} (c:w.rangeAt b o cs) (a:b≠g):w'.rangeAt b o cs:=fun j v d=>by
 rw[World.cell?_of_block (w:=w) (h b a)];exact c j v d
theorem dB.CM {w:DF} {k:E6} {f:Nat->Int} (h:dB w g k n f) (i:Nat) (b:n<=i) (u:DG):dB (w.setCell ⟨g,i,none⟩ u) g k n f:=
 ⟨fun j a=>by rw[El _ _ _ _ (by intro q;injection q with _ q;omega)];exact h.1 j a,fun j=>by rw[Gc];exact h.2 j⟩
theorem gd {w:DF} {v:DG} (h:w.cell? ⟨g,j,none⟩=some v) (l:8<=j) (a b c d e f i k:DG):
  ((((((((w.setCell ⟨g,0,none⟩ a).setCell ⟨g,1,none⟩ b).setCell ⟨g,2,none⟩ c).setCell ⟨g,3,none⟩ d).setCell ⟨g,4,none⟩ e).setCell ⟨g,5,none⟩ f).setCell ⟨g,6,none⟩ i).setCell ⟨g,7,none⟩ k).cell? ⟨g,j,none⟩=some v:=by
 rw[El _ _ _ _ (by intro q;injection q with _ q;omega),El _ _ _ _ (by intro q;injection q with _ q;omega),El _ _ _ _ (by intro q;injection q with _ q;omega),El _ _ _ _ (by intro q;injection q with _ q;omega),El _ _ _ _ (by intro q;injection q with _ q;omega),El _ _ _ _ (by intro q;injection q with _ q;omega),El _ _ _ _ (by intro q;injection q with _ q;omega),El _ _ _ _ (by intro q;injection q with _ q;omega)];exact h
theorem eP {w:DF} {u v:DG} (h:w.cell? ⟨g,j,none⟩=some v) (a:i≠j):(w.setCell ⟨g,i,none⟩ u).cell? ⟨g,j,none⟩=some v:=by
 rw[El _ _ _ _ (by intro q;injection q with _ q;omega)];exact h
theorem ae (w:DF) (o:Obj):az w (w.alloc o):=(DI _ _).alloc (DH _) o
theorem cV (w:DF) (o:Obj) (h:B<=w.heap.size):EZ B w (w.alloc o):=(DI _ _).alloc h o
theorem nS (w:DF) (e:Ec) (k:E6) (l:List Int) (hm:l.length<=DV):
  bh (w.alloc (.cells (ao k l).toArray e)) (.slice (some ⟨w.heap.size,0,none⟩) l.length l.length) l.length (ao k l):=by
 refine .inr ⟨w.heap.size,0,l.length,rfl,DH _,hm,fun j v a=> ?_⟩;rw[DY,D6];simpa using a
def AX:DG->Nat
 | .slice _ n _=>n
 | _=>0
def jF (p:Prop):Prop:=p
theorem au {p:Prop} (h:p):jF p:=h
section
variable {P:Ee} {ops:Array Oper} {rest:List Oper} {a:Act} {w w':DF} {Q:Exit->Act->DF->Prop} {d:Option Tmp} {tt ty:Ec} {pp:String} {af:Array Edge} {x y:Fu} {p v:DG}
theorem aA (h:jF (Fl P ops Q (⟨d,.load ty x,tt,pp,af,none⟩ :: rest) a w)):Fl P ops Q (⟨d,.load ty x,tt,pp,af,none⟩ :: rest) a w:=h
theorem aC (h:jF (Fl P ops Q (⟨d,.store ty x y,tt,pp,af,none⟩ :: rest) a w)):Fl P ops Q (⟨d,.store ty x y,tt,pp,af,none⟩ :: rest) a w:=h
theorem ax {args:Array Fu} {b:Array Ec} (h:jF (Fl P ops Q (⟨d,.call {callee:=.builtin .append,args:=args,argTypes:=b},tt,pp,af,none⟩ :: rest) a w)):Fl P ops Q (⟨d,.call {callee:=.builtin .append,args:=args,argTypes:=b},tt,pp,af,none⟩ :: rest) a w:=h
end
theorem aZ {P:Ee} {ops:Array Oper} {rest:List Oper} {a:Act} {w:DF} {Q:Exit->Act->DF->Prop} {d:Option Tmp} {B t e:Ec} {pp:String} {b:Array Edge} {s x:Fu} {v u z:DG} {xs news:List DG}
  (i:jE P t e z size bytes) (r:w.ownsRow base e size v n xs) (y:bh w u m news) (A:a.eval s=v) (hx:a.eval x=u) (q:news.length=m*size) (h1:∀c∈news,c.oneCell'=true)
  (hlen:n+m<=DV) (l:(n+m)*bytes<=140737488355328) (j:base<=w.heap.size)
  (h:∀p c w',w'.ownsRow base e size (.slice p (n+m) c) (n+m) (xs++news)->w.grownBy w' v.ownBlock->EZ base w w'->(∀k,(Value.slice p (n+m) c).ownBlock=some k->v.ownBlock=some k\/w.heap.size<=k)->n+m<=c->c<=DV->Fl P ops Q rest (a.put d (.slice p (n+m) c)) w'):
  Fl P ops Q (⟨d,.call {callee:=.builtin .append,args:=#[s,x],argTypes:=#[t,t]},B,pp,b,none⟩ :: rest) a w:=
 cY i r y q h1 hlen l j A hx fun C w' h1 h2 f g=>by
  obtain⟨p,c,rfl,o,hm⟩:=(bh.AS h1).form;exact h p c w' h1 h2 f g o hm
theorem et (w:DF) (e:Ec) (B:Nat) (h:B<=w.heap.size) (size:Nat):(w.alloc (.cells #[] e)).ownsRow B e size (.slice (some ⟨w.heap.size,0,none⟩) 0 0) 0 []:=bW w e #[] B 0 size h (Nat.zero_le _) (by simp)
theorem fe (w:DF) (e:Ec) (k:E6) (x:Int):bh (w.alloc (.cells #[.int k x] e)) (.slice (some ⟨w.heap.size,0,none⟩) 1 1) 1 (ao k [x]):=nS w e k [x] (show 1<=DV from by decide)
def aK (a:Act):List Tmp->(Nat->DG)->Act
 | [],_=>a
 | t :: r,u=> {tmps:=(aK a r u).tmps.setIfInBounds t (u t),defers:=a.defers}
theorem fx (a:Act) (b:List Tmp) (u:Nat->DG):(aK a b u).defers=a.defers:=by
 cases b<;>rfl
theorem jG (a:Act) (b:List Tmp) (u:Nat->DG):(aK a b u).tmps.size=a.tmps.size:=by
 induction b with
 | nil=>rfl
 | cons t r ih=>simp[aK,ih]
theorem cW (a:Act) (b:List Tmp) (u:Nat->DG) (j:Nat):(aK a b u).tmps[j]? =if j∈b/\j < a.tmps.size then some (u j)else a.tmps[j]? :=by
 induction b with
 | nil=>simp[aK]
 | cons t r ih=>
  simp only[aK,Array.getElem?_setIfInBounds,jG,ih];by_cases e:t=j
  ·subst e;by_cases h:t < a.tmps.size
   ·simp[h]
   ·simp[h]
  ·have c:¬j=t:=fun q=>e q.symm
   simp[e,c]
theorem nT {a b:Act} (h:a.defers=b.defers) (k:∀j:Nat,a.tmps[j]? =b.tmps[j]?):a=b:=by
 cases a;cases b;simp only[Act.mk.injEq];exact⟨Array.ext_getElem? k,h⟩
theorem iq (a:Act) (b:List Tmp) (u:Nat->DG) (t:Tmp) (v:DG) (d:t∈b):
  (aK a b u).put (some t) v=aK a b (fun j=>if j=t then v else u j):=by
 refine nT (by simp[Act.put,fx]) fun j=> ?_
 simp only[Act.put,Array.getElem?_setIfInBounds,jG,cW];by_cases e:t=j
 ·subst e;by_cases h:t < a.tmps.size
  ·simp[h,d]
  ·simp[h]
 ·have c:¬j=t:=fun q=>e q.symm
  simp[e,c]
theorem jH (a:Act) (b:List Tmp):∃u,a=aK a b u:=by
 refine⟨fun j=>a.tmps.getD j EI,nT (by rw[fx]) fun j=> ?_⟩;rw[cW];split
 ·rename_i h;simp[h.2]
 ·rfl
def bT (l:List Oper):List Tmp:=l.filterMap (·.dst)
def il (l:List Oper) (V:Nat->DG->DF->Prop) (u:Nat->DG) (w:DF) (j:Nat):Prop:=
 match (l[j]?).bind (·.dst)with
 | some d=>V j (u d) w
 | none=>True
def eC (l:List Oper) (V:Nat->DG->DF->Prop) (u:Nat->DG) (w:DF):List Edge->Prop
 | []=>True
 | e :: r=>il l V u w e.on/\eC l V u w r
def qG (P:Ee) (Q:Exit->Act->DF->Prop) (l:List Oper) (hs:List Tmp) (a0:Act) (w0:DF) (V:Nat->DG->DF->Prop) (i:Nat) (o:Oper):Prop:=
 ∀(u:Nat->DG) (w:DF),az w0 w->eC l V u w o.after.toList->∀K:Act->DF->Prop,
  (∀a' w',(∃v,a'=(aK a0 hs u).put o.dst v/\az w w'/\(o.dst.isSome=true->V i v w'))->K a' w')->
  if DP o (yielded l.toArray (aK a0 hs u).tmps)=true then o.wp P (aK a0 hs u) w K Q else K ((aK a0 hs u).put o.dst EI) w
def gG (P:Ee) (Q:Exit->Act->DF->Prop) (l:List Oper) (hs:List Tmp) (a0:Act) (w0:DF) (V:Nat->DG->DF->Prop):List Oper->Nat->Prop
 | [],_=>True
 | o :: r,i=>qG P Q l hs a0 w0 V i o/\gG P Q l hs a0 w0 V r (i+1)
theorem gG.get {P:Ee} {Q:Exit->Act->DF->Prop} {l:List Oper} {a:List Tmp} {a0:Act} {b:DF} {V:Nat->DG->DF->Prop}:
  ∀(r:List Oper) (i:Nat),gG P Q l a a0 b V r i->∀j o,r[j]? =some o->qG P Q l a a0 b V (i+j) o
 | [],_,_,j,o,h=>by simp at h
 | x :: r,i,h,0,o,hj=>by simp at hj;subst hj;exact h.1
 | x :: r,i,h,j+1,o,hj=>by
  have:=gG.get r (i+1) h.2 j o (by simpa using hj);rw[show i+(j+1)=i+1+j from by omega];exact this
def gh (m n:Nat):Array Bool:=((Eh m).map (fun j=>decide (j < n))).toArray
def yF (l:List Oper):Bool:=l.zipIdx.all fun(o,i)=>o.after.toList.all fun e=> !Fo .any e||decide (e.on < i)
def jI:List (Option Tmp)->Bool
 | []=>true
 | none :: r=>jI r
 | some t :: r=> !r.contains (some t)&&jI r
def lg (l:List Oper) (n:Nat):Bool:=
 decide (n < l.length)&&Region.sinkB .any l.toArray n&&Region.chainB .any l.toArray n&&yF l&&jI ((l.take n).map (·.dst))&&l.all (fun o=>o.after.toList.all fun e=>Fo .any e)&&
  Region.seqB .any l.toArray (l.length - n) n (gh l.length n)
theorem nU (p q:Nat->Bool) (i:Nat) (hp:p i=false) (b:q i=true) (a:∀j,j≠i->q j=p j):∀n,i < n->(Eh n).countP q=(Eh n).countP p+1:=by
 intro n;induction n with
 | zero=>intro h;omega
 | succ n ih=>
  intro h;rw[G2,Gz,Gz];by_cases e:i=n
  ·subst e;have:∀m,m<=i->(Eh m).countP q=(Eh m).countP p:=by
    intro m;induction m with
    | zero=>intro _;rfl
    | succ m ihm=>intro hm;rw[G2,Gz,Gz,ihm (by omega)];simp[a m (by omega)]
   rw[this i (DH _)];simp[hp,b]
  ·rw[ih (by omega)];simp[a n (by omega)];omega
theorem lv (p:Nat->Bool):∀n,(Eh n).countP p=n->∀j,j < n->p j=true:=by
 intro n;induction n with
 | zero=>intro _ j b;omega
 | succ n ih=>
  intro h j b;rw[G2,Gz]at h;have h1:(Eh n).countP p<=n:=by simpa using List.countP_le_length (p:=p) (l:=Eh n)
  have h2: [n].countP p<=1:=List.countP_le_length (p:=p) (l:=[n]);have a: [n].countP p=1:=by omega
  by_cases e:j=n
  ·subst e;by_cases hp:p j=true
   ·exact hp
   ·simp[hp]at a
  ·exact ih (by omega) j (by omega)
theorem qH (p:Nat->Bool):∀n,(Eh n).countP p < n->∃j,j < n/\p j=false/\∀k,k < j->p k=true:=by
 intro n;induction n with
 | zero=>intro h;omega
 | succ n ih=>
  intro h;by_cases d:(Eh n).countP p < n
  ·obtain⟨j,a,b,c⟩:=ih d;exact⟨j,by omega,b,c⟩
  ·have h1:(Eh n).countP p<=n:=by simpa using List.countP_le_length (p:=p) (l:=Eh n)
   have he:(Eh n).countP p=n:=by omega
   refine⟨n,by omega,?_,lv p n he⟩;rw[G2,Gz,he]at h;by_cases hp:p n=true
   ·simp[hp]at h
   ·simpa using hp
theorem gH:∀(r:List (Option Tmp)),jI r=true->∀(i j:Nat) (t:Tmp),r[i]? =some (some t)->r[j]? =some (some t)->i=j
 | [],_,i,j,t,h,_=>by simp at h
 | x :: r,hd,i,j,t,h,k=>by
  have a:jI r=true:=by cases x<;>simp[jI]at hd<;>first | exact hd | exact hd.2
  cases i with
  | zero=>
   cases j with
   | zero=>rfl
   | succ j=>simp at h k;subst h;simp[jI]at hd;exact absurd (EY k) hd.1
  | succ i=>
   cases j with
   | zero=>simp at h k;subst k;simp[jI]at hd;exact absurd (EY h) hd.1
   | succ j=>simp at h k;rw[gH r a i j t h k]
theorem eC.of {l:List Oper} {V:Nat->DG->DF->Prop} {u:Nat->DG} {w:DF}:∀(es:List Edge),(∀e∈es,il l V u w e.on)->eC l V u w es
 | [],_=>trivial
 | e :: r,h=>⟨h e (by simp),eC.of r (fun a he=>h a (by simp[he]))⟩
theorem il.mono {l:List Oper} {V:Nat->DG->DF->Prop} (hmono:∀i v w w',V i v w->az w w'->V i v w') {u:Nat->DG} {w w':DF} (h:il l V u w j) (hw:az w w'):il l V u w' j:=by
 unfold il at h⊢;cases hd:(l[j]?).bind (·.dst)with
 | none=>trivial
 | some d=>simp only[hd]at h⊢;exact hmono _ _ _ _ h hw
theorem il.Dl {l:List Oper} {V:Nat->DG->DF->Prop} {u:Nat->DG} {w:DF} {d:Nat} {v:DG} (h:il l V u w j) (a:(l[j]?).bind (·.dst)≠some d):il l V (fun k=>if k=d then v else u k) w j:=by
 unfold il at h⊢;cases hd:(l[j]?).bind (·.dst)with
 | none=>trivial
 | some d'=>simp only[hd]at h⊢a;rw[if_neg (fun q=>a (by rw[q]))];exact h
section
variable {P:Ee} {Q:Exit->Act->DF->Prop} {l:List Oper} {n:Nat} {a0:Act} {w0:DF} {V:Nat->DG->DF->Prop}
theorem sY (B:lg l n=true)
  (hmono:∀i v w w',V i v w->az w w'->V i v w')
  (hsteps:gG P Q l (bT (l.take n)) a0 w0 V (l.take n) 0)
  (hend:∀(u:Nat->DG) (w:DF),az w0 w->(∀j,j < n->il l V u w j)->Fl P l.toArray Q (l.drop n) (aK a0 (bT (l.take n)) u) w):
  ∀(f:Nat) (listed:Array Bool) (u:Nat->DG) (w:DF),HeadInv .any l.toArray n listed->(Eh n).countP (fun j=>listed.getD j false)+f=n->
   az w0 w->(∀j,j < n->listed.getD j false=true->il l V u w j)->
   wpAny P .any l.toArray Q (f+(l.length - n)) listed (aK a0 (bT (l.take n)) u) w:=by
 simp only[lg,Ek,decide_eq_true_eq]at B;obtain⟨⟨⟨⟨⟨⟨X,Z⟩,J⟩,C⟩,R⟩,I⟩,aa⟩:=B;intro f;induction f with
 | zero=>
  intro listed u w inv K g hy;rw[DY];have k:=lv (fun j=>listed.getD j false) n (by omega);have T:listed=gh l.length n:=by
   have ab:listed.size=l.length:=by rw[inv.size];simp
   refine Array.ext (by rw[ab];simp[gh]) fun j h1 h2=> ?_
   simp only[gh,List.getElem_toArray,List.getElem_map,List.getElem_range];by_cases a:j < n
   ·have:=k j a;simp[h1]at this;simp[a,this]
   ·have:=inv.tail j (by omega) (by simp;omega);simp[h1]at this;simp[a,this]
  have hw:=hend u w g (fun j a=>hy j a (k j a));have:=wpAny_of_seq (P:=P) (md:=.any) (ops:=l.toArray) (Q':=Q) (l.drop n) n listed (aK a0 (bT (l.take n)) u) w (fun j=>by simp[E3])
   (by rw[DR,T];exact aa) hw
  rwa[DR]at this
 | succ f ih=>
  intro listed u w inv K g hy;rw[show f+1+(l.length - n)=(f+(l.length - n))+1 from by omega];obtain⟨i0,S,ad,W⟩:=qH (fun j=>listed.getD j false) n (by omega);have af:listed.size=l.length:=by rw[inv.size];simp
  have G:listed.getD i0 true=false:=getD_in (by omega) ad;have E:i0∈Region.ready .any l.toArray listed:=by
   refine mem_ready.2 ⟨G,l[i0]'(by omega),by simp,fun e he m=> ?_⟩
   have h1:=Eg.1 C (l[i0]'(by omega),i0) (by
    rw[EO];simp)
   have h2:=Eg.1 h1 e (by simpa using he);simp only[m,Ep,Gv,decide_eq_true_eq]at h2;exact W e.on h2
  refine⟨fun h=>(by rw[h]at E;cases E),fun i x=> ?_⟩;have y:i < n:=by
   rcases Nat.lt_or_ge i n with h | h
   ·exact h
   ·exact absurd x (tail_waits Z J (by simpa using X) inv _ i0 rfl S G i h)
  obtain⟨ac,o,z,k⟩:=mem_ready.1 x;have A:(l.take n)[i]? =some o:=by rw[EA,if_pos y];simpa using z
  have p:l[i]? =some o:=by simpa using z
  have F:=hsteps.get _ 0 i o A;rw[DY]at F;have O:eC l V u w o.after.toList:=eC.of _ fun e he=>by
   have m:Fo .any e=true:=by have h1:=Eg.1 I o (EY p);exact Eg.1 h1 e he
   have hle:=k e (by simpa using he) m;have h1:=Eg.1 C (o,i) (by rw[EO];simpa using p);have h2:=Eg.1 h1 e he;simp only[m,Ep,Gv,decide_eq_true_eq]at h2;exact hy e.on (by omega) hle
  have U:∀d,o.dst=some d->d∈bT (l.take n):=fun d c=>by refine GA.2 ⟨o,EY A,c⟩
  have N:∀j d,j < n->(l[j]?).bind (·.dst)=some d->o.dst=some d->j=i:=fun j d a h1 h2=>by
   have L:((l.take n).map (·.dst))[i]? =some (some d):=by rw[Ev,A];simp[h2]
   have M:((l.take n).map (·.dst))[j]? =some (some d):=by
    rw[Ev,EA,if_pos a];cases b:l[j]? with
    | none=>rw[b]at h1;cases h1
    | some oj=>rw[b]at h1;simpa using h1
   exact gH _ R j i d M L
  have Y:∀t w',(∃v,t=(aK a0 (bT (l.take n)) u).put o.dst v/\az w w'/\(o.dst.isSome=true->V i v w'))->
    wpAny P .any l.toArray Q (f+(l.length - n)) (listed.setIfInBounds i true) t w':=by
   rintro t w' ⟨v,rfl,s,hv⟩;have D:(Eh n).countP (fun j=>(listed.setIfInBounds i true).getD j false)+f=n:=by rw[nU (fun j=>listed.getD j false) (fun j=>(listed.setIfInBounds i true).getD j false) i (getD_both ac) (by simp[show i < listed.size by omega]) (fun j a=>GC false (Ne.symm a)) n y];omega
   have H:=inv.set x y;cases c:o.dst with
   | none=>
    simp only[Act.put];refine ih _ u w' H D (g.trans s) fun j a b=> ?_
    by_cases e:j=i
    ·subst e;simp only[il,p,Fj,c]
    ·rw[GC false (Ne.symm e)]at b;exact(hy j a b).mono hmono s
   | some d=>
    rw[iq _ _ _ _ _ (U d c)];refine ih _ _ w' H D (g.trans s) fun j a b=> ?_
    by_cases e:j=i
    ·subst e;simp only[il,p,Fj,c,if_true];exact hv (by rw[c];rfl)
    ·rw[GC false (Ne.symm e)]at b;exact((hy j a b).mono hmono s).Dl (fun q=>e (N j d a q c))
  have r:=F u w g O _ Y;unfold wpOp;simp only[z];split
  ·rename_i hw;rw[if_pos hw]at r;exact .inl r
  ·rename_i hw;rw[if_neg hw]at r;exact r
theorem lh {id:Nat} (n:Nat) (V:Nat->DG->DF->Prop) (hm:P.follows .mixedOrders=true) (b:lg l n=true)
  (hmono:∀i v w w',V i v w->az w w'->V i v w')
  (hsteps:gG P Q l (bT (l.take n)) a0 w0 V (l.take n) 0)
  (hend:∀(u:Nat->DG) (w:DF),az w0 w->(∀j,j < n->il l V u w j)->Fl P l.toArray Q (l.drop n) (aK a0 (bT (l.take n)) u) w):
  (Code.region id l.toArray true).wp P Q a0 w0:=by
 refine wp_region_any hm ?_;obtain⟨u,hu⟩:=jH a0 (bT (l.take n));have f:n < l.length:=by simp only[lg,Ek,decide_eq_true_eq]at b;exact b.1.1.1.1.1.1
 have e:HeadInv .any l.toArray n (FP l.toArray.size false):=
  ⟨by simp,fun j g _ a=>(by rw[ER]at a;cases a),fun t _ d=>getD_in (by simpa using d) (ER _ _)⟩
 have:=sY b hmono hsteps hend n (FP l.toArray.size false) u {w0 with drawn:=w0.drawn+1} e (by
  have:(Eh n).countP (fun j=>(FP l.toArray.size false).getD j false)=0:=by rw[List.countP_eq_zero];intro j _ c;rw[ER]at c;cases c
  omega) ((DI _ _).drew) (fun j _ a=>by rw[ER]at a;cases a)
 rw[<-hu]at this;rw[show n+(l.length - n)=l.length from by omega]at this;simpa using this
end
def aX (ev:Nat->DG):Fu->DG
 | .tmp t=>ev t
 | .const v=>v
 | .global g=>.pointer (some ⟨g,0,none⟩)
 | .func f=>.func (.func f) #[] #[]
def ir (l:List Oper) (ev:Nat->DG) (j:Nat):Option Bool:=
 match (l[j]?).bind (·.dst)with
 | some d=>match ev d with | .bool b=>some b | _=>none
 | none=>none
def gi (P:Ee) (w:DF) (φ :DG->DF->Prop):Result Next->Prop
 | .ok (.value v) w'=>az w w'/\ φ v w'
 | .ok .skip w'=>az w w'/\ φ EI w'
 | .ok (.enter f args) w'=>Calls P f args w' (fun e w''=>∃v,e=.returned v/\az w w''/\ φ v w'')
 | _=>False
def dJ (P:Ee) (l:List Oper) (o:Oper) (ev:Nat->DG) (w:DF) (φ :DG->DF->Prop):Prop:=
 if DP o (ir l ev)=true then gi P w φ ((Fg (aX ev) o).run P w)else φ EI w
def kL (l:List Oper) (Vs:List (DG->DF->Prop)) (ev:Nat->DG) (w:DF):List Edge->Prop
 | []=>True
 | e :: r=>(match (l[e.on]?).bind (·.dst)with | some d=>Vs.getD e.on (fun _ _=>True) (ev d) w | none=>True)/\kL l Vs ev w r
def lH (P:Ee) (l:List Oper) (hs:List Tmp) (a0:Act) (w0:DF) (Vs:List (DG->DF->Prop)) (i:Nat) (o:Oper):Prop:=
 ∀(ev:Nat->DG) (w:DF),az w0 w->(∀t,t ∉ hs->ev t=a0.tmps.getD t EI)->kL l Vs ev w o.after.toList->dJ P l o ev w (Vs.getD i (fun _ _=>True))
def fy (P:Ee) (l:List Oper) (hs:List Tmp) (a0:Act) (w0:DF) (Vs:List (DG->DF->Prop)):List Oper->Nat->Prop
 | [],_=>True
 | o :: r,i=>lH P l hs a0 w0 Vs i o/\fy P l hs a0 w0 Vs r (i+1)
def je:List (DG->DF->Prop)->Prop
 | []=>True
 | V :: r=>(∀v w w',V v w->az w w'->V v w')/\je r
theorem je.get:∀(a:List (DG->DF->Prop)),je a->∀i v w w',a.getD i (fun _ _=>True) v w->az w w'->a.getD i (fun _ _=>True) v w'
 | [],_,_,_,_,_,_,_=>by simp
 | V :: r,h,0,v,w,w',hv,hw=>by simpa using h.1 v w w' (by simpa using hv) hw
 | V :: r,h,i+1,v,w,w',hv,hw=>by
  have:=je.get r h.2 i v w w' (by simpa using hv) hw;simpa using this
def ar (m:DG):DG->DF->Prop:=fun v _=>v=m
theorem aB (m:DG):∀v w w',ar m v w->az w w'->ar m v w':=fun _ _ _ h _=>h
def bK:DG->DF->Prop:=fun _ _=>True
theorem sZ:∀v w w',bK v w->az w w'->bK v w':=fun _ _ _ h _=>h
theorem kg (a0:Act) (a:List Tmp) (u:Nat->DG):(aK a0 a u).eval=aX (fun t=>(aK a0 a u).tmps.getD t EI):=by
 funext x;cases x<;>rfl
theorem jo (l:List Oper) (a:Act):yielded l.toArray a.tmps=ir l (fun t=>a.tmps.getD t EI):=by
 funext j;unfold yielded ir;simp only[List.getElem?_toArray];cases (l[j]?).bind (·.dst)with
 | none=>rfl
 | some d=>
  simp only[Fj,EE];cases h:a.tmps[d]? with
  | none=>simp[EI]
  | some v=>cases v<;>simp
theorem oJ {P:Ee} {o:Oper} {a:Act} {w:DF} {K:Act->DF->Prop} {Q:Exit->Act->DF->Prop} {φ :DG->DF->Prop} {b:Nat->DG}
  (he:a.eval=aX b) (h:gi P w φ ((Fg (aX b) o).run P w)) (c:∀v w',az w w'-> φ v w'->K (a.put o.dst v) w'):o.wp P a w K Q:=by
 unfold Oper.wp;rw[he];generalize (Fg (aX b) o).run P w=r at*;cases r with
 | ok n w'=>
  cases n<;>simp only[gi]at h<;>simp only[Oper.upon]
  case value v=>exact c _ _ h.1 h.2
  case skip=>exact c _ _ h.1 h.2
  case enter f args=>exact h.mono fun e g ⟨v,d,h1,h2⟩=>by subst d;exact c _ _ h1 h2
 | halt x w'=>simp only[gi]at h
section
variable {P:Ee} {Q:Exit->Act->DF->Prop} {l:List Oper} {n:Nat} {a0:Act} {w0:DF} {Vs:List (DG->DF->Prop)}
theorem lH.ok {b:List Tmp} {i:Nat} {o:Oper} (y:∀t∈b,t < a0.tmps.size) (s:∀j f d,l[j]? =some f->f.dst=some d->(∃e∈o.after.toList,e.on=j)->d∈b)
  (h:lH P l b a0 w0 Vs i o):qG P Q l b a0 w0 (fun i=>Vs.getD i (fun _ _=>True)) i o:=by
 intro u w p m K g;have n:∀d,d∈b->(aK a0 b u).tmps.getD d EI=u d:=fun d a=>by rw[EE,cW,if_pos ⟨a,y d a⟩];rfl
 have k:∀(es:List Edge),(∀e∈es,e∈o.after.toList)->eC l (fun i=>Vs.getD i (fun _ _=>True)) u w es->kL l Vs (fun t=>(aK a0 b u).tmps.getD t EI) w es:=by
  intro es;induction es with
  | nil=>intro _ _;trivial
  | cons e r ih=>
   intro hm a;refine⟨?_,ih (fun x hx=>hm x (by simp[hx])) a.2⟩;have h1:=a.1;unfold il at h1;cases hl:(l[e.on]?)with
   | none=>simp
   | some f=>
    simp only[hl,Fj]at h1⊢;cases hdj:f.dst with
    | none=>simp
    | some d=>simp only[hdj]at h1⊢;rw[n d (s e.on f d hl hdj ⟨e,hm e (by simp),rfl⟩)];exact h1
 have c:=h (fun t=>(aK a0 b u).tmps.getD t EI) w p (fun t z=>by
  rw[EE,cW,if_neg (fun q=>z q.1),EE]) (k _ (fun _ h=>h) m)
 unfold dJ at c;rw[jo];split
 ·rename_i hw;rw[if_pos hw]at c;exact oJ (kg a0 b u) c fun v w' h1 h2=>by
   cases a:o.dst with
   | none=>exact g _ _ ⟨v,by rw[a],h1,fun q=>by rw[a]at q;cases q⟩
   | some d=>exact g _ _ ⟨v,by rw[a],h1,fun _=>h2⟩
 ·rename_i hw;rw[if_neg hw]at c;exact g _ _ ⟨EI,rfl,DI _ _,fun _=>c⟩
theorem fy.ok {a:List Tmp} (b:∀t∈a,t < a0.tmps.size):∀(r:List Oper) (i:Nat),(∀(j:Nat) (o:Oper),r[j]? =some o->∀(k:Nat) (c:Oper) (d:Tmp),l[k]? =some c->c.dst=some d->(∃e∈o.after.toList,e.on=k)->d∈a)->
  fy P l a a0 w0 Vs r i->gG P Q l a a0 w0 (fun i=>Vs.getD i (fun _ _=>True)) r i
 | [],_,_,_=>trivial
 | o :: r,i,hin,h=>⟨lH.ok b (hin 0 o (by simp)) h.1,fy.ok b r (i+1) (fun j g f=>hin (j+1) g (by simpa using f)) h.2⟩
def uN (a:Act) (hs:List Tmp):Bool:=hs.all fun t=>decide (t < a.tmps.size)
def kh (l:List Oper) (Vs:List (DG->DF->Prop)) (u:Nat->DG) (w:DF):Nat->Prop
 | 0=>True
 | j+1=>kh l Vs u w j/\(match (l[j]?).bind (·.dst)with | some d=>Vs.getD j (fun _ _=>True) (u d) w | none=>True)
theorem kh.of {u:Nat->DG} {w:DF}:∀n,(∀j,j < n->il l (fun i=>Vs.getD i (fun _ _=>True)) u w j)->kh l Vs u w n
 | 0,_=>trivial
 | j+1,h=>⟨kh.of j (fun k a=>h k (by omega)),h j (by omega)⟩
theorem aL {id:Nat} (n:Nat) (c:List Tmp) (b:List (DG->DF->Prop)) (hm:P.follows .mixedOrders=true) (f:lg l n=true) (x:bT (l.take n)=c) (z:uN a0 c=true)
  (hmono:je b)
  (hsteps:fy P l c a0 w0 b (l.take n) 0)
  (hend:∀(u:Nat->DG) (w:DF),az w0 w->kh l b u w n->Fl P l.toArray Q (l.drop n) (aK a0 c u) w):
  (Code.region id l.toArray true).wp P Q a0 w0:=by
 subst x;have r:∀(i:Nat) (o:Oper),(l.take n)[i]? =some o->∀e∈o.after.toList,e.on < i:=fun i o a e he=>by
  have g:=f;simp only[lg,Ek,decide_eq_true_eq]at g;obtain⟨⟨⟨⟨⟨⟨F,c⟩,C⟩,q⟩,D⟩,s⟩,G⟩:=g;have h:i < n:=by have:=(Er.1 a).1;simp at this;omega
  have j:l[i]? =some o:=by rw[EA,if_pos h]at a;exact a
  have h1:=Eg.1 q (o,i) (by rw[EO];simpa using j);have h2:=Eg.1 h1 e he;have m:=Eg.1 s o (EY j);have p:=Eg.1 m e he;simp only[p,Ep,Gv,decide_eq_true_eq]at h2;exact h2
 refine lh n (fun i=>b.getD i (fun _ _=>True)) hm f (je.get b hmono) (fy.ok (fun t A=>by
   have:=Eg.1 z t A;simpa using this) _ 0 ?_ hsteps) (fun u w h1 h2=>hend u w h1 (kh.of n h2))
 rintro i o a k B d y v ⟨e,he,rfl⟩;have E:=r i o a e he;have h:i < n:=by have:=(Er.1 a).1;simp at this;omega
 refine GA.2 ⟨B,EY (i:=e.on) ?_,v⟩;rw[EA,if_pos (by omega)];exact y
end
@[go_sem] theorem evalE_tmp (ev:Nat->DG) (t:Tmp):aX ev (.tmp t)=ev t:=rfl
@[go_sem] theorem evalE_const (ev:Nat->DG) (v:DG):aX ev (.const v)=v:=rfl
@[go_sem] theorem evalE_global (ev:Nat->DG) (g:Nat):aX ev (.global g)=.pointer (some ⟨g,0,none⟩):=rfl
@[go_sem] theorem evalE_func (ev:Nat->DG) (f:FuncId):aX ev (.func f)=.func (.func f) #[] #[]:=rfl
section
variable (P:Ee) (w w':DF) (φ :DG->DF->Prop)
@[go_sem] theorem GoodR_value (v:DG):gi P w φ (.ok (.value v) w')=(az w w'/\ φ v w'):=rfl
@[go_sem] theorem GoodR_skip:gi P w φ (.ok .skip w')=(az w w'/\ φ EI w'):=rfl
@[go_sem] theorem GoodR_enter (f:FuncId) (args:Array DG):gi P w φ (.ok (.enter f args) w')=Calls P f args w' (fun e w''=>∃v,e=.returned v/\az w w''/\ φ v w''):=rfl
end
def aQ (o:Option Tmp) (u:Nat->DG) (v:DG):Nat->DG:=match o with | some t=>fun j=>if j=t then v else u j | none=>u
def bD (d:Nat->Bool) (i:Nat):Nat->Bool:=fun j=>if j=i then true else d j
def uO (l:List Oper):Nat->Nat->Nat->Bool
 | 0,_,_=>false
 | f+1,j,i=>match l[i]? with
  | some o=>o.after.toList.any fun e=>e.on==j||uO l f j e.on
  | none=>false
section
variable (R:DF->DF->Prop) (J:(Nat->Bool)->(Nat->DG)->DF->Prop)
def zW (P:Ee) (Q:Exit->Act->DF->Prop) (l:List Oper) (hs:List Tmp) (a0:Act) (w0:DF) (V:Nat->DG->DF->Prop) (i:Nat) (o:Oper):Prop:=
 ∀(d:Nat->Bool) (u:Nat->DG) (w:DF),(∀t,t ∉ hs->u t=a0.tmps.getD t EI)->R w0 w->J d u w->(∀j,uO l l.length j i=true->d j=true)->(∀j,uO l l.length i j=true->d j=false)->d i=false->eC l V u w o.after.toList->∀K:Act->DF->Prop,
  (∀a' w',(∃v,a'=(aK a0 hs u).put o.dst v/\R w w'/\J (bD d i) (aQ o.dst u v) w'/\(o.dst.isSome=true->V i v w'))->K a' w')->
  if DP o (yielded l.toArray (aK a0 hs u).tmps)=true then o.wp P (aK a0 hs u) w K Q else K ((aK a0 hs u).put o.dst EI) w
def yS (P:Ee) (Q:Exit->Act->DF->Prop) (l:List Oper) (hs:List Tmp) (a0:Act) (w0:DF) (V:Nat->DG->DF->Prop):List Oper->Nat->Prop
 | [],_=>True
 | o :: r,i=>zW R J P Q l hs a0 w0 V i o/\yS P Q l hs a0 w0 V r (i+1)
end
theorem il.C5 {R:DF->DF->Prop} {l:List Oper} {V:Nat->DG->DF->Prop} (hmono:∀i v w w',V i v w->R w w'->V i v w') {u:Nat->DG} {w w':DF} (h:il l V u w j) (hw:R w w'):il l V u w' j:=by
 unfold il at h⊢;cases hd:(l[j]?).bind (·.dst)with
 | none=>trivial
 | some d=>simp only[hd]at h⊢;exact hmono _ _ _ _ h hw
section
variable {R:DF->DF->Prop} {J:(Nat->Bool)->(Nat->DG)->DF->Prop} {P:Ee} {Q:Exit->Act->DF->Prop} {l:List Oper} {n:Nat} {a0:Act} {w0:DF} {V:Nat->DG->DF->Prop}
end
def dU (R:DF->DF->Prop) (P:Ee) (w:DF) (φ :DG->DF->Prop):Result Next->Prop
 | .ok (.value v) w'=>R w w'/\ φ v w'
 | .ok .skip w'=>R w w'/\ φ EI w'
 | .ok (.enter f args) w'=>Calls P f args w' (fun e w''=>∃v,e=.returned v/\R w w''/\ φ v w'')
 | _=>False
theorem oK {R:DF->DF->Prop} {P:Ee} {o:Oper} {a:Act} {w:DF} {K:Act->DF->Prop} {Q:Exit->Act->DF->Prop} {φ :DG->DF->Prop} {b:Nat->DG}
  (he:a.eval=aX b) (h:dU R P w φ ((Fg (aX b) o).run P w)) (c:∀v w',R w w'-> φ v w'->K (a.put o.dst v) w'):o.wp P a w K Q:=by
 unfold Oper.wp;rw[he];generalize (Fg (aX b) o).run P w=r at*;cases r with
 | ok n w'=>
  cases n<;>simp only[dU]at h<;>simp only[Oper.upon]
  case value v=>exact c _ _ h.1 h.2
  case skip=>exact c _ _ h.1 h.2
  case enter f args=>exact h.mono fun e g ⟨v,d,h1,h2⟩=>by subst d;exact c _ _ h1 h2
 | halt x w'=>simp only[dU]at h
section
variable (R:DF->DF->Prop) (J:(Nat->Bool)->(Nat->DG)->DF->Prop)
def yT (P:Ee) (l:List Oper) (hs:List Tmp) (a0:Act) (w0:DF) (Vs:List (DG->DF->Prop)) (i:Nat) (o:Oper):Prop:=
 ∀(d:Nat->Bool) (ev:Nat->DG) (w:DF),R w0 w->J d ev w->(∀j,uO l l.length j i=true->d j=true)->(∀j,uO l l.length i j=true->d j=false)->d i=false->(∀t,t ∉ hs->ev t=a0.tmps.getD t EI)->kL l Vs ev w o.after.toList->
  if DP o (ir l ev)=true then dU R P w (fun v w'=>Vs.getD i (fun _ _=>True) v w'/\J (bD d i) (aQ o.dst ev v) w') ((Fg (aX ev) o).run P w)else(Vs.getD i (fun _ _=>True) EI w/\J (bD d i) (aQ o.dst ev EI) w)
def xA (P:Ee) (l:List Oper) (hs:List Tmp) (a0:Act) (w0:DF) (Vs:List (DG->DF->Prop)):List Oper->Nat->Prop
 | [],_=>True
 | o :: r,i=>yT R J P l hs a0 w0 Vs i o/\xA P l hs a0 w0 Vs r (i+1)
def kM:List (DG->DF->Prop)->Prop
 | []=>True
 | V :: r=>(∀v w w',V v w->R w w'->V v w')/\kM r
end
theorem kM.get {R:DF->DF->Prop}:∀(a:List (DG->DF->Prop)),kM R a->∀i v w w',a.getD i (fun _ _=>True) v w->R w w'->a.getD i (fun _ _=>True) v w'
 | [],_,_,_,_,_,_,_=>by simp
 | V :: r,h,0,v,w,w',hv,hw=>by simpa using h.1 v w w' (by simpa using hv) hw
 | V :: r,h,i+1,v,w,w',hv,hw=>by
  have:=kM.get r h.2 i v w w' (by simpa using hv) hw;simpa using this
theorem s6 {R:DF->DF->Prop} (m:DG):∀v w w',ar m v w->R w w'->ar m v w':=fun _ _ _ h _=>h
theorem qJ {R:DF->DF->Prop}:∀v w w',bK v w->R w w'->bK v w':=fun _ _ _ h _=>h
section
variable {R:DF->DF->Prop} {J:(Nat->Bool)->(Nat->DG)->DF->Prop} {P:Ee} {Q:Exit->Act->DF->Prop} {l:List Oper} {n:Nat} {a0:Act} {w0:DF} {Vs:List (DG->DF->Prop)}
end
section
variable (R:DF->DF->Prop) (P:Ee) (w w':DF) (φ :DG->DF->Prop)
@[go_sem] theorem GoodX_value (v:DG):dU R P w φ (.ok (.value v) w')=(R w w'/\ φ v w'):=rfl
@[go_sem] theorem GoodX_skip:dU R P w φ (.ok .skip w')=(R w w'/\ φ EI w'):=rfl
@[go_sem] theorem GoodX_enter (f:FuncId) (args:Array DG):dU R P w φ (.ok (.enter f args) w')=Calls P f args w' (fun e w''=>∃v,e=.returned v/\R w w''/\ φ v w''):=rfl
end
def kj (l:List Oper):Nat->Nat->Nat->Bool
 | 0,_,_=>false
 | f+1,j,i=>match l[i]? with
  | some o=>o.after.toList.any fun e=>Fo .any e&&(e.on==j||kj l f j e.on)
  | none=>false
theorem kl {l:List Oper} (a:∀j c,l[j]? =some c->d j=true->∀e∈c.after.toList,Fo .any e=true->d e.on=true):∀(f j i:Nat),kj l f j i=true->d i=true->d j=true
 | 0,_,_,h,_=>by simp[kj]at h
 | f+1,j,i,h,hi=>by
  unfold kj at h;split at h
  ·rename_i o k;obtain⟨e,he,h1⟩:=List.any_eq_true.1 h;simp only[Ek,Bool.or_eq_true,beq_iff_eq]at h1;obtain⟨g,h1⟩:=h1;have b:=a i o k hi e he g;rcases h1 with h1 | h1
   ·rw[<-h1];exact b
   ·exact kl a f j e.on h1 b
  ·cases h
theorem qK {l:List Oper} (g:∀j c,l[j]? =some c->d j=true->∀e∈c.after.toList,Fo .any e=true->d e.on=true) (f j i:Nat) {o:Oper} (k:l[i]? =some o) (a:∀e∈o.after.toList,Fo .any e=true->d e.on=true) (h:kj l f j i=true):d j=true:=by
 cases f with
 | zero=>simp[kj]at h
 | succ f=>
  unfold kj at h;rw[k]at h;obtain⟨e,he,h1⟩:=List.any_eq_true.1 h;simp only[Ek,Bool.or_eq_true,beq_iff_eq]at h1;obtain⟨b,h1⟩:=h1;rcases h1 with h1 | h1
  ·rw[<-h1];exact a e he b
  ·exact kl g f j e.on h1 (a e he b)
def fR (l:List Oper) (V:Nat->DG->DF->Prop) (u:Nat->DG) (w:DF):List Edge->Prop
 | []=>True
 | e :: r=>(match e.ground with | .textOnly _=>True | .gcOnly _=>True | _=>il l V u w e.on)/\fR l V u w r
theorem fR.of {l:List Oper} {V:Nat->DG->DF->Prop} {u:Nat->DG} {w:DF}:∀(es:List Edge),(∀e∈es,Fo .any e=true->il l V u w e.on)->fR l V u w es
 | [],_=>trivial
 | e :: r,h=>⟨by
  have h1:=h e (by simp);unfold Fo at h1
  split<;>rename_i q<;>first | trivial | (refine h1 ?_;rw[q];done) | (refine h1 ?_;split<;>simp_all),fR.of r (fun a he=>h a (by simp[he]))⟩
def km (l:List Oper) (Vs:List (DG->DF->Prop)) (ev:Nat->DG) (w:DF):List Edge->Prop
 | []=>True
 | e :: r=>(match e.ground with | .textOnly _=>True | .gcOnly _=>True | _=>(match (l[e.on]?).bind (·.dst)with | some d=>Vs.getD e.on (fun _ _=>True) (ev d) w | none=>True))/\km l Vs ev w r
def s9 (l:List Oper) (n:Nat):Bool:=
 decide (n<=l.length)&&(decide (n=l.length)||(decide (n < l.length)&&Region.sinkB .any l.toArray n&&Region.chainB .any l.toArray n))&&yF l&&jI ((l.take n).map (·.dst))&&Region.seqB .any l.toArray (l.length - n) n (gh l.length n)
section
variable (R:DF->DF->Prop) (J:(Nat->Bool)->(Nat->DG)->DF->Prop)
def uP (P:Ee) (Q:Exit->Act->DF->Prop) (l:List Oper) (hs:List Tmp) (a0:Act) (w0:DF) (V:Nat->DG->DF->Prop) (i:Nat) (o:Oper):Prop:=
 ∀(d:Nat->Bool) (u:Nat->DG) (w:DF),(∀t,t ∉ hs->u t=a0.tmps.getD t EI)->R w0 w->J d u w->(∀j,kj l l.length j i=true->d j=true)->(∀j,kj l l.length i j=true->d j=false)->d i=false->fR l V u w o.after.toList->∀K:Act->DF->Prop,
  (∀a' w',(∃v,a'=(aK a0 hs u).put o.dst v/\R w w'/\J (bD d i) (aQ o.dst u v) w'/\(o.dst.isSome=true->V i v w'))->K a' w')->
  if DP o (yielded l.toArray (aK a0 hs u).tmps)=true then o.wp P (aK a0 hs u) w K Q else K ((aK a0 hs u).put o.dst EI) w
def jq (P:Ee) (Q:Exit->Act->DF->Prop) (l:List Oper) (hs:List Tmp) (a0:Act) (w0:DF) (V:Nat->DG->DF->Prop):List Oper->Nat->Prop
 | [],_=>True
 | o :: r,i=>uP R J P Q l hs a0 w0 V i o/\jq P Q l hs a0 w0 V r (i+1)
end
theorem jq.get {R:DF->DF->Prop} {J:(Nat->Bool)->(Nat->DG)->DF->Prop} {P:Ee} {Q:Exit->Act->DF->Prop} {l:List Oper} {a:List Tmp} {a0:Act} {b:DF} {V:Nat->DG->DF->Prop}:
  ∀(r:List Oper) (i:Nat),jq R J P Q l a a0 b V r i->∀j o,r[j]? =some o->uP R J P Q l a a0 b V (i+j) o
 | [],_,_,j,o,h=>by simp at h
 | x :: r,i,h,0,o,hj=>by simp at hj;subst hj;exact h.1
 | x :: r,i,h,j+1,o,hj=>by
  have:=jq.get r (i+1) h.2 j o (by simpa using hj);rw[show i+(j+1)=i+1+j from by omega];exact this
section
variable {R:DF->DF->Prop} {J:(Nat->Bool)->(Nat->DG)->DF->Prop} {P:Ee} {Q:Exit->Act->DF->Prop} {l:List Oper} {n:Nat} {a0:Act} {w0:DF} {V:Nat->DG->DF->Prop}
theorem xB (K:∀a b c,R a b->R b c->R a c) (I:s9 l n=true)
  (hmono:∀i v w w',V i v w->R w w'->V i v w')
  (hsteps:jq R J P Q l (bT (l.take n)) a0 w0 V (l.take n) 0)
  (hend:∀(u:Nat->DG) (w:DF),R w0 w->J (fun j=>decide (j < n)) u w->(∀j,j < n->il l V u w j)->Fl P l.toArray Q (l.drop n) (aK a0 (bT (l.take n)) u) w):
  ∀(f:Nat) (listed:Array Bool) (u:Nat->DG) (w:DF),HeadInv .any l.toArray n listed->(Eh n).countP (fun j=>listed.getD j false)+f=n->
   (∀t,t ∉ bT (l.take n)->u t=a0.tmps.getD t EI)->R w0 w->J (fun j=>listed.getD j false) u w->(∀j,j < n->listed.getD j false=true->il l V u w j)->
   wpAny P .any l.toArray Q (f+(l.length - n)) listed (aK a0 (bT (l.take n)) u) w:=by
 simp only[s9,Ek,Bool.or_eq_true,decide_eq_true_eq]at I;obtain⟨⟨⟨⟨hn,W⟩,L⟩,an⟩,aw⟩:=I;intro f;induction f with
 | zero=>
  intro listed u w inv ah hu x A hy;rw[DY];have r:=lv (fun j=>listed.getD j false) n (by omega);have S:listed=gh l.length n:=by
   have ax:listed.size=l.length:=by rw[inv.size];simp
   refine Array.ext (by rw[ax];simp[gh]) fun j h1 h2=> ?_
   simp only[gh,List.getElem_toArray,List.getElem_map,List.getElem_range];by_cases g:j < n
   ·have:=r j g;simp[h1]at this;simp[g,this]
   ·have:=inv.tail j (by omega) (by simp;omega);simp[h1]at this;simp[g,this]
  have ad:(fun j=>listed.getD j false)=fun j=>decide (j < n):=by
   funext j;by_cases g:j < n
   ·rw[r j g];simp[g]
   ·have h2:decide (j < n)=false:=decide_eq_false g;rw[h2,S];by_cases O:j < l.length
    ·simp[gh,O,g]
    ·simp[gh,O]
  rw[ad]at A;have hw:=hend u w x A (fun j g=>hy j g (r j g));have:=wpAny_of_seq (P:=P) (md:=.any) (ops:=l.toArray) (Q':=Q) (l.drop n) n listed (aK a0 (bT (l.take n)) u) w (fun j=>by simp[E3])
   (by rw[DR,S];exact aw) hw
  rwa[DR]at this
 | succ f ih=>
  intro listed u w inv ah hu x A hy;rw[show f+1+(l.length - n)=(f+(l.length - n))+1 from by omega];obtain⟨i0,ao,ay,aq⟩:=qH (fun j=>listed.getD j false) n (by omega);have aB:listed.size=l.length:=by rw[inv.size];simp
  have aa:listed.getD i0 true=false:=getD_in (by omega) ay;have U:i0∈Region.ready .any l.toArray listed:=by
   refine mem_ready.2 ⟨aa,l[i0]'(by omega),by simp,fun e he p=> ?_⟩
   have h1:=Eg.1 L (l[i0]'(by omega),i0) (by
    rw[EO];simp)
   have h2:=Eg.1 h1 e (by simpa using he);simp only[p,Ep,Gv,decide_eq_true_eq]at h2;exact aq e.on h2
  refine⟨fun h=>(by rw[h]at U;cases U),fun i B=> ?_⟩;have G:i < n:=by
   rcases Nat.lt_or_ge i n with h | h
   ·exact h
   ·rcases W with W | ⟨⟨ap,hs⟩,hc⟩
    ·obtain⟨_,o,y,_⟩:=mem_ready.1 B;have:=(Array.getElem?_eq_some_iff.1 y).1;simp at this;omega
    ·exact absurd B (tail_waits hs hc (by simpa using ap) inv _ i0 rfl ao aa i h)
  obtain⟨Z,o,y,r⟩:=mem_ready.1 B;have H:(l.take n)[i]? =some o:=by rw[EA,if_pos G];simpa using y
  have C:l[i]? =some o:=by simpa using y
  have X:=hsteps.get _ 0 i o H;rw[DY]at X;have M:∀j z,l[j]? =some z->(fun j=>listed.getD j false) j=true->∀e∈z.after.toList,Fo .any e=true->(fun j=>listed.getD j false) e.on=true:=fun j z au k e he p=>inv.closed j z (by simpa using au) k e (by simpa using he) p
  have ae:∀e∈o.after.toList,Fo .any e=true->(fun j=>listed.getD j false) e.on=true:=fun e he p=>r e (by simpa using he) p
  have ab:listed.getD i false=false:=getD_both Z;have af:∀j,kj l l.length j i=true->(fun j=>listed.getD j false) j=true:=fun j g=>qK M _ j i C ae g
  have am:∀j,kj l l.length i j=true->(fun j=>listed.getD j false) j=false:=fun j g=>by
   rcases Bool.eq_false_or_eq_true (listed.getD j false)with k | k
   ·have:=kl M _ i j g k;simp only[ab]at this;cases this
   ·exact k
  have al:fR l V u w o.after.toList:=fR.of _ fun e he p=>by have hle:=r e (by simpa using he) p;have h1:=Eg.1 L (o,i) (by rw[EO];simpa using C);have h2:=Eg.1 h1 e he;simp only[p,Ep,Gv,decide_eq_true_eq]at h2;exact hy e.on (by omega) hle
  have T:∀d,o.dst=some d->d∈bT (l.take n):=fun d m=>by refine GA.2 ⟨o,EY H,m⟩
  have ak:∀j d,j < n->(l[j]?).bind (·.dst)=some d->o.dst=some d->j=i:=fun j d g h1 h2=>by
   have ai:((l.take n).map (·.dst))[i]? =some (some d):=by rw[Ev,H];simp[h2]
   have aj:((l.take n).map (·.dst))[j]? =some (some d):=by
    rw[Ev,EA,if_pos g];cases k:l[j]? with
    | none=>rw[k]at h1;cases h1
    | some z=>rw[k]at h1;simpa using h1
   exact gH _ an j i d aj ai
  have az:(fun j=>(listed.setIfInBounds i true).getD j false)=bD (fun j=>listed.getD j false) i:=by
   funext j;unfold bD;by_cases e:j=i
   ·subst e;rw[if_pos rfl];simp[show j < listed.size by omega]
   ·rw[if_neg e];exact GC false (Ne.symm e)
  have ar:∀F w',(∃v,F=(aK a0 (bT (l.take n)) u).put o.dst v/\R w w'/\J (bD (fun j=>listed.getD j false) i) (aQ o.dst u v) w'/\(o.dst.isSome=true->V i v w'))->
    wpAny P .any l.toArray Q (f+(l.length - n)) (listed.setIfInBounds i true) F w':=by
   rintro F w' ⟨v,rfl,E,s,hv⟩;have N:(Eh n).countP (fun j=>(listed.setIfInBounds i true).getD j false)+f=n:=by rw[nU (fun j=>listed.getD j false) (fun j=>(listed.setIfInBounds i true).getD j false) i (getD_both Z) (by simp[show i < listed.size by omega]) (fun j g=>GC false (Ne.symm g)) n G];omega
   have ac:=inv.set B G;rw[<-az]at s;cases m:o.dst with
   | none=>
    simp only[Act.put];rw[m]at s;refine ih _ u w' ac N hu (K _ _ _ x E) s fun j g k=> ?_
    by_cases e:j=i
    ·subst e;simp only[il,C,Fj,m]
    ·rw[GC false (Ne.symm e)]at k;exact(hy j g k).C5 hmono E
   | some d=>
    rw[iq _ _ _ _ _ (T d m)];rw[m]at s;refine ih _ _ w' ac N (fun t Y=> ?_) (K _ _ _ x E) s fun j g k=> ?_
    ·rw[if_neg (fun q=>Y (by rw[q];exact T d m))];exact hu t Y
    by_cases e:j=i
    ·subst e;simp only[il,C,Fj,m,if_true];exact hv (by rw[m];rfl)
    ·rw[GC false (Ne.symm e)]at k;exact((hy j g k).C5 hmono E).Dl (fun q=>e (ak j d g q m))
  have D:=X _ u w hu x A af am ab al _ ar;unfold wpOp;simp only[y];split
  ·rename_i hw;rw[if_pos hw]at D;exact .inl D
  ·rename_i hw;rw[if_neg hw]at D;exact D
theorem nV {id:Nat} (n:Nat) (V:Nat->DG->DF->Prop) (k:∀a b c,R a b->R b c->R a c) (hm:P.follows .mixedOrders=true) (e:s9 l n=true)
  (hmono:∀i v w w',V i v w->R w w'->V i v w') (hR0:R w0 w0.drew) (hJ0:J (fun _=>false) (fun t=>a0.tmps.getD t EI) w0.drew)
  (hsteps:jq R J P Q l (bT (l.take n)) a0 w0 V (l.take n) 0)
  (hend:∀(u:Nat->DG) (w:DF),R w0 w->J (fun j=>decide (j < n)) u w->(∀j,j < n->il l V u w j)->Fl P l.toArray Q (l.drop n) (aK a0 (bT (l.take n)) u) w):
  (Code.region id l.toArray true).wp P Q a0 w0:=by
 refine wp_region_any hm ?_;have hu:a0=aK a0 (bT (l.take n)) (fun t=>a0.tmps.getD t EI):=by
  refine nT (by rw[fx]) fun j=> ?_
  rw[cW];split
  ·rename_i h;simp[h.2]
  ·rfl
 have p:n<=l.length:=by simp only[s9,Ek,decide_eq_true_eq]at e;exact e.1.1.1.1
 have o:HeadInv .any l.toArray n (FP l.toArray.size false):=
  ⟨by simp,fun j q _ d=>(by rw[ER]at d;cases d),fun t _ m=>getD_in (by simpa using m) (ER _ _)⟩
 have g:J (fun j=>(FP l.toArray.size false).getD j false) (fun t=>a0.tmps.getD t EI) {w0 with drawn:=w0.drawn+1}:=by
  have:(fun j=>(FP l.toArray.size false).getD j false)=fun _=>false:=by funext j;exact ER _ _
  rw[this];exact hJ0
 have:=xB k e hmono hsteps hend n (FP l.toArray.size false) (fun t=>a0.tmps.getD t EI) {w0 with drawn:=w0.drawn+1} o (by
  have:(Eh n).countP (fun j=>(FP l.toArray.size false).getD j false)=0:=by rw[List.countP_eq_zero];intro j _ f;rw[ER]at f;cases f
  omega) (fun _ _=>rfl) hR0 g (fun j _ d=>by rw[ER]at d;cases d)
 rw[<-hu]at this;rw[show n+(l.length - n)=l.length from by omega]at this;simpa using this
end
section
variable (R:DF->DF->Prop) (J:(Nat->Bool)->(Nat->DG)->DF->Prop)
def nW (P:Ee) (l:List Oper) (hs:List Tmp) (a0:Act) (w0:DF) (Vs:List (DG->DF->Prop)) (i:Nat) (o:Oper):Prop:=
 ∀(d:Nat->Bool) (ev:Nat->DG) (w:DF),R w0 w->J d ev w->(∀j,kj l l.length j i=true->d j=true)->(∀j,kj l l.length i j=true->d j=false)->d i=false->(∀t,t ∉ hs->ev t=a0.tmps.getD t EI)->km l Vs ev w o.after.toList->
  if DP o (ir l ev)=true then dU R P w (fun v w'=>Vs.getD i (fun _ _=>True) v w'/\J (bD d i) (aQ o.dst ev v) w') ((Fg (aX ev) o).run P w)else(Vs.getD i (fun _ _=>True) EI w/\J (bD d i) (aQ o.dst ev EI) w)
def iR (P:Ee) (l:List Oper) (hs:List Tmp) (a0:Act) (w0:DF) (Vs:List (DG->DF->Prop)):List Oper->Nat->Prop
 | [],_=>True
 | o :: r,i=>nW R J P l hs a0 w0 Vs i o/\iR P l hs a0 w0 Vs r (i+1)
end
section
variable {R:DF->DF->Prop} {J:(Nat->Bool)->(Nat->DG)->DF->Prop} {P:Ee} {Q:Exit->Act->DF->Prop} {l:List Oper} {n:Nat} {a0:Act} {w0:DF} {Vs:List (DG->DF->Prop)}
theorem nW.ok (A:∀w,R w w) {a:List Tmp} {i:Nat} {o:Oper} (H:∀t∈a,t < a0.tmps.size) (F:∀j g d,l[j]? =some g->g.dst=some d->(∃e∈o.after.toList,Fo .any e=true/\e.on=j)->d∈a)
  (h:nW R J P l a a0 w0 Vs i o):uP R J P Q l a a0 w0 (fun i=>Vs.getD i (fun _ _=>True)) i o:=by
 intro d u w hu E z B D G C K m;have p:∀d,d∈a->(aK a0 a u).tmps.getD d EI=u d:=fun d b=>by rw[EE,cW,if_pos ⟨b,H d b⟩];rfl
 have s:(fun t=>(aK a0 a u).tmps.getD t EI)=u:=by
  funext t;by_cases f:t∈a
  ·exact p t f
  ·rw[EE,cW,if_neg (fun q=>f q.1),hu t f,EE]
 have y:∀(es:List Edge),(∀e∈es,e∈o.after.toList)->fR l (fun i=>Vs.getD i (fun _ _=>True)) u w es->km l Vs (fun t=>(aK a0 a u).tmps.getD t EI) w es:=by
  intro es;induction es with
  | nil=>intro _ _;trivial
  | cons e r ih=>
   intro hm b;refine⟨?_,ih (fun x hx=>hm x (by simp[hx])) b.2⟩;have h1:=b.1;have key:Fo .any e=true->il l (fun i=>Vs.getD i (fun _ _=>True)) u w e.on->(match (l[e.on]?).bind (·.dst)with | some d=>Vs.getD e.on (fun _ _=>True) ((aK a0 a u).tmps.getD d EI) w | none=>True):=fun k h1=>by
    unfold il at h1;cases hl:(l[e.on]?)with
    | none=>simp
    | some g=>
     simp only[hl,Fj]at h1⊢;cases hdj:g.dst with
     | none=>simp
     | some d=>simp only[hdj]at h1⊢;rw[p d (F e.on g d hl hdj ⟨e,hm e (by simp),k,rfl⟩)];exact h1
   have k:Fo .any e=(match e.ground with | .textOnly _=>false | .gcOnly _=>false | _=>true):=by unfold Fo;cases e.ground<;>rfl
   generalize e.ground=gg at h1 k⊢;cases gg<;>first | trivial | exact key k h1
 have c:=h d (fun t=>(aK a0 a u).tmps.getD t EI) w E (by rw[s];exact z) B D G (fun t f=>by
  rw[EE,cW,if_neg (fun q=>f q.1),EE]) (y _ (fun _ h=>h) C)
 rw[jo];have n:∀v,aQ o.dst (fun t=>(aK a0 a u).tmps.getD t EI) v=aQ o.dst u v:=fun v=>by rw[s]
 split
 ·rename_i hw;rw[if_pos hw]at c;exact oK (kg a0 a u) c fun v w' h1 h2=>by
   cases b:o.dst with
   | none=>exact m _ _ ⟨v,by rw[b],h1,by rw[<-n];exact h2.2,fun q=>by rw[b]at q;cases q⟩
   | some d=>exact m _ _ ⟨v,by rw[b],h1,by rw[<-n];exact h2.2,fun _=>h2.1⟩
 ·rename_i hw;rw[if_neg hw]at c;exact m _ _ ⟨EI,rfl,A _,by rw[<-n];exact c.2,fun _=>c.1⟩
theorem iR.ok (b:∀w,R w w) {a:List Tmp} (c:∀t∈a,t < a0.tmps.size):∀(r:List Oper) (i:Nat),(∀(j:Nat) (o:Oper),r[j]? =some o->∀(k:Nat) (f:Oper) (d:Tmp),l[k]? =some f->f.dst=some d->(∃e∈o.after.toList,Fo .any e=true/\e.on=k)->d∈a)->
  iR R J P l a a0 w0 Vs r i->jq R J P Q l a a0 w0 (fun i=>Vs.getD i (fun _ _=>True)) r i
 | [],_,_,_=>trivial
 | o :: r,i,hin,h=>⟨nW.ok b c (hin 0 o (by simp)) h.1,iR.ok b c r (i+1) (fun j m g=>hin (j+1) m (by simpa using g)) h.2⟩
theorem ay {id:Nat} (R:DF->DF->Prop) (J:(Nat->Bool)->(Nat->DG)->DF->Prop) (n:Nat) (h:List Tmp) (g:List (DG->DF->Prop)) (v:∀w,R w w) (x:∀a b c,R a b->R b c->R a c) (hm:P.follows .mixedOrders=true) (p:s9 l n=true) (B:bT (l.take n)=h) (E:uN a0 h=true)
  (hmono:kM R g) (hR0:R w0 w0.drew) (hJ0:J (fun _=>false) (fun t=>a0.tmps.getD t EI) w0.drew)
  (hsteps:iR R J P l h a0 w0 g (l.take n) 0)
  (hend:∀(u:Nat->DG) (w:DF),R w0 w->J (fun j=>decide (j < n)) u w->kh l g u w n->Fl P l.toArray Q (l.drop n) (aK a0 h u) w):
  (Code.region id l.toArray true).wp P Q a0 w0:=by
 subst B;have z:∀(i:Nat) (o:Oper),(l.take n)[i]? =some o->∀e∈o.after.toList,Fo .any e=true->e.on < i:=fun i o f e he m=>by
  have q:=p;simp only[s9,Ek,decide_eq_true_eq]at q;obtain⟨⟨⟨⟨K,L⟩,y⟩,H⟩,M⟩:=q;have r:i < n:=by have:=(Er.1 f).1;simp at this;omega
  have D:l[i]? =some o:=by rw[EA,if_pos r]at f;exact f
  have h1:=Eg.1 y (o,i) (by rw[EO];simpa using D);have h2:=Eg.1 h1 e he;simp only[m,Ep,Gv,decide_eq_true_eq]at h2;exact h2
 refine nV n (fun i=>g.getD i (fun _ _=>True)) x hm p (kM.get g hmono) hR0 hJ0 (iR.ok v (fun t F=>by
   have:=Eg.1 E t F;simpa using this) _ 0 ?_ hsteps) (fun u w h1 s h2=>hend u w h1 s (kh.of n h2))
 rintro i o f k G d C A ⟨e,he,m,rfl⟩;have I:=z i o f e he m;have r:i < n:=by have:=(Er.1 f).1;simp at this;omega
 refine GA.2 ⟨G,EY (i:=e.on) ?_,A⟩;rw[EA,if_pos (by omega)];exact C
end
section
variable {lr nf:Nat}
theorem iu {P:Ee} {md:Region.Mode} {ops:Array Oper} {Q':Exit->Act->DF->Prop}:∀(l:List Oper) (k:Nat) (listed:Array Bool) (a:Act) (w:DF),(∀j:Nat,l[j]? =ops[k+j]?)->
  Region.seqB md ops l.length k listed=true->wpListIn (Fence.wide.inRound lr) nf P ops Q' l a w->wpAnyIn (Fence.wide.inRound lr) nf P md ops Q' l.length listed a w
 | [],_,_,_,_,_,hB,h=>⟨by simpa[Region.seqB] using hB,h⟩
 | o :: l,k,listed,a,w,hl,hB,h=>by
  have h0:ops[k]? =some o:=by simpa using (hl 0).symm
  simp only[Eu,Region.seqB,Ek,decide_eq_true_eq]at hB;refine⟨fun h1=>(by rw[hB.1]at h1;cases h1),fun i b=> ?_⟩;rw[hB.1]at b;have e:i=k:=by simpa using b
  subst e;have hw:wpOpIn (Fence.wide.inRound lr) nf P ops Q' i (wpListIn (Fence.wide.inRound lr) nf P ops Q' l) a w:=by unfold wpOpIn;simp only[h0];exact h
  exact wpOpIn_mono (fun c w' d=>iu l (i+1) _ c w' (fun j=>by have:=hl (j+1);simpa[FX,Nat.add_comm 1 j] using this) hB.2 d) hw
def lI (lr nf:Nat) (P:Ee) (Q:Exit->Act->DF->Prop) (l:List Oper) (hs:List Tmp) (a0:Act) (w0:DF) (V:Nat->DG->DF->Prop) (i:Nat) (o:Oper):Prop:=
 ∀(u:Nat->DG) (w:DF),az w0 w->eC l V u w o.after.toList->∀K:Act->DF->Prop,
  (∀a' w',(∃v,a'=(aK a0 hs u).put o.dst v/\az w w'/\(o.dst.isSome=true->V i v w'))->K a' w')->
  if DP o (yielded l.toArray (aK a0 hs u).tmps)=true then o.wpIn (Fence.wide.inRound lr) nf P (aK a0 hs u) w K Q else K ((aK a0 hs u).put o.dst EI) w
def eD (lr nf:Nat) (P:Ee) (Q:Exit->Act->DF->Prop) (l:List Oper) (hs:List Tmp) (a0:Act) (w0:DF) (V:Nat->DG->DF->Prop):List Oper->Nat->Prop
 | [],_=>True
 | o :: r,i=>lI lr nf P Q l hs a0 w0 V i o/\eD lr nf P Q l hs a0 w0 V r (i+1)
theorem eD.get {P:Ee} {Q:Exit->Act->DF->Prop} {l:List Oper} {a:List Tmp} {a0:Act} {b:DF} {V:Nat->DG->DF->Prop}:
  ∀(r:List Oper) (i:Nat),eD lr nf P Q l a a0 b V r i->∀j o,r[j]? =some o->lI lr nf P Q l a a0 b V (i+j) o
 | [],_,_,j,o,h=>by simp at h
 | x :: r,i,h,0,o,hj=>by simp at hj;subst hj;exact h.1
 | x :: r,i,h,j+1,o,hj=>by
  have:=eD.get r (i+1) h.2 j o (by simpa using hj);rw[show i+(j+1)=i+1+j from by omega];exact this
section
variable {P:Ee} {Q:Exit->Act->DF->Prop} {l:List Oper} {n:Nat} {a0:Act} {w0:DF} {V:Nat->DG->DF->Prop}
theorem oL (B:lg l n=true)
  (hmono:∀i v w w',V i v w->az w w'->V i v w')
  (hsteps:eD lr nf P Q l (bT (l.take n)) a0 w0 V (l.take n) 0)
  (hend:∀(u:Nat->DG) (w:DF),az w0 w->(∀j,j < n->il l V u w j)->wpListIn (Fence.wide.inRound lr) nf P l.toArray Q (l.drop n) (aK a0 (bT (l.take n)) u) w):
  ∀(f:Nat) (listed:Array Bool) (u:Nat->DG) (w:DF),HeadInv .any l.toArray n listed->(Eh n).countP (fun j=>listed.getD j false)+f=n->
   az w0 w->(∀j,j < n->listed.getD j false=true->il l V u w j)->
   wpAnyIn (Fence.wide.inRound lr) nf P .any l.toArray Q (f+(l.length - n)) listed (aK a0 (bT (l.take n)) u) w:=by
 simp only[lg,Ek,decide_eq_true_eq]at B;obtain⟨⟨⟨⟨⟨⟨X,Z⟩,J⟩,C⟩,R⟩,I⟩,aa⟩:=B;intro f;induction f with
 | zero=>
  intro listed u w inv K g hy;rw[DY];have k:=lv (fun j=>listed.getD j false) n (by omega);have T:listed=gh l.length n:=by
   have ab:listed.size=l.length:=by rw[inv.size];simp
   refine Array.ext (by rw[ab];simp[gh]) fun j h1 h2=> ?_
   simp only[gh,List.getElem_toArray,List.getElem_map,List.getElem_range];by_cases a:j < n
   ·have:=k j a;simp[h1]at this;simp[a,this]
   ·have:=inv.tail j (by omega) (by simp;omega);simp[h1]at this;simp[a,this]
  have hw:=hend u w g (fun j a=>hy j a (k j a));have:=iu (lr:=lr) (nf:=nf) (P:=P) (md:=.any) (ops:=l.toArray) (Q':=Q) (l.drop n) n listed (aK a0 (bT (l.take n)) u) w (fun j=>by simp[E3])
   (by rw[DR,T];exact aa) hw
  rwa[DR]at this
 | succ f ih=>
  intro listed u w inv K g hy;rw[show f+1+(l.length - n)=(f+(l.length - n))+1 from by omega];obtain⟨i0,S,ad,W⟩:=qH (fun j=>listed.getD j false) n (by omega);have af:listed.size=l.length:=by rw[inv.size];simp
  have G:listed.getD i0 true=false:=getD_in (by omega) ad;have E:i0∈Region.ready .any l.toArray listed:=by
   refine mem_ready.2 ⟨G,l[i0]'(by omega),by simp,fun e he m=> ?_⟩
   have h1:=Eg.1 C (l[i0]'(by omega),i0) (by
    rw[EO];simp)
   have h2:=Eg.1 h1 e (by simpa using he);simp only[m,Ep,Gv,decide_eq_true_eq]at h2;exact W e.on h2
  refine⟨fun h=>(by rw[h]at E;cases E),fun i x=> ?_⟩;have y:i < n:=by
   rcases Nat.lt_or_ge i n with h | h
   ·exact h
   ·exact absurd x (tail_waits Z J (by simpa using X) inv _ i0 rfl S G i h)
  obtain⟨ac,o,z,k⟩:=mem_ready.1 x;have A:(l.take n)[i]? =some o:=by rw[EA,if_pos y];simpa using z
  have p:l[i]? =some o:=by simpa using z
  have F:=hsteps.get _ 0 i o A;rw[DY]at F;have O:eC l V u w o.after.toList:=eC.of _ fun e he=>by
   have m:Fo .any e=true:=by have h1:=Eg.1 I o (EY p);exact Eg.1 h1 e he
   have hle:=k e (by simpa using he) m;have h1:=Eg.1 C (o,i) (by rw[EO];simpa using p);have h2:=Eg.1 h1 e he;simp only[m,Ep,Gv,decide_eq_true_eq]at h2;exact hy e.on (by omega) hle
  have U:∀d,o.dst=some d->d∈bT (l.take n):=fun d c=>by refine GA.2 ⟨o,EY A,c⟩
  have N:∀j d,j < n->(l[j]?).bind (·.dst)=some d->o.dst=some d->j=i:=fun j d a h1 h2=>by
   have L:((l.take n).map (·.dst))[i]? =some (some d):=by rw[Ev,A];simp[h2]
   have M:((l.take n).map (·.dst))[j]? =some (some d):=by
    rw[Ev,EA,if_pos a];cases b:l[j]? with
    | none=>rw[b]at h1;cases h1
    | some oj=>rw[b]at h1;simpa using h1
   exact gH _ R j i d M L
  have Y:∀t w',(∃v,t=(aK a0 (bT (l.take n)) u).put o.dst v/\az w w'/\(o.dst.isSome=true->V i v w'))->
    wpAnyIn (Fence.wide.inRound lr) nf P .any l.toArray Q (f+(l.length - n)) (listed.setIfInBounds i true) t w':=by
   rintro t w' ⟨v,rfl,s,hv⟩;have D:(Eh n).countP (fun j=>(listed.setIfInBounds i true).getD j false)+f=n:=by rw[nU (fun j=>listed.getD j false) (fun j=>(listed.setIfInBounds i true).getD j false) i (getD_both ac) (by simp[show i < listed.size by omega]) (fun j a=>GC false (Ne.symm a)) n y];omega
   have H:=inv.set x y;cases c:o.dst with
   | none=>
    simp only[Act.put];refine ih _ u w' H D (g.trans s) fun j a b=> ?_
    by_cases e:j=i
    ·subst e;simp only[il,p,Fj,c]
    ·rw[GC false (Ne.symm e)]at b;exact(hy j a b).mono hmono s
   | some d=>
    rw[iq _ _ _ _ _ (U d c)];refine ih _ _ w' H D (g.trans s) fun j a b=> ?_
    by_cases e:j=i
    ·subst e;simp only[il,p,Fj,c,if_true];exact hv (by rw[c];rfl)
    ·rw[GC false (Ne.symm e)]at b;exact((hy j a b).mono hmono s).Dl (fun q=>e (N j d a q c))
  have r:=F u w g O _ Y;unfold wpOpIn;simp only[z];split
  ·rename_i hw;rw[if_pos hw]at r;exact r
  ·rename_i hw;rw[if_neg hw]at r;exact⟨fun _ _=>trivial,r⟩
theorem jJ {id:Nat} (n:Nat) (V:Nat->DG->DF->Prop) (hm:P.follows .mixedOrders=true) (b:lg l n=true)
  (hmono:∀i v w w',V i v w->az w w'->V i v w')
  (hsteps:eD lr nf P Q l (bT (l.take n)) a0 w0 V (l.take n) 0)
  (hend:∀(u:Nat->DG) (w:DF),az w0 w->(∀j,j < n->il l V u w j)->wpListIn (Fence.wide.inRound lr) nf P l.toArray Q (l.drop n) (aK a0 (bT (l.take n)) u) w):
  (Code.region id l.toArray true).wpIn (Fence.wide.inRound lr) nf P Q a0 w0:=by
 refine wpIn_region_any hm ?_;obtain⟨u,hu⟩:=jH a0 (bT (l.take n));have f:n < l.length:=by simp only[lg,Ek,decide_eq_true_eq]at b;exact b.1.1.1.1.1.1
 have e:HeadInv .any l.toArray n (FP l.toArray.size false):=
  ⟨by simp,fun j g _ a=>(by rw[ER]at a;cases a),fun t _ d=>getD_in (by simpa using d) (ER _ _)⟩
 have:=oL b hmono hsteps hend n (FP l.toArray.size false) u {w0 with drawn:=w0.drawn+1} e (by
  have:(Eh n).countP (fun j=>(FP l.toArray.size false).getD j false)=0:=by rw[List.countP_eq_zero];intro j _ c;rw[ER]at c;cases c
  omega) ((DI _ _).drew) (fun j _ a=>by rw[ER]at a;cases a)
 rw[<-hu]at this;rw[show n+(l.length - n)=l.length from by omega]at this;simpa using this
end
def jK:Op->Bool
 | .defer _=>false
 | _=>true
theorem mG {o:Op} (h:jK o=true):∀c,o≠ .defer c:=by
 intro c q;rw[q]at h;cases h
theorem mH {P:Ee} {o:Oper} {a:Act} {w:DF} {K:Act->DF->Prop} {Q:Exit->Act->DF->Prop} {φ :DG->DF->Prop} {b:Nat->DG}
  (g:∀c,o.op≠ .defer c) (he:a.eval=aX b) (h:gi P w φ ((Fg (aX b) o).run P w)) (d:∀v w',az w w'-> φ v w'->K (a.put o.dst v) w'):o.wpIn (Fence.wide.inRound lr) nf P a w K Q:=by
 refine⟨fun f _=>trivial,?_⟩;rw[show(Fence.wide.inRound lr).round=some lr from rfl,Oper.semAt_some lr _ _ g,he];generalize (Fg (aX b) o).run P w=r at*;cases r with
 | ok x w'=>
  cases x<;>simp only[gi]at h<;>simp only[Oper.uponIn]
  case value v=>exact d _ _ h.1 h.2
  case skip=>exact d _ _ h.1 h.2
  case enter f args=>exact⟨fun q=>by simp[Fence.wide]at q,CallsIn.inRound lr (callsIn_wide.2 (h.mono fun e j ⟨v,i,h1,h2⟩=>by subst i;exact d _ _ h1 h2))⟩
 | halt x w'=>simp only[gi]at h
section
variable {P:Ee} {Q:Exit->Act->DF->Prop} {l:List Oper} {n:Nat} {a0:Act} {w0:DF} {Vs:List (DG->DF->Prop)}
theorem lH.CW {b:List Tmp} {i:Nat} {o:Oper} (n:jK o.op=true) (z:∀t∈b,t < a0.tmps.size) (y:∀j f d,l[j]? =some f->f.dst=some d->(∃e∈o.after.toList,e.on=j)->d∈b)
  (h:lH P l b a0 w0 Vs i o):lI lr nf P Q l b a0 w0 (fun i=>Vs.getD i (fun _ _=>True)) i o:=by
 intro u w s m K g;have p:∀d,d∈b->(aK a0 b u).tmps.getD d EI=u d:=fun d a=>by rw[EE,cW,if_pos ⟨a,z d a⟩];rfl
 have k:∀(es:List Edge),(∀e∈es,e∈o.after.toList)->eC l (fun i=>Vs.getD i (fun _ _=>True)) u w es->kL l Vs (fun t=>(aK a0 b u).tmps.getD t EI) w es:=by
  intro es;induction es with
  | nil=>intro _ _;trivial
  | cons e r ih=>
   intro hm a;refine⟨?_,ih (fun x hx=>hm x (by simp[hx])) a.2⟩;have h1:=a.1;unfold il at h1;cases hl:(l[e.on]?)with
   | none=>simp
   | some f=>
    simp only[hl,Fj]at h1⊢;cases hdj:f.dst with
    | none=>simp
    | some d=>simp only[hdj]at h1⊢;rw[p d (y e.on f d hl hdj ⟨e,hm e (by simp),rfl⟩)];exact h1
 have c:=h (fun t=>(aK a0 b u).tmps.getD t EI) w s (fun t A=>by
  rw[EE,cW,if_neg (fun q=>A q.1),EE]) (k _ (fun _ h=>h) m)
 unfold dJ at c;rw[jo];split
 ·rename_i hw;rw[if_pos hw]at c;exact mH (mG n) (kg a0 b u) c fun v w' h1 h2=>by
   cases a:o.dst with
   | none=>exact g _ _ ⟨v,by rw[a],h1,fun q=>by rw[a]at q;cases q⟩
   | some d=>exact g _ _ ⟨v,by rw[a],h1,fun _=>h2⟩
 ·rename_i hw;rw[if_neg hw]at c;exact g _ _ ⟨EI,rfl,DI _ _,fun _=>c⟩
theorem fy.CW {a:List Tmp} (b:∀t∈a,t < a0.tmps.size):∀(r:List Oper) (i:Nat),(∀o∈r,jK o.op=true)->(∀(j:Nat) (o:Oper),r[j]? =some o->∀(k:Nat) (c:Oper) (d:Tmp),l[k]? =some c->c.dst=some d->(∃e∈o.after.toList,e.on=k)->d∈a)->
  fy P l a a0 w0 Vs r i->eD lr nf P Q l a a0 w0 (fun i=>Vs.getD i (fun _ _=>True)) r i
 | [],_,_,_,_=>trivial
 | o :: r,i,hdf,hin,h=>⟨lH.CW (hdf o (by simp)) b (hin 0 o (by simp)) h.1,fy.CW b r (i+1) (fun x hx=>hdf x (by simp[hx])) (fun j g f=>hin (j+1) g (by simpa using f)) h.2⟩
theorem iw {id:Nat} (n:Nat) (c:List Tmp) (b:List (DG->DF->Prop)) (hm:P.follows .mixedOrders=true) (f:lg l n=true) (y:bT (l.take n)=c) (A:uN a0 c=true) (x:(l.all fun o=>jK o.op)=true)
  (hmono:je b)
  (hsteps:fy P l c a0 w0 b (l.take n) 0)
  (hend:∀(u:Nat->DG) (w:DF),az w0 w->kh l b u w n->wpListIn (Fence.wide.inRound lr) nf P l.toArray Q (l.drop n) (aK a0 c u) w):
  (Code.region id l.toArray true).wpIn (Fence.wide.inRound lr) nf P Q a0 w0:=by
 subst y;have r:∀(i:Nat) (o:Oper),(l.take n)[i]? =some o->∀e∈o.after.toList,e.on < i:=fun i o a e he=>by
  have g:=f;simp only[lg,Ek,decide_eq_true_eq]at g;obtain⟨⟨⟨⟨⟨⟨G,c⟩,D⟩,q⟩,E⟩,s⟩,H⟩:=g;have h:i < n:=by have:=(Er.1 a).1;simp at this;omega
  have j:l[i]? =some o:=by rw[EA,if_pos h]at a;exact a
  have h1:=Eg.1 q (o,i) (by rw[EO];simpa using j);have h2:=Eg.1 h1 e he;have m:=Eg.1 s o (EY j);have p:=Eg.1 m e he;simp only[p,Ep,Gv,decide_eq_true_eq]at h2;exact h2
 refine jJ n (fun i=>b.getD i (fun _ _=>True)) hm f (je.get b hmono) (fy.CW (fun t B=>by
   have:=Eg.1 A t B;simpa using this) _ 0 (fun o a=>Eg.1 x o (EN a)) ?_ hsteps) (fun u w h1 h2=>hend u w h1 (kh.of n h2))
 rintro i o a k C d z v ⟨e,he,rfl⟩;have F:=r i o a e he;have h:i < n:=by have:=(Er.1 a).1;simp at this;omega
 refine GA.2 ⟨C,EY (i:=e.on) ?_,v⟩;rw[EA,if_pos (by omega)];exact z
end
end
def gZ (l:List Int):ByteArray:=⟨(l.map fun x=>G7 x.toNat).toArray⟩
theorem td (l:List Int):∀s:ByteArray,l.foldl (fun r n=>r.push (G7 n.toNat)) s=⟨s.data++(l.map fun x=>G7 x.toNat).toArray⟩:=by
 induction l with
 | nil=>intro s;simp
 | cons x r ih=>intro s;rw[It,ih];simp[ByteArray.push]
theorem tf (l:List Int):l.foldl (fun r n=>r.push (G7 n.toNat)) ByteArray.empty=gZ l:=by
 rw[td];simp[gZ,ByteArray.empty,ByteArray.emptyWithCapacity];rfl
theorem nX {a:Nat} (c:a<=255) (d:b<=255) (h:G7 a=G7 b):a=b:=by
 have:=congrArg UInt8.toNat h;simp at this;omega
theorem oM:∀ {a b:List Int},bA a->bA b->gZ a=gZ b->a=b:=by
 intro a b d e h;have h1:(a.map fun x=>G7 x.toNat)=(b.map fun x=>G7 x.toNat):=by have:=congrArg (fun s=>s.data.toList) h;simpa[gZ] using this
 clear h;induction a generalizing b with
 | nil=>cases b with
  | nil=>rfl
  | cons=>simp at h1
 | cons x r ih=>
  cases b with
  | nil=>simp at h1
  | cons y t=>simp only[E2,List.cons.injEq]at h1;have hx:=d x (by simp);have hy:=e y (by simp);have:=nX (by omega) (by omega) h1.1;rw[ih (fun z c=>d z (FM _ c)) (fun z c=>e z (FM _ c)) h1.2,show x=y from by omega]
theorem oN {b:List Int} (c:bA a) (d:bA b):(gZ a=gZ b)↔a=b:=⟨oM c d,fun h=>by rw[h]⟩
theorem oO {b:List Int} (c:bA a) (d:bA b):((gZ a).toList==(gZ b).toList)=decide (a=b):=by
 have h:(gZ a).toList=(gZ b).toList↔a=b:=⟨fun h=>by
  rw[ByteArray.toList_eq,ByteArray.toList_eq]at h
  exact oM c d (ByteArray.ext (Array.toList_inj.1 h)),fun h=>by rw[h]⟩
 rw[Iu];simp[h]
theorem eE {P:Ee} {w:DF} {v:DG} {src dst e:Ec} (h:Rd w .u8 v l)
  (d:P.underlying src=some (.slice e)) (he:P.underlying e=some (.int .u8)) (a:P.underlying dst=some .string):
  (convert src dst v).run P w=.ok (.string (gZ l)) w:=by
 rcases h with ⟨⟨p,rfl⟩,f,k⟩ | ⟨b,o,c,rfl,n,m,g⟩
 ·obtain rfl:l=[]:=Ed.1 f;rw[run_convert_bytes_string w src dst e _ _ _ d he a];cases p<;>rfl
 ·rw[run_convert_bytes_string w src dst e _ _ _ d he a,run_bytesToString w ⟨b,o,none⟩ l.length c l,tf];have:=run_loadCells_list (P:=P) (w:=w) ⟨b,o,none⟩ (ao .u8 l) (fun j v i=>by rw[Ft];exact g j v i);rw[ints_length]at this;exact this
theorem jf:∀(xs ys:List Int),xs.length=ys.length->((Eh xs.length).all fun i=>xs.getD i 0==ys.getD i 0)=decide (xs=ys)
 | [],[],_=>rfl
 | x :: xs,y :: ys,h=>by
  have a:=jf xs ys (by simpa using h);rw[Eu,List.range_succ_eq_map,List.all_cons,List.all_map];simp only[List.getD_cons_zero,Function.comp_def,List.getD_cons_succ,a];rw[Iu];simp
 | [],_ :: _,h=>by simp at h
 | _ :: _,[],h=>by simp at h
theorem tg {P:Ee} (w:DF) (d:Nat) {t e:Ec} {k:E6} (g:P.underlying t=some (.array n e)) (he:P.underlying e=some (.int k)) (f:∀w,(sizeOf e).run P w=.ok 1 w)
  (xs ys:List Int) (hx:xs.length=n) (hy:ys.length=n):
  (Op.equalIn (d+2) t (.agg (ao k xs).toArray) (.agg (ao k ys).toArray)).run P w=.ok (decide (xs=ys)) w:=by
 rw[<-jf xs ys (hx.trans hy.symm),hx,List.range_eq_range',Op.equalIn];simp only[E0,Gk g,Ey,f,Std.Legacy.Range.forIn_eq_forIn_range',Std.Legacy.Range.size,Nat.sub_zero,Nat.add_sub_cancel,Nat.div_one];have a:∀i∈List.range' 0 n 1,i < n:=fun i b=>by simpa using (List.mem_range'_1.1 b).2
 generalize List.range' 0 n 1=l at a⊢;induction l with
 | nil=>simp
 | cons i l ih=>
  have b:i < n:=a i (by simp);have m:(part e (ao k xs).toArray (i*1)).run P w=.ok (.int k (xs.getD i 0)) w:=by have:=cX k xs i (by omega);simp[part,isAgg,Gk he,this]
  have o:(part e (ao k ys).toArray (i*1)).run P w=.ok (.int k (ys.getD i 0)) w:=by have:=cX k ys i (by omega);simp[part,isAgg,Gk he,this]
  have h:(Op.equalIn (d+1) e (.int k (xs.getD i 0)) (.int k (ys.getD i 0))).run P w=.ok (xs.getD i 0==ys.getD i 0) w:=run_equalIn_int w d e k k _ _ he;simp only[List.forIn_cons,E0,m,o,h,Ey,List.all_cons];cases hb:(xs.getD i 0==ys.getD i 0)
  ·simp
  ·simp only[Ep,Fh,if_false,E7,Ey,Bool.true_and];exact ih fun j c=>a j (by simp[c])
theorem yG {P:Ee} {t e:Ec} {k:E6} (b:P.underlying t=some (.array n e)) (he:P.underlying e=some (.int k)) (a:∀w,(sizeOf e).run P w=.ok 1 w)
  (xs ys:List Int) (hx:xs.length=n) (hy:ys.length=n) (w:DF):
  (Op.equalIn 10000 t (.agg (ao k xs).toArray) (.agg (ao k ys).toArray)).run P w=.ok (decide (xs=ys)) w:=tg w 9998 b he a xs ys hx hy
section
variable {P:Ee} {ops:Array Oper}
theorem fA {w:DF} {Q:Act->Prop}:∀(l:List Oper) (a:Act),wpQuiet P ops (fun w'=>w'=w) Q l a->wpStill P ops w Q l a
 | [],_,h=>h
 | o :: rest,a,h=>by
  unfold wpQuiet at h;unfold wpStill;by_cases hw:DP o (yielded ops a.tmps)
  ·rw[if_pos hw]at h⊢;obtain⟨v,e,d⟩:=h;have h1:=e w rfl;unfold Oper.quietAt at h1;unfold Oper.still;have h2:=fA rest _ d;generalize (Fg a.eval o).run P w=r at h1⊢;unfold Oper.quietUpon at h1;unfold Oper.stillUpon;split at h1
   ·obtain⟨b,c⟩:=h1;subst c;exact⟨b,h2⟩
   ·obtain⟨b,c⟩:=h1;subst c;exact⟨b,h2⟩
   ·obtain⟨b,c⟩:=h1;exact⟨b,v,c,h2⟩
   ·exact h1.elim
  ·rw[if_neg hw]at h⊢;exact fA rest _ h
theorem gI {id:Nat} {Q:Exit->Act->DF->Prop} {a:Act} {w:DF} {l:List Oper} (n:Nat) (hm:P.follows .mixedOrders=true) (c:Region.lexTailB .any l.toArray n=true)
  (h:wpQuiet P l.toArray (fun w'=>w'=w.drewN 1) (fun b=>Fl P l.toArray Q (l.drop n) b (w.drewN 1)) (l.take n) a):(Code.region id l.toArray true).wp P Q a w:=
 wp_region_still_tail n hm c (fA _ _ h)
end
theorem mI (k:E6) (n:Nat):(madeCells (Ej k 0).cells (n*1)).toList=ao k (D7 n 0):=by
 apply List.ext_getElem
 ·simp[madeCells]
 ·intro i h1 h2;simp[madeCells,ao,Gw,show i % 1=0 from Nat.mod_one i]
theorem kn {P:Ee} {t e:Ec} {k:E6} (a:jE P t e (.int k 0) 1 bytes) (n:Nat) (m:bytes*n<=281474976710656) (hm:n<=DV) (w:DF):
  ∃w',(Instr.makeSlice t (.int .i64 (n:Int)) (.int .i64 (n:Int))).run P w=.ok (.slice (some ⟨w.heap.size,0,none⟩) n n) w'/\
   w'.ownsRow w.heap.size e 1 (.slice (some ⟨w.heap.size,0,none⟩) n n) n (ao k (D7 n 0))/\az w w'/\w.heap.size < w'.heap.size:=by
 obtain⟨i,g,l,j,f⟩:=Gq a.info;have c:(n:Int)<=9223372036854775807:=by unfold DV at hm;omega
 have d:(i.bytes:Int)*(n:Int)<=281474976710656:=by
  rw[f];have h:((bytes*n:Nat):Int)<=281474976710656:=by omega
  rwa[Int.natCast_mul]at h
 have b:=run_make (P:=P) w t e i (.int k 0) a.ht g l .i64 .i64 n n (by omega) (Int.le_refl _) d c;simp only[Eo,j]at b;refine⟨_,b,?_,ae _ _,by simp⟩;have:=bW w e (madeCells (Ej k 0).cells (n*1)) w.heap.size n 1 (DH _) hm (size_madeCells _ _);rwa[mI]at this
def zX:List Int:=[201,202,203,204,205,206]
def BD (w:DF) (u:DG) (l:List Int) (all inn:DG):Prop:=
 ∃g c,u=.slice (some ⟨g,0,none⟩) l.length c/\l.length+6<=c/\c<=DV/\w.rangeAt g 0 (ao .u8 (l++zX))/\all.ownBlock≠some g/\inn.ownBlock≠some g
structure Ca (tB tS:Ec) (w:DF) (base:Nat) (all inn:DG) (ps:List (List Int)) (vs:List DG):Prop where
 own:w.ownsRow base tB 1 all ps.flatten.length (ao .u8 ps.flatten)
 rows:w.ownsRow base tS 1 inn ps.length vs
 elts:∀j,j < ps.length->BD w (vs.getD j EI) (ps.getD j []) all inn
 ne:∀q,all.ownBlock=some q->inn.ownBlock≠some q
def HJ (p:Nat) (A B:DF->Prop):(Nat->Bool)->(Nat->DG)->DF->Prop:=fun d _ w=>(d p=true->B w)/\(d p=false->A w)
theorem HJ.CI {A B:DF->Prop} {u f:Nat->DG} {w w':DF} (e:decide (p=i)=false) (h:HJ p A B d u w) (b:A w->A w') (c:B w->B w'):HJ p A B (bD d i) f w':=by
 have a:p≠i:=of_decide_eq_false e;refine⟨fun q=>c (h.1 ?_),fun q=>b (h.2 ?_)⟩
 ·unfold bD at q;rw[if_neg a]at q;exact q
 ·unfold bD at q;rw[if_neg a]at q;exact q
theorem HJ.same {A B:DF->Prop} {u b:Nat->DG} {w:DF} (a:decide (p=i)=false) (h:HJ p A B d u w):HJ p A B (bD d i) b w:=h.CI a (fun x=>x) (fun x=>x)
theorem HJ.set {A B:DF->Prop} {u:Nat->DG} {w:DF} (h:B w):HJ p A B (bD d p) u w:=⟨fun _=>h,fun q=>by unfold bD at q;rw[if_pos rfl]at q;cases q⟩
theorem HJ.start {A B:DF->Prop} {u:Nat->DG} {w:DF} (h:A w):HJ p A B (fun _=>false) u w:=⟨fun q=>(by cases q),fun _=>h⟩
theorem ag {P:Ee} {ops:Array Oper} {rest:List Oper} {a:Act} {w w':DF} {Q:Exit->Act->DF->Prop} {d ty:Ec} {pp:String} {b:Array Edge} {x y:Fu} {p v:DG} (hx:a.eval x=p) (hy:a.eval y=v) (c:(Fb ty p v).run P w=.ok () w') (h:Fl P ops Q rest a w'):
  Fl P ops Q (⟨none,.store ty x y,d,pp,b,none⟩ :: rest) a w:=bM hx hy c h
theorem uQ {P:Ee} {ops:Array Oper} {rest:List Oper} {a:Act} {w w':DF} {Q:Exit->Act->DF->Prop} {d:Option Tmp} {g t t2:Ec} {pp:String} {b:Array Edge} {s x:Fu} {v u r:DG} (e:∀ty,(FY #[t,t2] ty #[v,u]).run P w=.ok r w') (f:a.eval s=v) (hx:a.eval x=u) (h:Fl P ops Q rest (a.put d r) w'):
  Fl P ops Q (⟨d,.call {callee:=.builtin .append,args:=#[s,x],argTypes:=#[t,t2]},g,pp,b,none⟩ :: rest) a w:=
 H3 rfl fun K c=>by
  unfold Oper.wp Fg;simp only[resolve,invoke,builtin,E0,E7,Ey,Fx,E2,FI,f,hx,e];exact c _ _ h
theorem qL {P:Ee} {a:Nat->DG} {w w':DF} {φ :DG->DF->Prop} {d:Option Tmp} {i t t2:Ec} {pp:String} {b:Array Edge} {g:Option (Nat × Bool)} {s x:Fu} {v u r:DG} (e:∀ty,(FY #[t,t2] ty #[v,u]).run P w=.ok r w') (f:aX a s=v) (hx:aX a x=u) (c:az w w') (h: φ r w'):
  gi P w φ ((Fg (aX a) ⟨d,.call {callee:=.builtin .append,args:=#[s,x],argTypes:=#[t,t2]},i,pp,b,g⟩).run P w):=by
 unfold Fg;simp only[resolve,invoke,builtin,E0,E7,Ey,Fx,E2,FI,f,hx,e];exact⟨c,h⟩
theorem AY {P:Ee} {w:DF} {t e:Ec} (f:jE P t e (.int .u8 0) 1 bytes) (p:bytes<=1) {v u:DG} {a:Int} (A:∃g,v=.slice (some ⟨g,0,none⟩) 1 1/\w.rangeAt g 0 (ao .u8 [a])) (hu:∃b,u=.slice (some ⟨b,0,none⟩) m m/\w.rangeAt b 0 (ao .u8 l)) (d:l.length=m) (D:0 < m) (hm:m<=1099511627776) (k:B<=w.heap.size):
  ∃c w',(∀ty,(FY #[t,t] ty #[v,u]).run P w=.ok (.slice (some ⟨w.heap.size,0,none⟩) (1+m) c) w')/\az w w'/\w'.ownsRow B e 1 (.slice (some ⟨w.heap.size,0,none⟩) (1+m) c) (1+m) (ao .u8 (a :: l)):=by
 obtain⟨i,z,C,h,o⟩:=Gq f.info;obtain⟨g,rfl,s⟩:=A;obtain⟨b,rfl,n⟩:=hu;have y:=grownCap_ge w (1+m) 1 e;have q:grownCap w (1+m) 1 e<=DV:=grownCap_le_maxLen w (1+m) 1 e (by unfold DV;omega);have r:Builtin.nextslicecap (1+m) 1*i.bytes<=281474976710656:=growslice_fits (by omega) (by rw[o];have:(1+m)*bytes<=(1+m)*1:=Nat.mul_le_mul_left _ p;omega);refine⟨_,_,fun ty=>run_append_grow (P:=P) w t ty e i _ f.ht z C ⟨g,0,none⟩ 1 1 (ao .u8 [a]) (by rw[h];rfl) (fun j x hx=>by rw[Ft];exact s j x hx) ⟨b,0,none⟩ m m (ao .u8 l) (by rw[h,ints_length,d];omega) (fun j x hx=>by rw[Ft];exact n j x hx) (by omega) (by omega) r,((DI _ _).drew).alloc (DH _) _,?_⟩;refine⟨by simp[d];omega,.inr ⟨w.heap.size,_,_,rfl,k,heap_alloc_new w.drew _,y,q,?_,?_⟩⟩
 ·simp only[Array.size_append,List.size_toArray,size_zeroCells,ints_length,d,Gw,Eu,EK];omega
 ·simp only[Array.toList_append,Em,Fi];rw[<-Em,<-aT];exact Iv (by simp[d];omega)
theorem dY {P:Ee} {a:Nat->DG} {w:DF} {φ :DG->DF->Prop} {d:Option Tmp} {f ty:Ec} {pp:String} {b:Array Edge} {g:Option (Nat × Bool)} {x:Fu} {p v:DG} (hx:aX a x=p) (c:(Fm ty p).run P w=.ok v w) (e: φ v w):
  gi P w φ ((Fg (aX a) ⟨d,.load ty x,f,pp,b,g⟩).run P w):=by
 unfold Fg;simp only[hx,E0,E7,Ey,c];exact⟨DI _ _,e⟩
theorem jL {w:DF} (h:w.there g 0 n) (o:Obj):(w.alloc o).there g 0 n:=World.there_alloc h o
theorem oP {w:DF} (h:w.there g 0 n) (a:0 < n):g < w.heap.size:=by
 have h1:=(h 0 a).1;cases hc:w.cell? ⟨g,0+0,none⟩with
 | none=>rw[hc]at h1;cases h1
 | some v=>exact DM _ _ hc
structure JT (B n i7 i8 s7 t7 t8:Nat) (l:List DG) (d:Nat->Bool) (u:Nat->DG) (w:DF):Prop where
 a7:d i7=true->∃g,u t7=.pointer (some ⟨g,0,none⟩)/\B<=g/\w.there g 0 n
 a8:d i8=true->∃g,u t8=.pointer (some ⟨g,0,none⟩)/\B<=g/\w.there g 0 n
 ne:d i7=true->d i8=true->u t7≠u t8
 s:d s7=true->∃g,u t7=.pointer (some ⟨g,0,none⟩)/\w.rangeAt g 0 l
 le:B<=w.heap.size
section
variable {B n i7 i8 s7 t7 t8:Nat} {l:List DG} {d:Nat->Bool} {u:Nat->DG} {w:DF}
theorem JT.start (h:B<=w.heap.size):JT B n i7 i8 s7 t7 t8 l (fun _=>false) u w:=⟨fun q=>(by cases q),fun q=>(by cases q),fun q=>(by cases q),fun q=>(by cases q),h⟩
theorem JT.same {i t:Nat} {v:DG} (h:JT B n i7 i8 s7 t7 t8 l d u w) (c:(decide (i7=i)||decide (i8=i)||decide (s7=i)||decide (t7=t)||decide (t8=t))=false):JT B n i7 i8 s7 t7 t8 l (bD d i) (aQ (some t) u v) w:=by
 simp only[Et,decide_eq_false_iff_not]at c;obtain⟨⟨⟨⟨h1,h2⟩,e⟩,a⟩,b⟩:=c;refine⟨?_,?_,?_,?_,h.le⟩
 ·unfold bD aQ;simp only[if_neg h1,if_neg a];exact h.a7
 ·unfold bD aQ;simp only[if_neg h2,if_neg b];exact h.a8
 ·unfold bD aQ;simp only[if_neg h1,if_neg h2,if_neg a,if_neg b];exact h.ne
 ·unfold bD aQ;simp only[if_neg e,if_neg a];exact h.s
theorem JT.Dq {e:Ec} {cs:Array DG} (h:JT B n i7 i8 s7 t7 t8 l d u w) (k:(decide (i7=i8)||decide (i7=s7)||decide (t7=t8))=false) (p:d s7=false) (r:cs.size=n) (t:0 < n):
  JT B n i7 i8 s7 t7 t8 l (bD d i7) (aQ (some t7) u (.pointer (some ⟨w.heap.size,0,none⟩))) (w.alloc (.cells cs e)):=by
 simp only[Et,decide_eq_false_iff_not]at k;obtain⟨⟨h1,h2⟩,o⟩:=k;have h1':¬i8=i7:=fun q=>h1 q.symm
 have m:¬s7=i7:=fun q=>h2 q.symm
 have i:¬t8=t7:=fun q=>o q.symm
 have v:(w.alloc (.cells cs e)).there w.heap.size 0 n:=fun j s=>by
  rw[DY];have x:(w.alloc (.cells cs e)).heap[w.heap.size]? =some (.cells cs e):=heap_alloc_new w _;constructor
  ·rw[D6];simp[r,s]
  ·simp only[World.frozen?,x];simp
 refine⟨?_,?_,?_,?_,by simp;exact Nat.le_succ_of_le h.le⟩
 ·unfold aQ;simp only[if_true];exact fun _=>⟨_,rfl,h.le,v⟩
 ·unfold bD aQ;simp only[if_neg h1',if_neg i];exact fun q=>by obtain⟨g,a,b,c⟩:=h.a8 q;exact⟨g,a,b,jL c _⟩
 ·unfold bD aQ;simp only[if_neg h1',if_neg i,if_true];intro _ q f;obtain⟨g,a,b,c⟩:=h.a8 q;rw[a]at f;injection f with f;injection f with f;injection f with f;have:=oP c t;omega
 ·unfold bD;simp only[if_neg m];intro q;rw[p]at q;cases q
theorem JT.Dr {e:Ec} {cs:Array DG} (h:JT B n i7 i8 s7 t7 t8 l d u w) (k:(decide (i8=i7)||decide (i8=s7)||decide (t7=t8))=false) (o:d s7=false) (p:cs.size=n) (s:0 < n):
  JT B n i7 i8 s7 t7 t8 l (bD d i8) (aQ (some t8) u (.pointer (some ⟨w.heap.size,0,none⟩))) (w.alloc (.cells cs e)):=by
 simp only[Et,decide_eq_false_iff_not]at k;obtain⟨⟨h1,h2⟩,i⟩:=k;have h1':¬i7=i8:=fun q=>h1 q.symm
 have m:¬s7=i8:=fun q=>h2 q.symm
 have t:(w.alloc (.cells cs e)).there w.heap.size 0 n:=fun j r=>by
  rw[DY];have v:(w.alloc (.cells cs e)).heap[w.heap.size]? =some (.cells cs e):=heap_alloc_new w _;constructor
  ·rw[D6];simp[p,r]
  ·simp only[World.frozen?,v];simp
 refine⟨?_,?_,?_,?_,by simp;exact Nat.le_succ_of_le h.le⟩
 ·unfold bD aQ;simp only[if_neg h1',if_neg i];exact fun q=>by obtain⟨g,a,b,c⟩:=h.a7 q;exact⟨g,a,b,jL c _⟩
 ·unfold aQ;simp only[if_true];exact fun _=>⟨_,rfl,h.le,t⟩
 ·unfold bD aQ;simp only[if_neg h1',if_neg i,if_true];intro q _ f;obtain⟨g,a,b,c⟩:=h.a7 q;rw[a]at f;injection f with f;injection f with f;injection f with f;have:=oP c s;omega
 ·unfold bD;simp only[if_neg m];intro q;rw[o]at q;cases q
theorem JT.Da (h:JT B n i7 i8 s7 t7 t8 l d u w) (i:(decide (i7=s7)||decide (i8=s7))=false) (k:d i7=true) (m:l.length=n) {g:Nat} (j:u t7=.pointer (some ⟨g,0,none⟩)):
  JT B n i7 i8 s7 t7 t8 l (bD d s7) u (w.setCells g 0 l)/\EZ B w (w.setCells g 0 l):=by
 simp only[Et,decide_eq_false_iff_not]at i;obtain⟨h1,h2⟩:=i;obtain⟨e,a,b,c⟩:=h.a7 k;rw[j]at a;injection a with a;injection a with a;injection a with a;subst a;have f:=aE l g 0 w (DI B w) b;refine⟨⟨?_,?_,?_,fun _=>⟨g,j,World.rangeAt_setCells_same w g 0 l (by rw[m];exact c)⟩,Nat.le_trans h.le f.size⟩,f⟩
 ·unfold bD;simp only[if_neg h1];exact fun q=>by obtain⟨e,a,b,c⟩:=h.a7 q;exact⟨e,a,b,Fp c _ _ _⟩
 ·unfold bD;simp only[if_neg h2];exact fun q=>by obtain⟨e,a,b,c⟩:=h.a8 q;exact⟨e,a,b,Fp c _ _ _⟩
 ·unfold bD;simp only[if_neg h1,if_neg h2];exact h.ne
end
theorem fB {R:DF->DF->Prop} (e:∀w,R w w) {P:Ee} {a:Nat->DG} {w:DF} {φ :DG->DF->Prop} {d:Option Tmp} {h ty:Ec} {pp:String} {b:Array Edge} {g:Option (Nat × Bool)} {x:Fu} {p v:DG} (hx:aX a x=p) (c:(Fm ty p).run P w=.ok v w) (f: φ v w):
  dU R P w φ ((Fg (aX a) ⟨d,.load ty x,h,pp,b,g⟩).run P w):=by
 unfold Fg;simp only[hx,E0,E7,Ey,c];exact⟨e _,f⟩
theorem dw {R:DF->DF->Prop} {P:Ee} {a:Nat->DG} {w w':DF} {φ :DG->DF->Prop} {d:Option Tmp} {h ty:Ec} {pp:String} {b:Array Edge} {g:Option (Nat × Bool)} {x y:Fu} {p v:DG} (hx:aX a x=p) (hy:aX a y=v) (e:(Fb ty p v).run P w=.ok () w') (c:R w w') (f: φ EI w'):
  dU R P w φ ((Fg (aX a) ⟨d,.store ty x y,h,pp,b,g⟩).run P w):=by
 unfold Fg;simp only[hx,hy,E0,E7,Ey,e];exact⟨c,f⟩
def aN (ds:List (List Int)):List DG:=ds.flatMap (ao .u8)
def dm (ds:List (List Int)):Prop:=∀d∈ds,d.length=32/\bA d
theorem dm.nil:dm []:=fun d a=>by cases a
theorem dm.append {a b:List (List Int)} (h:dm a) (k:dm b):dm (a++b):=fun d c=>by
 rcases EL.1 c with c | c
 ·exact h d c
 ·exact k d c
theorem dm.one {d:List Int} (h:d.length=32) (k:bA d):dm [d]:=fun x hx=>by
 obtain rfl:x=d:=by simpa using hx
 exact⟨h,k⟩
theorem dm.take {a:List (List Int)} (h:dm a) (n:Nat):dm (a.take n):=fun d b=>h d (EN b)
theorem dm.drop {a:List (List Int)} (h:dm a) (n:Nat):dm (a.drop n):=fun d b=>h d (FL b)
theorem dm.get {a:List (List Int)} (h:dm a) (b:i < a.length):(a.getD i []).length=32/\bA (a.getD i []):=by
 rw[DJ,DL b];exact h _ (Fc b)
theorem cZ (d:List Int):aN [d]=ao .u8 d:=by simp[aN]
theorem cE (a b:List (List Int)):aN (a++b)=aN a++aN b:=by simp[aN]
theorem bF:∀ {ds:List (List Int)},dm ds->(aN ds).length=ds.length*32
 | [],_=>rfl
 | d :: r,h=>by
  have h1:=(h d (by simp)).1;have h2:=bF (ds:=r) (fun x hx=>h x (FM _ hx));show(ao .u8 d++aN r).length=_;rw[List.length_append,ints_length,h1,h2,Eu];omega
theorem cH (ds:List (List Int)):∀c∈aN ds,c.oneCell'=true:=fun c a=>by
 obtain⟨d,_,b⟩:=List.mem_flatMap.1 a;exact aF _ _ c b
theorem ix {ds:List (List Int)} (h:dm ds) (k:Nat):(aN ds).drop (k*32)=aN (ds.drop k):=by
 by_cases a:k<=ds.length
 ·have e:ds=ds.take k++ds.drop k:=(Fs k ds).symm;conv=>lhs;rw[e,cE]
  exact List.drop_left' (by rw[bF (h.take k),DX,Fw a])
 ·rw[FQ (by rw[bF h];omega),FQ (by omega)];rfl
theorem oQ {ds:List (List Int)} (h:dm ds) (k:Nat):(aN ds).take (k*32)=aN (ds.take k):=by
 by_cases a:k<=ds.length
 ·have e:ds=ds.take k++ds.drop k:=(Fs k ds).symm;conv=>lhs;rw[e,cE]
  exact Iv (by rw[bF (h.take k),DX,Fw a])
 ·rw[DW (by rw[bF h];omega),DW (by omega)]
abbrev eY (w:DF) (v:DG) (ds:List (List Int)):Prop:=bh w v ds.length (aN ds)
theorem dW {w:DF} {ds:List (List Int)} (h:w.rangeAt b o (aN ds)) (c:dm ds) (a:i < ds.length):w.rangeAt b (o+i*32) (ao .u8 (ds.getD i [])):=by
 have h1:=ch h (i*32);rw[ix c,List.drop_eq_getElem_cons a]at h1;have h2:=cU h1 32;have e:(aN (ds[i] :: ds.drop (i+1))).take 32=ao .u8 ds[i]:=by show(ao .u8 ds[i]++_).take 32=_;exact Iv (by rw[ints_length];exact(c _ (Fc a)).1)
 rw[e]at h2;rw[DJ,DL a];exact h2
theorem gJ {w:DF} {ds:List (List Int)} (h:w.rangeAt b o (aN ds)) (a:dm ds) (k m:Nat):w.rangeAt b (o+k*32) (aN ((ds.drop k).take m)):=by
 have h1:=ch h (k*32);rw[ix a]at h1;have h2:=cU h1 (m*32);rw[oQ (a.drop k)]at h2;exact h2
theorem eY.pos {w:DF} {v:DG} {ds:List (List Int)} (h:eY w v ds) (e:dm ds) (f:0 < ds.length):∃b o c,v=.slice (some ⟨b,o,none⟩) ds.length c/\ds.length<=c/\c<=DV/\b < w.heap.size/\w.rangeAt b o (aN ds):=by
 rcases h with ⟨_,h,_⟩ | ⟨b,o,c,h1,h2,d,a⟩
 ·omega
 ·exact⟨b,o,c,h1,h2,d,bP a (fun q=>by have:=bF e;rw[q]at this;simp at this;omega),a⟩
theorem mY:∀(l:List DG) (k:Nat) (init:List DG),k+l.length=init.length->((l.zipIdx k).foldl (fun(cs:List DG) (p:DG × Nat)=>cs.set p.2 p.1) init)=init.take k++l
 | [],k,init,h=>by simp at h;simp[h]
 | x :: r,k,init,h=>by
  simp only[List.zipIdx_cons,It];rw[mY r (k+1) (init.set k x) (by simp at h⊢;omega)];rw[List.take_add_one,List.take_set_of_le (DH _),List.getElem?_set_self (by simp at h;omega)];simp
theorem oR (cells cs:Array DG) (n:Nat) (b:cells.size=n) (c:cs.size=n):Instr.fill (fun i=>some (i*n,n)) cells [(0,.agg cs)]=some cs:=by
 simp only[Instr.fill,Gw,Gg,DY];rw[if_neg (by simp[b,c])];have key:∀(l:List (DG × Nat)) (init:Array DG),(l.foldl (fun(a:Array DG) (p:DG × Nat)=>a.setIfInBounds p.2 p.1) init).toList=l.foldl (fun(a:List DG) (p:DG × Nat)=>a.set p.2 p.1) init.toList:=by
  intro l;induction l with
  | nil=>intro init;rfl
  | cons p r ih=>intro init;rw[It,It,ih];simp
 congr 1;apply Array.toList_inj.1;rw[<-Array.foldl_toList,key,Array.toList_zipIdx,mY cs.toList 0 cells.toList (by simp[b,c])];simp
section
variable {P:Ee} {t e:Ec} {z:DG} {bytes n:Nat}
theorem uR (a:jE P t e z n bytes) (h:n<=1000) (w:DF) (cs:Array DG) (d:cs.size=n):
  (Instr.buildSlice t 1 #[(0,.agg cs)]).run P w=.ok (.slice (some ⟨w.heap.size,0,none⟩) 1 1) (w.alloc (.cells cs e)):=by
 obtain⟨i,c,f,b,g⟩:=Gq a.info;have hp:=a.pos;refine run_buildSlice w t e 1 #[(0,.agg cs)] cs i z a.ht c f (by rw[b];omega) (by rw[b];omega) ?_;rw[b];exact oR _ cs n (by simp) d
theorem fg (c:jE P t e z n bytes) (f:n<=1000) {a:Nat->DG} {w:DF} {φ :DG->DF->Prop} {d:Option Tmp} {k:Ec} {pp:String} {b:Array Edge} {g:Option (Nat × Bool)} {x:Fu} {cs:Array DG} (hx:aX a x=.agg cs) (i:cs.size=n) (j: φ (.slice (some ⟨w.heap.size,0,none⟩) 1 1) (w.alloc (.cells cs e))):
  gi P w φ ((Fg (aX a) ⟨d,.buildSlice t 1 #[(0,x)],k,pp,b,g⟩).run P w):=by
 have h:=uR c f w cs i;unfold Fg;simp only[hx,Fx,E2,FI,E0,E7,h,Ey];exact⟨ae _ _,j⟩
theorem da (f:jE P t e z n bytes) (g:n<=1000) {ops:Array Oper} {rest:List Oper} {a:Act} {w:DF} {Q:Exit->Act->DF->Prop} {d:Option Tmp} {j:Ec} {pp:String} {b:Array Edge} {x:Fu} {cs:Array DG} (hx:a.eval x=.agg cs) (i:cs.size=n)
  (h:Fl P ops Q rest (a.put d (.slice (some ⟨w.heap.size,0,none⟩) 1 1)) (w.alloc (.cells cs e))):Fl P ops Q (⟨d,.buildSlice t 1 #[(0,x)],j,pp,b,none⟩ :: rest) a w:=
 H3 rfl fun K c=>by
  have h1:=uR f g w cs i;unfold Oper.wp Fg;simp only[hx,Fx,E2,FI,E0,E7,h1,Ey];exact c _ _ h
end
theorem db {P:Ee} {ops:Array Oper} {rest:List Oper} {a:Act} {w:DF} {Q:Exit->Act->DF->Prop} {d:Option Tmp} {c ty:Ec} {pp:String} {b:Array Edge} {n:Nat} {xs:Array (Nat × Fu)} (h:jF (Fl P ops Q (⟨d,.buildSlice ty n xs,c,pp,b,none⟩ :: rest) a w)):Fl P ops Q (⟨d,.buildSlice ty n xs,c,pp,b,none⟩ :: rest) a w:=h
theorem fS (w:DF) (e:Ec) (d:List Int) (_h:d.length=32):bh (w.alloc (.cells (ao .u8 d).toArray e)) (.slice (some ⟨w.heap.size,0,none⟩) 1 1) 1 (aN [d]):=by
 refine .inr ⟨w.heap.size,0,1,rfl,DH _,show 1<=DV from by decide,fun j v a=> ?_⟩;rw[DY,D6];rw[cZ]at a;simpa using a
abbrev zA:Array DG:=#[.int .u8 0,.int .u8 0,.int .u8 0,.int .u8 0,.int .u8 0,.int .u8 0,.int .u8 0,.int .u8 0,.int .u8 0,.int .u8 0,.int .u8 0,.int .u8 0,.int .u8 0,.int .u8 0,.int .u8 0,.int .u8 0,.int .u8 0,.int .u8 0,.int .u8 0,.int .u8 0,.int .u8 0,.int .u8 0,.int .u8 0,.int .u8 0,.int .u8 0,.int .u8 0,.int .u8 0,.int .u8 0,.int .u8 0,.int .u8 0,.int .u8 0,.int .u8 0]
theorem sE:(∀(l:List Oper) (V:List (DG->DF->Prop)) (u:Nat->DG) (w:DF),kh l V u w 0=True)/\(∀(l:List Oper) (V:List (DG->DF->Prop)) (u:Nat->DG) (w:DF) (j:Nat),kh l V u w (j+1)=(kh l V u w j/\match (l[j]?).bind (·.dst)with | some d=>V.getD j (fun _ _=>True) (u d) w | none=>True))/\(∀ {α :Type} {a: α} {l:List α} {n:Nat},(a :: l)[n+1]? =l[n]?)/\(∀ {α :Type} {a: α} {l:List α},(a :: l)[0]? =some a)/\(∀ {α β :Type} (a: α) (f: α ->Option β),(some a).bind f=f a)/\(∀ {α :Type} {a d: α} {l:List α} {n:Nat},(a :: l).getD (n+1) d=l.getD n d)/\(∀ {α :Type} {a d: α} {l:List α},(a :: l).getD 0 d=a)/\(∀m v w,ar m v w=(v=m))/\(∀p:Prop,(True/\p)=p):=⟨fun _ _ _ _=>rfl,fun _ _ _ _ _=>rfl,@Q1,@Q2,@Qc,@Q3,@Q4,fun _ _ _=>rfl,true_and⟩
theorem sF:(∀(a:Act) (u:Nat->DG),aK a [] u=a)/\(∀(a:Act) (t:Tmp) (r:List Tmp) (u:Nat->DG),aK a (t :: r) u= {tmps:=(aK a r u).tmps.setIfInBounds t (u t),defers:=a.defers})/\(∀ {α :Type} {a: α} {l:List α} {i:Nat},l.toArray.setIfInBounds i a=(l.set i a).toArray)/\(∀ {α :Type} {a b: α} {l:List α} {i:Nat},(a :: l).set (i+1) b=a :: l.set i b)/\(∀ {α :Type} {a b: α} {l:List α},(a :: l).set 0 b=b :: l)/\(∀ {α :Type} {a: α} {l:List α} {n:Nat},(a :: l).drop (n+1)=l.drop n)/\(∀ {α :Type} {l:List α},l.drop 0=l):=⟨fun _ _=>rfl,fun _ _ _ _=>rfl,@Q5,@Q6,@Q7,@Q8,@Q9⟩
theorem sD:(∀(l:List Oper) (V:List (DG->DF->Prop)) (u:Nat->DG) (w:DF),kL l V u w []=True)/\(∀(l:List Oper) (V:List (DG->DF->Prop)) (u:Nat->DG) (w:DF) (e:Edge) (r:List Edge),kL l V u w (e :: r)=((match (l[e.on]?).bind (·.dst)with | some d=>V.getD e.on (fun _ _=>True) (u d) w | none=>True)/\kL l V u w r))/\(∀ {α :Type} {a: α} {l:List α} {n:Nat},(a :: l)[n+1]? =l[n]?)/\(∀ {α :Type} {a: α} {l:List α},(a :: l)[0]? =some a)/\(∀ {α β :Type} (a: α) (f: α ->Option β),(some a).bind f=f a)/\(∀ {α :Type} {a d: α} {l:List α} {n:Nat},(a :: l).getD (n+1) d=l.getD n d)/\(∀ {α :Type} {a d: α} {l:List α},(a :: l).getD 0 d=a)/\(∀m v w,ar m v w=(v=m))/\(∀p:Prop,(p/\True)=p):=⟨fun _ _ _ _=>rfl,fun _ _ _ _ _ _=>rfl,@Q1,@Q2,@Qc,@Q3,@Q4,fun _ _ _=>rfl,and_true⟩
theorem sG:(∀(l:List Oper) (V:List (DG->DF->Prop)) (u:Nat->DG) (w:DF),km l V u w []=True)/\(∀(l:List Oper) (V:List (DG->DF->Prop)) (u:Nat->DG) (w:DF) (e:Edge) (r:List Edge),km l V u w (e :: r)=((match e.ground with | .textOnly _=>True | .gcOnly _=>True | _=>(match (l[e.on]?).bind (·.dst)with | some d=>V.getD e.on (fun _ _=>True) (u d) w | none=>True))/\km l V u w r))/\(∀ {α :Type} {a: α} {l:List α} {n:Nat},(a :: l)[n+1]? =l[n]?)/\(∀ {α :Type} {a: α} {l:List α},(a :: l)[0]? =some a)/\(∀ {α β :Type} (a: α) (f: α ->Option β),(some a).bind f=f a)/\(∀ {α :Type} {a d: α} {l:List α} {n:Nat},(a :: l).getD (n+1) d=l.getD n d)/\(∀ {α :Type} {a d: α} {l:List α},(a :: l).getD 0 d=a)/\(∀m v w,ar m v w=(v=m))/\(∀p:Prop,(p/\True)=p):=⟨fun _ _ _ _=>rfl,fun _ _ _ _ _ _=>rfl,@Q1,@Q2,@Qc,@Q3,@Q4,fun _ _ _=>rfl,and_true⟩
theorem sB:(∀ {α :Type} {d: α} {l:Array α} {i:Nat},l.getD i d=l[i]?.getD d)/\(∀ {α :Type} {l:List α} {i:Nat},l.toArray[i]? =l[i]?)/\(∀ {α :Type} {a: α} {l:List α} {n:Nat},(a :: l)[n+1]? =l[n]?)/\(∀ {α :Type} {a: α} {l:List α},(a :: l)[0]? =some a)/\(∀ {α :Type} {a b: α},(some a).getD b=a):=⟨@Qa,@Qb,@Q1,@Q2,@Qd⟩
class MonoLC (l:List (DG->DF->Prop)):Prop where
 h:je l
instance:MonoLC []:=⟨trivial⟩
instance {l:List (DG->DF->Prop)} {m:DG} [MonoLC l]:MonoLC (ar m :: l):=⟨⟨aB m,MonoLC.h⟩⟩
instance {l:List (DG->DF->Prop)} [MonoLC l]:MonoLC (bK :: l):=⟨⟨sZ,MonoLC.h⟩⟩
theorem mL {l:List (DG->DF->Prop)} [MonoLC l]:je l:=MonoLC.h
class MonoRC (R:DF->DF->Prop) (l:List (DG->DF->Prop)):Prop where
 h:kM R l
instance {R:DF->DF->Prop}:MonoRC R []:=⟨trivial⟩
instance {R:DF->DF->Prop} {l:List (DG->DF->Prop)} {m:DG} [MonoRC R l]:MonoRC R (ar m :: l):=⟨⟨s6 m,MonoRC.h⟩⟩
instance {R:DF->DF->Prop} {l:List (DG->DF->Prop)} [MonoRC R l]:MonoRC R (bK :: l):=⟨⟨qJ,MonoRC.h⟩⟩
theorem mR {R:DF->DF->Prop} {l:List (DG->DF->Prop)} [MonoRC R l]:kM R l:=MonoRC.h
end Go.Proofs.Bl
