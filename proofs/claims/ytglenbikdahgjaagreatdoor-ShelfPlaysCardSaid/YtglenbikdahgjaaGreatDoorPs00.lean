/- Part 0 of the proof. -/
import Derived.WalkKit
import Derived.Deep.MidRow
import Derived.Deep.QuietTactic
import Derived.Deep.AppendLies
import Derived.Laws.AppendOwnNone
import Derived.StillTail
import Derived.RangeFuncNested
import Derived.RangeFuncBound
import Derived.RangeFuncCalls
import Derived.RangeFuncLeaves
import Derived.OwnWalkIn
import Derived.TacticsInMore
import Derived.Laws.BytesString
import Derived.Laws.Cells
import Derived.Laws.Strings
import Derived.Laws.StructEq
import Derived.BigQuiet
import Derived.Laws.OwnMore
import Derived.Laws.MakeOwn
import Derived.LaidEql
import Derived.Great.BuildSlice
set_option maxRecDepth 100000
set_option maxHeartbeats 16000000
open Array renaming getD_eq_getD_getElem?->DN,replicate->EW
open Bool renaming and_eq_true->Du,eq_iff_iff->F6,false_eq_true->E3,false_or->Fx,not_true->DO
open Go renaming IntKind->El,Operand->EJ,Program->Ds,TypeId->Dn,Value->CQ,World->CP,execOp->EF,getD_replicate_false->D2,getD_set_ne->FE,info_parts->FO,maxLen->Dc,run_underlying->Fa,undef->DT,wpList->Ew,wpList_plain->Gh
open Go.Addr renaming add_mid->EH
open Go.Builtin renaming append_->FD
open Go.Instr renaming loadAt->EX,storeAt->Fo
open Go.Region renaming binds->Ez,wanted->C8
open Go.Result renaming andThen_ok->DR
open Go.RowKit renaming Below->Et
open Go.RowKit.Below renaming heap_setCell->EC,refl->CT
open Go.Sem renaming run_bind->Ey,run_pure->EI
open Go.Value renaming int->Dx
open Go.World renaming cell?_alloc_new->Df,cell?_setCell_other->Dv,frozen?_setCell->Fi
open Int renaming toNat_natCast->Dy
open List renaming all_eq_true->Dw,append_assoc->DH,countP_append->Fz,drop_of_length_le->Fc,foldl_cons->Gz,getD_eq_getElem?_getD->CR,getElem?_drop->Es,getElem?_eq_getElem->CV,getElem?_eq_some_iff->Dt,getElem?_map->DE,getElem?_take->DL,getElem_mem->DW,length_cons->DB,length_drop->C6,length_eq_zero_iff->DI,length_nil->DY,length_take->Da,map_cons->Eu,map_nil->Fb,map_toArray->E7,mem_append->Dz,mem_cons_of_mem->E6,mem_filterMap->FA,mem_of_getElem?->DZ,mem_of_mem_drop->Fq,mem_of_mem_take->En,mem_zipIdx_iff_getElem?->D1,range->DD,range_succ->F5,replicate->Dl,take_append_drop->D5,take_left'->GA,take_of_length_le->CX
open Nat renaming add_assoc->Fm,le_refl->CU,min_eq_left->E1,mul_one->EZ,zero_add->Dq,zero_mul->Gg
open Option renaming bind_some->Ed
open UInt8 renaming ofNat->Gc
namespace Go.Proofs.Bl
open Go Go.RowKit Go.Proofs
variable {n g b o B base size e i j bytes p m:Nat} {l a:List Int} {d:Nat->Bool}
theorem Q1{α:Type _}{a:α}{l:List α}{n:Nat}:(a::l)[n+1]? =l[n]? :=List.getElem?_cons_succ
theorem Q2{α:Type _}{a:α}{l:List α}:(a::l)[0]? =some a:=List.getElem?_cons_zero
theorem Q3{α:Type _}{a d:α}{l:List α}{n:Nat}:(a::l).getD (n+1) d=l.getD n d:=List.getD_cons_succ
theorem Q4{α:Type _}{a d:α}{l:List α}:(a::l).getD 0 d=a:=List.getD_cons_zero
theorem Q5{α:Type _}{a:α}{l:List α}{i:Nat}:l.toArray.setIfInBounds i a=(l.set i a).toArray:=by simp
theorem Q6{α:Type _}{a b:α}{l:List α}{i:Nat}:(a::l).set (i+1) b=a::l.set i b:=List.set_cons_succ
theorem Q7{α:Type _}{a b:α}{l:List α}:(a::l).set 0 b=b::l:=List.set_cons_zero
theorem Q8{α:Type _}{a:α}{l:List α}{n:Nat}:(a::l).drop (n+1)=l.drop n:=List.drop_succ_cons
theorem Q9{α:Type _}{l:List α}:l.drop 0=l:=List.drop_zero
theorem Qa{α:Type _}{d:α}{l:Array α}{i:Nat}:l.getD i d=l[i]?.getD d:=Array.getD_eq_getD_getElem?
theorem Qb{α:Type _}{l:List α}{i:Nat}:l.toArray[i]? =l[i]? :=List.getElem?_toArray
theorem Qc{α β:Type _}(a:α)(f:α->Option β):(some a).bind f=f a:=rfl
theorem Qd{α:Type _}{a b:α}:(some a).getD b=a:=rfl
theorem exq{α:Sort _}(a:α):∃b,b=a:=⟨a,rfl⟩
theorem aa {p:Prop} (h:p):Hid p:=h
def aj (k:El) (l:List Int):List CQ:=l.map (Dx k)
@[simp] theorem ints_length (k:El) (l:List Int):(aj k l).length=l.length:=by simp[aj]
theorem cJ (k:El) (l:List Int) (i:Nat) (h:i < l.length):(aj k l)[i]? =some (.int k (l.getD i 0)):=by
 simp[aj,CR,CV h]
theorem aP (k:El) (a b:List Int):aj k (a++b)=aj k a++aj k b:=by simp[aj]
theorem aE (k:El) (l:List Int):∀u∈aj k l,u.oneCell'=true:=by
 intro u hu;simp only[aj,List.mem_map]at hu;obtain⟨x,_,rfl⟩:=hu;rfl
theorem eM (k:El) (l:List Int) (i:Nat) (x:Int):(aj k l).set i (.int k x)=aj k (l.set i x):=by simp[aj]
abbrev au (w w':CP):Prop:=Et w.heap.size w w'
theorem au.trans {a b c:CP} (h:au a b) (k:au b c):au a c:=Below.trans h (Below.mono k h.size)
theorem _root_.Go.RowKit.Below.drewN {a w:CP} (h:Et B a w) (n:Nat):Et B a (w.drewN n):=⟨h.os,h.tape,h.output,h.size,h.block⟩
theorem ay {W a:CP} (c:Et B W a):(∀b o,b < B->a.cell? ⟨b,o,none⟩=W.cell? ⟨b,o,none⟩)/\(∀b o,b < B->a.frozen? ⟨b,o,none⟩=W.frozen? ⟨b,o,none⟩):=
 ⟨fun b o h=>c.cell (p:=⟨b,o,none⟩) h,fun b o h=>c.frozen (p:=⟨b,o,none⟩) h⟩
theorem bK {w:CP} {cs:List CQ} (h:w.rangeAt b o cs) (a:cs≠[]):b < w.heap.size:=by
 cases cs with
 | nil=>exact absurd rfl a
 | cons v r=>have:=h 0 v (by simp);exact World.block_lt_of_cell? w _ this
theorem l8 {w w':CP} {cs:List CQ} (h:w.rangeAt b o cs) (a:Et B w w') (c:b < B):w'.rangeAt b o cs:=fun j v d=>by
 rw[a.cell (p:=⟨b,o+j,none⟩) c];exact h j v d
theorem aL {w w':CP} {cs:List CQ} (h:w.rangeAt b o cs) (c:au w w'):w'.rangeAt b o cs:=by
 by_cases a:cs=[]
 ·subst a;intro j v d;simp at d
 ·exact l8 h c (bK h a)
theorem cU {w:CP} {cs:List CQ} (h:w.rangeAt b o cs) (n:Nat):w.rangeAt b (o+n) (cs.drop n):=fun j v a=>by
 rw[Es]at a;have:=h (n+j) v a;rw[<-Fm]at this;exact this
theorem dM {w:CP} {cs:List CQ} (h:w.rangeAt b o cs) (n:Nat):w.rangeAt b o (cs.take n):=fun j v a=>by
 refine h j v ?_;rw[DL]at a;split at a
 ·exact a
 ·cases a
def aX (w:CP) (v:CQ) (n:Nat) (cs:List CQ):Prop:=
 ((∃p,v=.slice p 0 0)/\n=0/\cs=[])\/∃b o c,v=.slice (some ⟨b,o,none⟩) n c/\n<=c/\c<=Dc/\w.rangeAt b o cs
theorem aX.ext {w w':CP} {v:CQ} {cs:List CQ} (h:aX w v n cs) (e:au w w'):aX w' v n cs:=by
 rcases h with h | ⟨b,o,c,h1,h2,a,d⟩
 ·exact .inl h
 ·exact .inr ⟨b,o,c,h1,h2,a,aL d e⟩
theorem aX.nil (w:CP):aX w (.slice none 0 0) 0 []:=.inl ⟨⟨_,rfl⟩,rfl,rfl⟩
abbrev Bu (w:CP) (k:El) (v:CQ) (l:List Int):Prop:=aX w v l.length (aj k l)
theorem Bu.ext {w w':CP} {k:El} {v:CQ} (h:Bu w k v l) (a:au w w'):Bu w' k v l:=aX.ext h a
theorem Bu.nil (w:CP) (k:El):Bu w k (.slice none 0 0) []:=aX.nil w
theorem Bu.pos {w:CP} {k:El} {v:CQ} (h:Bu w k v l) (f:0 < l.length):
  ∃b o c,v=.slice (some ⟨b,o,none⟩) l.length c/\l.length<=c/\c<=Dc/\b < w.heap.size/\w.rangeAt b o (aj k l)/\∀i,i < l.length->w.cell? ⟨b,o+i,none⟩=some (.int k (l.getD i 0)):=by
 rcases h with ⟨_,h,_⟩ | ⟨b,o,c,h1,h2,d,a⟩
 ·omega
 ·refine⟨b,o,c,h1,h2,d,bK a ?_,a,fun i e=>a i _ (cJ k l i e)⟩;intro h;have:=congrArg List.length h;rw[ints_length]at this;simp only[DY]at this;omega
theorem aX.form {w:CP} {v:CQ} {cs:List CQ} (h:aX w v n cs):∃p c,v=.slice p n c/\n<=c/\c<=Dc:=by
 rcases h with ⟨⟨p,h⟩,a,_⟩ | ⟨b,o,c,h1,h2,d,e⟩
 ·exact⟨p,0,by rw[h,a],by omega,by unfold Dc;omega⟩
 ·exact⟨_,c,h1,h2,d⟩
theorem aX.AS {w:CP} {v:CQ} {xs:List CQ} (h:w.ownsRow base e size v n xs):aX w v n xs:=by
 have h2:=h;obtain⟨h0,h1⟩:=h;rcases h1 with ⟨rfl,h1⟩ | ⟨g,cap,cur,rfl,c,d,a,hm,f,hx⟩
 ·subst h1;rw[Gg]at h0;exact .inl ⟨⟨_,rfl⟩,rfl,DI.1 h0⟩
 ·refine .inr ⟨g,0,cap,rfl,a,hm,fun j v b=> ?_⟩;have:=h2.cells (g:=g) rfl j v b;rw[EH]at this;exact this
def ld (w:CP) (g:Nat) (v:CQ) (n:Nat) (cs:List CQ):Prop:=
 (v=.slice none 0 0/\n=0/\cs=[])\/∃b o c,v=.slice (some ⟨b,o,none⟩) n c/\n<=c/\c<=Dc/\b≠g/\w.rangeAt b o cs
theorem ld.BD {w:CP} {v:CQ} {cs:List CQ} (h:ld w g v n cs):aX w v n cs:=by
 rcases h with ⟨h1,h2,a⟩ | ⟨b,o,c,h1,h2,a,_,d⟩
 ·exact .inl ⟨⟨_,h1⟩,h2,a⟩
 ·exact .inr ⟨b,o,c,h1,h2,a,d⟩
theorem ld.set {w:CP} {v:CQ} {cs:List CQ} (h:ld w g v n cs) (i:Nat) (u:CQ):ld (w.setCell ⟨g,i,none⟩ u) g v n cs:=by
 rcases h with h | ⟨b,o,c,h1,h2,d,a,e⟩
 ·exact .inl h
 ·refine .inr ⟨b,o,c,h1,h2,d,a,fun j x hx=> ?_⟩;rw[Dv _ _ _ _ (by intro q;injection q with q;exact a q.symm)];exact e j x hx
theorem ld.AS {w:CP} {v:CQ} {xs:List CQ} (h:w.ownsRow base e size v n xs) (b:v.ownBlock≠some g):ld w g v n xs:=by
 have h2:=h;obtain⟨h0,h1⟩:=h;rcases h1 with ⟨rfl,h1⟩ | ⟨k,cap,cur,rfl,f,d,a,hm,i,hx⟩
 ·subst h1;rw[Gg]at h0;exact .inl ⟨rfl,rfl,DI.1 h0⟩
 ·refine .inr ⟨k,0,cap,rfl,a,hm,fun q=>b (by rw[<-q];rfl),fun j v c=> ?_⟩;have:=h2.cells (g:=k) rfl j v c;rw[EH]at this;exact this
structure kv (P:Ds) (t e:Dn) (z:CQ) (size bytes:Nat):Prop where
 ht:P.underlying t=some (.slice e)
 info:(P.info? e).map (fun i=>(i.zero,i.size,i.bytes))=some (some z,size,bytes)
 hz:z.cells.size=size
 pos:0 < size
theorem dV {P:Ds} {ops:Array Oper} {rest:List Oper} {a:Act} {w:CP} {Q:Exit->Act->CP->Prop} {d:Option Tmp} {tt t e:Dn} {pp:String} {T:Array Edge} {s x:EJ} {v u z:CQ} {xs news:List CQ}
  (r:kv P t e z size bytes) (y:w.ownsRow base e size v n xs) (aa:aX w u m news) (H:news.length=m*size) (h1:∀c∈news,c.oneCell'=true)
  (hlen:n+m<=Dc) (L:(n+m)*bytes<=140737488355328) (J:base<=w.heap.size)
  (F:a.eval s=v) (hx:a.eval x=u)
  (h:∀D w',w'.ownsRow base e size D (n+m) (xs++news)->w.grownBy w' v.ownBlock->Et base w w'->(∀k,D.ownBlock=some k->v.ownBlock=some k\/w.heap.size<=k)->Ew P ops Q rest (a.put d D) w'):
  Ew P ops Q (⟨d,.call {callee:=.builtin .append,args:=#[s,x],argTypes:=#[t,t]},tt,pp,T,none⟩ :: rest) a w:=by
 obtain⟨i,E,S,I,K⟩:=FO r.info;have G:∀w',w.grownBy w' v.ownBlock->Et base w w':=fun w' M=>(CT base w).grown M J (fun k f=>(y.lt k f).1)
 rcases aa with ⟨⟨p,hu⟩,hm,N⟩ | ⟨b,o,c,hu,af,ae,Z⟩
 ·subst hm N;cases p with
  | none=>refine wpList_append_own_none rfl s x t rfl base e i size r.ht E v n xs F y (hx.trans hu) ?_;have:=h v w (by simpa using y) (World.grownBy.refl w _) (CT _ _) (fun k f=>.inl f);exact this
  | some ad=>
   have R:=y;rcases y.2 with ⟨C,N⟩ | ⟨g,cap,cur,C,M,X,V,Y,W,ab⟩
   ·refine wpList_append_own w rfl s x t rfl base e i z size bytes r.ht E S I K r.hz r.pos v n xs F y ad 0 0 [] (hx.trans hu) H (fun j u B=>by simp at B) h1 hlen L J ?_;intro D w' h2 l A;refine h D w' h2 l (G w' l) fun k f=> ?_
    rw[A.2 ⟨C,rfl⟩]at f;cases f
   ·subst C;refine wpList_append_fits_any w rfl s x t rfl base e i size r.ht E I g n cap xs F R (some ad) 0 0 [] (hx.trans hu) H (fun q=>by cases q) (fun _ _ j u B=>by simp at B) h1 (by omega) ?_;intro w' h2 l;exact h _ w' h2 l (G w' l) fun k f=>.inl f
 ·have O:∀j u,news[j]? =some u->w.cell? ((⟨b,o,none⟩:Addr).add j)=some u:=fun j u B=>by rw[EH];exact Z j u B
  by_cases hm:0 < m
  ·refine wpList_append_lies w rfl s x t rfl base e i z size bytes r.ht E S I K r.hz r.pos v n xs F y ⟨b,o,none⟩ m c news (hx.trans hu) H O h1 hm hlen L J w.heap.size rfl ?_;intro g cap w' h2 l A _;refine h _ w' h2 l (G w' l) fun k f=> ?_
   simp only[Value.ownBlock,Option.some.injEq]at f;subst f;rcases A with A | A
   ·exact .inl A
   ·exact .inr (by omega)
  ·obtain rfl:m=0:=by omega
   have R:=y;rcases y.2 with ⟨C,N⟩ | ⟨g,cap,cur,C,M,X,V,Y,W,ab⟩
   ·refine wpList_append_own w rfl s x t rfl base e i z size bytes r.ht E S I K r.hz r.pos v n xs F y ⟨b,o,none⟩ 0 c news (hx.trans hu) H O h1 hlen L J ?_;intro D w' h2 l A;refine h D w' h2 l (G w' l) fun k f=> ?_
    rw[A.2 ⟨C,rfl⟩]at f;cases f
   ·subst C;refine wpList_append_fits_any w rfl s x t rfl base e i size r.ht E I g n cap xs F R (some ⟨b,o,none⟩) 0 c news (hx.trans hu) H (fun q=>by cases q) (fun ad U j u B=>by cases U;exact O j u B) h1 (by omega) ?_;intro w' h2 l;exact h _ w' h2 l (G w' l) fun k f=>.inl f
theorem cX (w:CP) (e:Dn) (cs:Array CQ) (base n size:Nat) (a:base<=w.heap.size) (hm:n<=Dc) (b:cs.size=n*size):
  (w.alloc (.cells cs e)).ownsRow base e size (.slice (some ⟨w.heap.size,0,none⟩) n n) n cs.toList:=World.ownsRow_lit w cs n a hm b
theorem pD {w w':CP} {v:CQ} {xs:List CQ} (h:w.ownsRow base e size v n xs) (c:Et B w w') (b:∀k,v.ownBlock=some k->k < B):w'.ownsRow base e size v n xs:=by
 obtain⟨h1,h2⟩:=h;refine⟨h1,?_⟩;rcases h2 with h2 | ⟨g,cap,cur,a,d,f,r⟩
 ·exact .inl h2
 ·exact .inr ⟨g,cap,cur,a,d,by rw[c.block g (b g (by rw[a];rfl))];exact f,r⟩
theorem eV {w:CP} {v:CQ} {xs:List CQ} (h:w.ownsRow base e size v n xs) (b:v.ownBlock≠some g) (i:Nat) (u:CQ):(w.setCell ⟨g,i,none⟩ u).ownsRow base e size v n xs:=by
 obtain⟨h1,h2⟩:=h;refine⟨h1,?_⟩;rcases h2 with h2 | ⟨k,cap,cur,a,d,c,r⟩
 ·exact .inl h2
 ·exact .inr ⟨k,cap,cur,a,d,by rw[EC _ _ _ _ (fun q=>b (by rw[a];exact congrArg some q))];exact c,r⟩
theorem aN {w w':CP} {v:CQ} {xs:List CQ} (h:w.ownsRow base e size v n xs) (a:au w w'):w'.ownsRow base e size v n xs:=pD h a (fun k b=>(h.lt k b).2)
theorem dX {w:CP} {a:Nat} {v:CQ} {xs:List CQ} (h:w.ownsRow base e size v n xs) (c:a<=base):w.ownsRow a e size v n xs:=by
 obtain⟨h1,h2⟩:=h;refine⟨h1,?_⟩;rcases h2 with h2 | ⟨g,cap,cur,b,d,r⟩
 ·exact .inl h2
 ·exact .inr ⟨g,cap,cur,b,by omega,r⟩
def dz (w:CP) (g:Nat) (k:El) (n:Nat) (f:Nat->Int):Prop:=
 (∀i,i < n->w.cell? ⟨g,i,none⟩=some (.int k (f i)))/\∀i,w.frozen? ⟨g,i,none⟩=false
theorem dz.set {w:CP} {k:El} {f:Nat->Int} (h:dz w g k n f) (i:Nat) (b:i < n) (v:Int):
  dz (w.setCell ⟨g,i,none⟩ (.int k v)) g k n (fun j=>if j=i then v else f j):=by
 refine⟨fun j a=> ?_,fun j=>by rw[Fi];exact h.2 j⟩;by_cases e:j=i
 ·subst e;simp only[if_true];exact World.cell?_setCell_same _ _ _ (h.1 j a)
 ·simp only[if_neg e];rw[Dv _ _ _ _ (by intro q;injection q with _ q;omega)];exact h.1 j a
theorem dz.congr {w:CP} {k:El} {f f':Nat->Int} (h:dz w g k n f) (e:∀i,i < n->f i=f' i):dz w g k n f':=
 ⟨fun i a=>by rw[<-e i a];exact h.1 i a,h.2⟩
theorem dz.below {w w':CP} {k:El} {f:Nat->Int} (h:dz w g k n f) (a:Et B w w') (b:g < B):dz w' g k n f:=
 ⟨fun i c=>by rw[(ay a).1 g i b];exact h.1 i c,fun i=>by rw[(ay a).2 g i b];exact h.2 i⟩
theorem dz.drew {w:CP} {k:El} {f:Nat->Int} (h:dz w g k n f) (j:Nat):dz (w.drewN j) g k n f:=by
 induction j generalizing w with
 | zero=>exact h
 | succ j ih=>exact ih (w:=w.drew) h
theorem dz.other {w:CP} {k:El} {f:Nat->Int} (h:dz w g k n f) (p:Addr) (v:CQ) (hp:p.block≠g):dz (w.setCell p v) g k n f:=
 ⟨fun i a=>by rw[Dv _ _ _ _ (by intro q;rw[q]at hp;exact hp rfl)];exact h.1 i a,fun i=>by rw[Fi];exact h.2 i⟩
theorem dz.BI {w:CP} {k:El} {f:Nat->Int} (h:dz w g k 8 f) (a b c d e j l m:Int):
  dz ((((((((w.setCell ⟨g,0,none⟩ (.int k a)).setCell ⟨g,1,none⟩ (.int k b)).setCell ⟨g,2,none⟩ (.int k c)).setCell ⟨g,3,none⟩ (.int k d)).setCell ⟨g,4,none⟩ (.int k e)).setCell ⟨g,5,none⟩ (.int k j)).setCell ⟨g,6,none⟩ (.int k l)).setCell ⟨g,7,none⟩ (.int k m)) g k 8 (fun i=>([a,b,c,d,e,j,l,m]:List Int).getD i 0):=by
 refine((((((((h.set 0 (by decide) a).set 1 (by decide) b).set 2 (by decide) c).set 3 (by decide) d).set 4 (by decide) e).set 5 (by decide) j).set 6 (by decide) l).set 7 (by decide) m).congr fun i n=> ?_
 match i,n with
 | 0,_=>rfl
 | 1,_=>rfl
 | 2,_=>rfl
 | 3,_=>rfl
 | 4,_=>rfl
 | 5,_=>rfl
 | 6,_=>rfl
 | 7,_=>rfl
theorem dz.Cc {w:CP} {k:El} {f:Nat->Int} (h:dz w g k n f) (b:Nat) (a:b≠g) (c d e i j l m o:CQ):
  dz ((((((((w.setCell ⟨b,0,none⟩ c).setCell ⟨b,1,none⟩ d).setCell ⟨b,2,none⟩ e).setCell ⟨b,3,none⟩ i).setCell ⟨b,4,none⟩ j).setCell ⟨b,5,none⟩ l).setCell ⟨b,6,none⟩ m).setCell ⟨b,7,none⟩ o) g k n f:=
 (((((((h.other _ _ a).other _ _ a).other _ _ a).other _ _ a).other _ _ a).other _ _ a).other _ _ a).other _ _ a
theorem lf {a w:CP} (h:Et B a w) (b:Nat) (c:B<=b) (d e f g i j k l:CQ):
  Et B a ((((((((w.setCell ⟨b,0,none⟩ d).setCell ⟨b,1,none⟩ e).setCell ⟨b,2,none⟩ f).setCell ⟨b,3,none⟩ g).setCell ⟨b,4,none⟩ i).setCell ⟨b,5,none⟩ j).setCell ⟨b,6,none⟩ k).setCell ⟨b,7,none⟩ l):=
 (((((((h.setCell c _).setCell c _).setCell c _).setCell c _).setCell c _).setCell c _).setCell c _).setCell c _
theorem dz.grown {w w':CP} {k:El} {f:Nat->Int} {row:Option Nat} (h:dz w g k n f) (a:w.grownBy w' row) (b:g < w.heap.size) (c:some g≠row):dz w' g k n f:=
 ⟨fun i d=>(a.cell_far ⟨g,i,none⟩ b c).trans (h.1 i d),fun i=>(a.frozen_far ⟨g,i,none⟩ b c).trans (h.2 i)⟩
theorem dz.range {w:CP} {k:El} {f:Nat->Int} (h:dz w g k n f):w.rangeAt g 0 (aj k ((DD n).map f)):=fun j v b=>by
 have a:j < n:=by have:=(Dt.1 b).1;simpa using this
 rw[cJ _ _ _ (by simpa using a)]at b;cases b;rw[Dq,h.1 j a];simp[CR,a]
theorem dz.alloc {w:CP} {k:El} {f:Nat->Int} (h:dz w g k n f) (a:g < w.heap.size) (o:Obj):dz (w.alloc o) g k n f:=
 h.below ((CT w.heap.size w).alloc (CU _) o) a
def bI (l:List Int):Prop:=∀x∈l,0<=x/\x<=255
theorem bI.get (h:bI l) (i:Nat):0<=l.getD i 0/\l.getD i 0<=255:=by
 rw[CR];by_cases a:i < l.length
 ·rw[CV a];exact h _ (DW a)
 ·rw[List.getElem?_eq_none (by omega)];simp
theorem bI.append {b:List Int} (h:bI a) (k:bI b):bI (a++b):=fun x hx=>by
 rcases Dz.1 hx with hx | hx
 ·exact h x hx
 ·exact k x hx
theorem bI.take (h:bI a) (n:Nat):bI (a.take n):=fun x hx=>h x (En hx)
theorem bI.drop (h:bI a) (n:Nat):bI (a.drop n):=fun x hx=>h x (Fq hx)
theorem bI.nil:bI []:=fun x hx=>by cases hx
section
variable {P:Ds} {ops:Array Oper} {rest:List Oper} {a:Act} {w w':CP} {Q:Exit->Act->CP->Prop} {d:Option Tmp} {tt ty:Dn} {pp:String} {af:Array Edge} {x y:EJ} {p v:CQ}
theorem ao (hx:a.eval x=p) (c:(EX ty p).run P w=.ok v w) (h:Ew P ops Q rest (a.put d v) w):
  Ew P ops Q (⟨d,.load ty x,tt,pp,af,none⟩ :: rest) a w:=
 Gh rfl fun K b=>by
  unfold Oper.wp EF;simp only[hx,Ey,EI,DR,c];exact b _ _ h
theorem bG (hx:a.eval x=p) (hy:a.eval y=v) (c:(Fo ty p v).run P w=.ok () w') (h:Ew P ops Q rest (a.put d DT) w'):
  Ew P ops Q (⟨d,.store ty x y,tt,pp,af,none⟩ :: rest) a w:=
 Gh rfl fun K b=>by
  unfold Oper.wp EF;simp only[hx,hy,Ey,EI,DR,c];exact b _ _ h
theorem jY (hx:a.eval x=p) (hy:a.eval y=v) {r:CQ} (c:(Instr.index ty p v).run P w=.ok r w) (h:Ew P ops Q rest (a.put d r) w):
  Ew P ops Q (⟨d,.index ty x y,tt,pp,af,none⟩ :: rest) a w:=
 Gh rfl fun K b=>by
  unfold Oper.wp EF;simp only[hx,hy,Ey,EI,DR,c];exact b _ _ h
end
theorem aZ {P:Ds} {w:CP} {ty e:Dn} {k:El} (a:w.rangeAt b o (aj k l)) (hu:P.underlying ty=some (.array n e)) (c:(P.info? ty).map (·.size)=some n) (d:l.length=n):
  (EX ty (.pointer (some ⟨b,o,none⟩))).run P w=.ok (.agg (aj k l).toArray) w:=
 run_loadAt_mid w b o ty (aj k l) _ a hu rfl (by rw[c,ints_length,d])
theorem bo {P:Ds} {w:CP} {ty:Dn} {k:El} (d:w.there b o n) (c:(P.info? ty).map (·.size)=some n) (a:l.length=n):
  (Fo ty (.pointer (some ⟨b,o,none⟩)) (.agg (aj k l).toArray)).run P w=.ok () (w.setCells b o (aj k l)):=by
 have h:=run_storeAt_mid (P:=P) w b o ty (aj k l).toArray (by simpa[a] using d) (by rw[c];simp[a]) (all_oneCell_toArray (aE _ _));simpa using h
theorem dz.there {w:CP} {k:El} {f:Nat->Int} (h:dz w g k n f):w.there g 0 n:=fun j a=>by
 rw[Dq,h.1 j a];exact⟨rfl,h.2 j⟩
theorem aA {a:CP}:∀(vs:List CQ) (b o:Nat) (w:CP),Et B a w->B<=b->Et B a (w.setCells b o vs)
 | [],_,_,_,h,_=>h
 | v :: r,b,o,w,h,hb=>by rw[World.setCells];exact aA r b (o+1) _ (h.setCell (p:=⟨b,o,none⟩) hb _) hb
theorem iZ {P:Ds} {w:CP} {ty e:Dn} {k:El} (hu:P.underlying ty=some (.array n e)) (c:∀w,(sizeOf e).run P w=.ok 1 w) (a:∀w,(isAgg e).run P w=.ok false w) (f:l.length=n) (d:i < n):
  (Instr.index ty (.agg (aj k l).toArray) (.int .i64 i)).run P w=.ok (.int k (l.getD i 0)) w:=by
 have b:=cJ k l i (by omega);have h1:(0:Int)<=(i:Int)/\(i:Int) < (n:Int):=by omega
 simp only[Instr.index,asIntOf,Ey,EI,DR,Fa hu,if_pos h1,c,part,a,E3,if_false,EZ,Dy,List.getElem?_toArray,b]
theorem aB {P:Ds} {fn:Func} {p:Tmp} {ty:Dn} {tmps:Array CQ} {w:CP} {b:Addr} {v:CQ} (h:fn.results=#[.cell p ty]) (hp:tmps.getD p DT=.pointer (some b)) (a:(loadVar ty b).run P w=.ok v w):
  (results fn tmps).run P w=.ok v w:=by
 have c:tmps[p]?.getD DT=.pointer (some b):=by simpa using hp
 simp[results,h,c,asAddr,a]
def mK (g:Nat) (w w':CP):Prop:=∀k,k≠g->w'.heap[k]? =w.heap[k]?
theorem mK.refl (g:Nat) (w:CP):mK g w w:=fun _ _=>rfl
theorem mK.set {a w:CP} (h:mK g a w) (i:Nat) (u:CQ):mK g a (w.setCell ⟨g,i,none⟩ u):=fun k b=>(EC _ _ _ _ b).trans (h k b)
theorem mK.BI {a w:CP} (h:mK g a w) (b c d e f i j k:CQ):
  mK g a ((((((((w.setCell ⟨g,0,none⟩ b).setCell ⟨g,1,none⟩ c).setCell ⟨g,2,none⟩ d).setCell ⟨g,3,none⟩ e).setCell ⟨g,4,none⟩ f).setCell ⟨g,5,none⟩ i).setCell ⟨g,6,none⟩ j).setCell ⟨g,7,none⟩ k):=
 (((((((h.set 0 _).set 1 _).set 2 _).set 3 _).set 4 _).set 5 _).set 6 _).set 7 _
theorem mK.range {w w':CP} (h:mK g w w') {cs:List CQ} (c:w.rangeAt b o cs) (a:b≠g):w'.rangeAt b o cs:=fun j v d=>by
 rw[World.cell?_of_block (w:=w) (h b a)];exact c j v d
theorem dz.BY {w:CP} {k:El} {f:Nat->Int} (h:dz w g k n f) (i:Nat) (b:n<=i) (u:CQ):dz (w.setCell ⟨g,i,none⟩ u) g k n f:=
 ⟨fun j a=>by rw[Dv _ _ _ _ (by intro q;injection q with _ q;omega)];exact h.1 j a,fun j=>by rw[Fi];exact h.2 j⟩
theorem fU {w:CP} {v:CQ} (h:w.cell? ⟨g,j,none⟩=some v) (l:8<=j) (a b c d e f i k:CQ):
  ((((((((w.setCell ⟨g,0,none⟩ a).setCell ⟨g,1,none⟩ b).setCell ⟨g,2,none⟩ c).setCell ⟨g,3,none⟩ d).setCell ⟨g,4,none⟩ e).setCell ⟨g,5,none⟩ f).setCell ⟨g,6,none⟩ i).setCell ⟨g,7,none⟩ k).cell? ⟨g,j,none⟩=some v:=by
 rw[Dv _ _ _ _ (by intro q;injection q with _ q;omega),Dv _ _ _ _ (by intro q;injection q with _ q;omega),Dv _ _ _ _ (by intro q;injection q with _ q;omega),Dv _ _ _ _ (by intro q;injection q with _ q;omega),Dv _ _ _ _ (by intro q;injection q with _ q;omega),Dv _ _ _ _ (by intro q;injection q with _ q;omega),Dv _ _ _ _ (by intro q;injection q with _ q;omega),Dv _ _ _ _ (by intro q;injection q with _ q;omega)];exact h
theorem eN {w:CP} {u v:CQ} (h:w.cell? ⟨g,j,none⟩=some v) (a:i≠j):(w.setCell ⟨g,i,none⟩ u).cell? ⟨g,j,none⟩=some v:=by
 rw[Dv _ _ _ _ (by intro q;injection q with _ q;omega)];exact h
theorem ae (w:CP) (o:Obj):au w (w.alloc o):=(CT _ _).alloc (CU _) o
theorem dY (w:CP) (o:Obj) (h:B<=w.heap.size):Et B w (w.alloc o):=(CT _ _).alloc h o
theorem mM (w:CP) (e:Dn) (k:El) (l:List Int) (hm:l.length<=Dc):
  aX (w.alloc (.cells (aj k l).toArray e)) (.slice (some ⟨w.heap.size,0,none⟩) l.length l.length) l.length (aj k l):=by
 refine .inr ⟨w.heap.size,0,l.length,rfl,CU _,hm,fun j v a=> ?_⟩;rw[Dq,Df];simpa using a
def zl:CQ->Nat
 | .slice _ n _=>n
 | _=>0
def kx (p:Prop):Prop:=p
theorem ax {p:Prop} (h:p):kx p:=h
section
variable {P:Ds} {ops:Array Oper} {rest:List Oper} {a:Act} {w w':CP} {Q:Exit->Act->CP->Prop} {d:Option Tmp} {tt ty:Dn} {pp:String} {af:Array Edge} {x y:EJ} {p v:CQ}
theorem aV (h:kx (Ew P ops Q (⟨d,.load ty x,tt,pp,af,none⟩ :: rest) a w)):Ew P ops Q (⟨d,.load ty x,tt,pp,af,none⟩ :: rest) a w:=h
theorem aC (h:kx (Ew P ops Q (⟨d,.store ty x y,tt,pp,af,none⟩ :: rest) a w)):Ew P ops Q (⟨d,.store ty x y,tt,pp,af,none⟩ :: rest) a w:=h
theorem av {args:Array EJ} {b:Array Dn} (h:kx (Ew P ops Q (⟨d,.call {callee:=.builtin .append,args:=args,argTypes:=b},tt,pp,af,none⟩ :: rest) a w)):Ew P ops Q (⟨d,.call {callee:=.builtin .append,args:=args,argTypes:=b},tt,pp,af,none⟩ :: rest) a w:=h
end
theorem bg {P:Ds} {ops:Array Oper} {rest:List Oper} {a:Act} {w:CP} {Q:Exit->Act->CP->Prop} {d:Option Tmp} {B t e:Dn} {pp:String} {b:Array Edge} {s x:EJ} {v u z:CQ} {xs news:List CQ}
  (i:kv P t e z size bytes) (r:w.ownsRow base e size v n xs) (y:aX w u m news) (A:a.eval s=v) (hx:a.eval x=u) (q:news.length=m*size) (h1:∀c∈news,c.oneCell'=true)
  (hlen:n+m<=Dc) (l:(n+m)*bytes<=140737488355328) (j:base<=w.heap.size)
  (h:∀p c w',w'.ownsRow base e size (.slice p (n+m) c) (n+m) (xs++news)->w.grownBy w' v.ownBlock->Et base w w'->(∀k,(Value.slice p (n+m) c).ownBlock=some k->v.ownBlock=some k\/w.heap.size<=k)->n+m<=c->c<=Dc->Ew P ops Q rest (a.put d (.slice p (n+m) c)) w'):
  Ew P ops Q (⟨d,.call {callee:=.builtin .append,args:=#[s,x],argTypes:=#[t,t]},B,pp,b,none⟩ :: rest) a w:=
 dV i r y q h1 hlen l j A hx fun C w' h1 h2 f g=>by
  obtain⟨p,c,rfl,o,hm⟩:=(aX.AS h1).form;exact h p c w' h1 h2 f g o hm
theorem gB (w:CP) (e:Dn) (B:Nat) (h:B<=w.heap.size) (size:Nat):(w.alloc (.cells #[] e)).ownsRow B e size (.slice (some ⟨w.heap.size,0,none⟩) 0 0) 0 []:=cX w e #[] B 0 size h (Nat.zero_le _) (by simp)
theorem eI (w:CP) (e:Dn) (k:El) (x:Int):aX (w.alloc (.cells #[.int k x] e)) (.slice (some ⟨w.heap.size,0,none⟩) 1 1) 1 (aj k [x]):=mM w e k [x] (show 1<=Dc from by decide)
def aK (a:Act):List Tmp->(Nat->CQ)->Act
 | [],_=>a
 | t :: r,u=> {tmps:=(aK a r u).tmps.setIfInBounds t (u t),defers:=a.defers}
theorem fk (a:Act) (b:List Tmp) (u:Nat->CQ):(aK a b u).defers=a.defers:=by
 cases b<;>rfl
theorem jv (a:Act) (b:List Tmp) (u:Nat->CQ):(aK a b u).tmps.size=a.tmps.size:=by
 induction b with
 | nil=>rfl
 | cons t r ih=>simp[aK,ih]
theorem cE (a:Act) (b:List Tmp) (u:Nat->CQ) (j:Nat):(aK a b u).tmps[j]? =if j∈b/\j < a.tmps.size then some (u j)else a.tmps[j]? :=by
 induction b with
 | nil=>simp[aK]
 | cons t r ih=>
  simp only[aK,Array.getElem?_setIfInBounds,jv,ih];by_cases e:t=j
  ·subst e;by_cases h:t < a.tmps.size
   ·simp[h]
   ·simp[h]
  ·have c:¬j=t:=fun q=>e q.symm
   simp[e,c]
theorem mN {a b:Act} (h:a.defers=b.defers) (k:∀j:Nat,a.tmps[j]? =b.tmps[j]?):a=b:=by
 cases a;cases b;simp only[Act.mk.injEq];exact⟨Array.ext_getElem? k,h⟩
theorem ik (a:Act) (b:List Tmp) (u:Nat->CQ) (t:Tmp) (v:CQ) (d:t∈b):
  (aK a b u).put (some t) v=aK a b (fun j=>if j=t then v else u j):=by
 refine mN (by simp[Act.put,fk]) fun j=> ?_
 simp only[Act.put,Array.getElem?_setIfInBounds,jv,cE];by_cases e:t=j
 ·subst e;by_cases h:t < a.tmps.size
  ·simp[h,d]
  ·simp[h]
 ·have c:¬j=t:=fun q=>e q.symm
  simp[e,c]
theorem jw (a:Act) (b:List Tmp):∃u,a=aK a b u:=by
 refine⟨fun j=>a.tmps.getD j DT,mN (by rw[fk]) fun j=> ?_⟩;rw[cE];split
 ·rename_i h;simp[h.2]
 ·rfl
def bO (l:List Oper):List Tmp:=l.filterMap (·.dst)
def ig (l:List Oper) (V:Nat->CQ->CP->Prop) (u:Nat->CQ) (w:CP) (j:Nat):Prop:=
 match (l[j]?).bind (·.dst)with
 | some d=>V j (u d) w
 | none=>True
def ez (l:List Oper) (V:Nat->CQ->CP->Prop) (u:Nat->CQ) (w:CP):List Edge->Prop
 | []=>True
 | e :: r=>ig l V u w e.on/\ez l V u w r
def pE (P:Ds) (Q:Exit->Act->CP->Prop) (l:List Oper) (hs:List Tmp) (a0:Act) (w0:CP) (V:Nat->CQ->CP->Prop) (i:Nat) (o:Oper):Prop:=
 ∀(u:Nat->CQ) (w:CP),au w0 w->ez l V u w o.after.toList->∀K:Act->CP->Prop,
  (∀a' w',(∃v,a'=(aK a0 hs u).put o.dst v/\au w w'/\(o.dst.isSome=true->V i v w'))->K a' w')->
  if C8 o (yielded l.toArray (aK a0 hs u).tmps)=true then o.wp P (aK a0 hs u) w K Q else K ((aK a0 hs u).put o.dst DT) w
def gC (P:Ds) (Q:Exit->Act->CP->Prop) (l:List Oper) (hs:List Tmp) (a0:Act) (w0:CP) (V:Nat->CQ->CP->Prop):List Oper->Nat->Prop
 | [],_=>True
 | o :: r,i=>pE P Q l hs a0 w0 V i o/\gC P Q l hs a0 w0 V r (i+1)
theorem gC.get {P:Ds} {Q:Exit->Act->CP->Prop} {l:List Oper} {a:List Tmp} {a0:Act} {b:CP} {V:Nat->CQ->CP->Prop}:
  ∀(r:List Oper) (i:Nat),gC P Q l a a0 b V r i->∀j o,r[j]? =some o->pE P Q l a a0 b V (i+j) o
 | [],_,_,j,o,h=>by simp at h
 | x :: r,i,h,0,o,hj=>by simp at hj;subst hj;exact h.1
 | x :: r,i,h,j+1,o,hj=>by
  have:=gC.get r (i+1) h.2 j o (by simpa using hj);rw[show i+(j+1)=i+1+j from by omega];exact this
def fV (m n:Nat):Array Bool:=((DD m).map (fun j=>decide (j < n))).toArray
def xq (l:List Oper):Bool:=l.zipIdx.all fun(o,i)=>o.after.toList.all fun e=> !Ez .any e||decide (e.on < i)
def jx:List (Option Tmp)->Bool
 | []=>true
 | none :: r=>jx r
 | some t :: r=> !r.contains (some t)&&jx r
def kN (l:List Oper) (n:Nat):Bool:=
 decide (n < l.length)&&Region.sinkB .any l.toArray n&&Region.chainB .any l.toArray n&&xq l&&jx ((l.take n).map (·.dst))&&l.all (fun o=>o.after.toList.all fun e=>Ez .any e)&&
  Region.seqB .any l.toArray (l.length - n) n (fV l.length n)
theorem mO (p q:Nat->Bool) (i:Nat) (hp:p i=false) (b:q i=true) (a:∀j,j≠i->q j=p j):∀n,i < n->(DD n).countP q=(DD n).countP p+1:=by
 intro n;induction n with
 | zero=>intro h;omega
 | succ n ih=>
  intro h;rw[F5,Fz,Fz];by_cases e:i=n
  ·subst e;have:∀m,m<=i->(DD m).countP q=(DD m).countP p:=by
    intro m;induction m with
    | zero=>intro _;rfl
    | succ m ihm=>intro hm;rw[F5,Fz,Fz,ihm (by omega)];simp[a m (by omega)]
   rw[this i (CU _)];simp[hp,b]
  ·rw[ih (by omega)];simp[a n (by omega)];omega
theorem kS (p:Nat->Bool):∀n,(DD n).countP p=n->∀j,j < n->p j=true:=by
 intro n;induction n with
 | zero=>intro _ j b;omega
 | succ n ih=>
  intro h j b;rw[F5,Fz]at h;have h1:(DD n).countP p<=n:=by simpa using List.countP_le_length (p:=p) (l:=DD n)
  have h2: [n].countP p<=1:=List.countP_le_length (p:=p) (l:=[n]);have a: [n].countP p=1:=by omega
  by_cases e:j=n
  ·subst e;by_cases hp:p j=true
   ·exact hp
   ·simp[hp]at a
  ·exact ih (by omega) j (by omega)
theorem pF (p:Nat->Bool):∀n,(DD n).countP p < n->∃j,j < n/\p j=false/\∀k,k < j->p k=true:=by
 intro n;induction n with
 | zero=>intro h;omega
 | succ n ih=>
  intro h;by_cases d:(DD n).countP p < n
  ·obtain⟨j,a,b,c⟩:=ih d;exact⟨j,by omega,b,c⟩
  ·have h1:(DD n).countP p<=n:=by simpa using List.countP_le_length (p:=p) (l:=DD n)
   have he:(DD n).countP p=n:=by omega
   refine⟨n,by omega,?_,kS p n he⟩;rw[F5,Fz,he]at h;by_cases hp:p n=true
   ·simp[hp]at h
   ·simpa using hp
theorem gD:∀(r:List (Option Tmp)),jx r=true->∀(i j:Nat) (t:Tmp),r[i]? =some (some t)->r[j]? =some (some t)->i=j
 | [],_,i,j,t,h,_=>by simp at h
 | x :: r,hd,i,j,t,h,k=>by
  have a:jx r=true:=by cases x<;>simp[jx]at hd<;>first | exact hd | exact hd.2
  cases i with
  | zero=>
   cases j with
   | zero=>rfl
   | succ j=>simp at h k;subst h;simp[jx]at hd;exact absurd (DZ k) hd.1
  | succ i=>
   cases j with
   | zero=>simp at h k;subst k;simp[jx]at hd;exact absurd (DZ h) hd.1
   | succ j=>simp at h k;rw[gD r a i j t h k]
theorem ez.of {l:List Oper} {V:Nat->CQ->CP->Prop} {u:Nat->CQ} {w:CP}:∀(es:List Edge),(∀e∈es,ig l V u w e.on)->ez l V u w es
 | [],_=>trivial
 | e :: r,h=>⟨h e (by simp),ez.of r (fun a he=>h a (by simp[he]))⟩
theorem ig.mono {l:List Oper} {V:Nat->CQ->CP->Prop} (hmono:∀i v w w',V i v w->au w w'->V i v w') {u:Nat->CQ} {w w':CP} (h:ig l V u w j) (hw:au w w'):ig l V u w' j:=by
 unfold ig at h⊢;cases hd:(l[j]?).bind (·.dst)with
 | none=>trivial
 | some d=>simp only[hd]at h⊢;exact hmono _ _ _ _ h hw
theorem ig.Cy {l:List Oper} {V:Nat->CQ->CP->Prop} {u:Nat->CQ} {w:CP} {d:Nat} {v:CQ} (h:ig l V u w j) (a:(l[j]?).bind (·.dst)≠some d):ig l V (fun k=>if k=d then v else u k) w j:=by
 unfold ig at h⊢;cases hd:(l[j]?).bind (·.dst)with
 | none=>trivial
 | some d'=>simp only[hd]at h⊢a;rw[if_neg (fun q=>a (by rw[q]))];exact h
section
variable {P:Ds} {Q:Exit->Act->CP->Prop} {l:List Oper} {n:Nat} {a0:Act} {w0:CP} {V:Nat->CQ->CP->Prop}
theorem rF (B:kN l n=true)
  (hmono:∀i v w w',V i v w->au w w'->V i v w')
  (hsteps:gC P Q l (bO (l.take n)) a0 w0 V (l.take n) 0)
  (hend:∀(u:Nat->CQ) (w:CP),au w0 w->(∀j,j < n->ig l V u w j)->Ew P l.toArray Q (l.drop n) (aK a0 (bO (l.take n)) u) w):
  ∀(f:Nat) (listed:Array Bool) (u:Nat->CQ) (w:CP),HeadInv .any l.toArray n listed->(DD n).countP (fun j=>listed.getD j false)+f=n->
   au w0 w->(∀j,j < n->listed.getD j false=true->ig l V u w j)->
   wpAny P .any l.toArray Q (f+(l.length - n)) listed (aK a0 (bO (l.take n)) u) w:=by
 simp only[kN,Du,decide_eq_true_eq]at B;obtain⟨⟨⟨⟨⟨⟨X,Z⟩,J⟩,C⟩,R⟩,I⟩,aa⟩:=B;intro f;induction f with
 | zero=>
  intro listed u w inv K g hy;rw[Dq];have k:=kS (fun j=>listed.getD j false) n (by omega);have T:listed=fV l.length n:=by
   have ab:listed.size=l.length:=by rw[inv.size];simp
   refine Array.ext (by rw[ab];simp[fV]) fun j h1 h2=> ?_
   simp only[fV,List.getElem_toArray,List.getElem_map,List.getElem_range];by_cases a:j < n
   ·have:=k j a;simp[h1]at this;simp[a,this]
   ·have:=inv.tail j (by omega) (by simp;omega);simp[h1]at this;simp[a,this]
  have hw:=hend u w g (fun j a=>hy j a (k j a));have:=wpAny_of_seq (P:=P) (md:=.any) (ops:=l.toArray) (Q':=Q) (l.drop n) n listed (aK a0 (bO (l.take n)) u) w (fun j=>by simp[Es])
   (by rw[C6,T];exact aa) hw
  rwa[C6]at this
 | succ f ih=>
  intro listed u w inv K g hy;rw[show f+1+(l.length - n)=(f+(l.length - n))+1 from by omega];obtain⟨i0,S,ad,W⟩:=pF (fun j=>listed.getD j false) n (by omega);have af:listed.size=l.length:=by rw[inv.size];simp
  have G:listed.getD i0 true=false:=getD_in (by omega) ad;have E:i0∈Region.ready .any l.toArray listed:=by
   refine mem_ready.2 ⟨G,l[i0]'(by omega),by simp,fun e he m=> ?_⟩
   have h1:=Dw.1 C (l[i0]'(by omega),i0) (by
    rw[D1];simp)
   have h2:=Dw.1 h1 e (by simpa using he);simp only[m,DO,Fx,decide_eq_true_eq]at h2;exact W e.on h2
  refine⟨fun h=>(by rw[h]at E;cases E),fun i x=> ?_⟩;have y:i < n:=by
   rcases Nat.lt_or_ge i n with h | h
   ·exact h
   ·exact absurd x (tail_waits Z J (by simpa using X) inv _ i0 rfl S G i h)
  obtain⟨ac,o,z,k⟩:=mem_ready.1 x;have A:(l.take n)[i]? =some o:=by rw[DL,if_pos y];simpa using z
  have p:l[i]? =some o:=by simpa using z
  have F:=hsteps.get _ 0 i o A;rw[Dq]at F;have O:ez l V u w o.after.toList:=ez.of _ fun e he=>by
   have m:Ez .any e=true:=by have h1:=Dw.1 I o (DZ p);exact Dw.1 h1 e he
   have hle:=k e (by simpa using he) m;have h1:=Dw.1 C (o,i) (by rw[D1];simpa using p);have h2:=Dw.1 h1 e he;simp only[m,DO,Fx,decide_eq_true_eq]at h2;exact hy e.on (by omega) hle
  have U:∀d,o.dst=some d->d∈bO (l.take n):=fun d c=>by refine FA.2 ⟨o,DZ A,c⟩
  have N:∀j d,j < n->(l[j]?).bind (·.dst)=some d->o.dst=some d->j=i:=fun j d a h1 h2=>by
   have L:((l.take n).map (·.dst))[i]? =some (some d):=by rw[DE,A];simp[h2]
   have M:((l.take n).map (·.dst))[j]? =some (some d):=by
    rw[DE,DL,if_pos a];cases b:l[j]? with
    | none=>rw[b]at h1;cases h1
    | some oj=>rw[b]at h1;simpa using h1
   exact gD _ R j i d M L
  have Y:∀t w',(∃v,t=(aK a0 (bO (l.take n)) u).put o.dst v/\au w w'/\(o.dst.isSome=true->V i v w'))->
    wpAny P .any l.toArray Q (f+(l.length - n)) (listed.setIfInBounds i true) t w':=by
   rintro t w' ⟨v,rfl,s,hv⟩;have D:(DD n).countP (fun j=>(listed.setIfInBounds i true).getD j false)+f=n:=by rw[mO (fun j=>listed.getD j false) (fun j=>(listed.setIfInBounds i true).getD j false) i (getD_both ac) (by simp[show i < listed.size by omega]) (fun j a=>FE false (Ne.symm a)) n y];omega
   have H:=inv.set x y;cases c:o.dst with
   | none=>
    simp only[Act.put];refine ih _ u w' H D (g.trans s) fun j a b=> ?_
    by_cases e:j=i
    ·subst e;simp only[ig,p,Ed,c]
    ·rw[FE false (Ne.symm e)]at b;exact(hy j a b).mono hmono s
   | some d=>
    rw[ik _ _ _ _ _ (U d c)];refine ih _ _ w' H D (g.trans s) fun j a b=> ?_
    by_cases e:j=i
    ·subst e;simp only[ig,p,Ed,c,if_true];exact hv (by rw[c];rfl)
    ·rw[FE false (Ne.symm e)]at b;exact((hy j a b).mono hmono s).Cy (fun q=>e (N j d a q c))
  have r:=F u w g O _ Y;unfold wpOp;simp only[z];split
  ·rename_i hw;rw[if_pos hw]at r;exact .inl r
  ·rename_i hw;rw[if_neg hw]at r;exact r
theorem kO {id:Nat} (n:Nat) (V:Nat->CQ->CP->Prop) (hm:P.follows .mixedOrders=true) (b:kN l n=true)
  (hmono:∀i v w w',V i v w->au w w'->V i v w')
  (hsteps:gC P Q l (bO (l.take n)) a0 w0 V (l.take n) 0)
  (hend:∀(u:Nat->CQ) (w:CP),au w0 w->(∀j,j < n->ig l V u w j)->Ew P l.toArray Q (l.drop n) (aK a0 (bO (l.take n)) u) w):
  (Code.region id l.toArray true).wp P Q a0 w0:=by
 refine wp_region_any hm ?_;obtain⟨u,hu⟩:=jw a0 (bO (l.take n));have f:n < l.length:=by simp only[kN,Du,decide_eq_true_eq]at b;exact b.1.1.1.1.1.1
 have e:HeadInv .any l.toArray n (EW l.toArray.size false):=
  ⟨by simp,fun j g _ a=>(by rw[D2]at a;cases a),fun t _ d=>getD_in (by simpa using d) (D2 _ _)⟩
 have:=rF b hmono hsteps hend n (EW l.toArray.size false) u {w0 with drawn:=w0.drawn+1} e (by
  have:(DD n).countP (fun j=>(EW l.toArray.size false).getD j false)=0:=by rw[List.countP_eq_zero];intro j _ c;rw[D2]at c;cases c
  omega) ((CT _ _).drew) (fun j _ a=>by rw[D2]at a;cases a)
 rw[<-hu]at this;rw[show n+(l.length - n)=l.length from by omega]at this;simpa using this
end
def bh (ev:Nat->CQ):EJ->CQ
 | .tmp t=>ev t
 | .const v=>v
 | .global g=>.pointer (some ⟨g,0,none⟩)
 | .func f=>.func (.func f) #[] #[]
def fO (l:List Oper) (ev:Nat->CQ) (j:Nat):Option Bool:=
 match (l[j]?).bind (·.dst)with
 | some d=>match ev d with | .bool b=>some b | _=>none
 | none=>none
def fW (P:Ds) (w:CP) (φ :CQ->CP->Prop):Result Next->Prop
 | .ok (.value v) w'=>au w w'/\ φ v w'
 | .ok .skip w'=>au w w'/\ φ DT w'
 | .ok (.enter f args) w'=>Calls P f args w' (fun e w''=>∃v,e=.returned v/\au w w''/\ φ v w'')
 | _=>False
def dw (P:Ds) (l:List Oper) (o:Oper) (ev:Nat->CQ) (w:CP) (φ :CQ->CP->Prop):Prop:=
 if C8 o (fO l ev)=true then fW P w φ ((EF (bh ev) o).run P w)else φ DT w
def ky (l:List Oper) (Vs:List (CQ->CP->Prop)) (ev:Nat->CQ) (w:CP):List Edge->Prop
 | []=>True
 | e :: r=>(match (l[e.on]?).bind (·.dst)with | some d=>Vs.getD e.on (fun _ _=>True) (ev d) w | none=>True)/\ky l Vs ev w r
def lg (P:Ds) (l:List Oper) (hs:List Tmp) (a0:Act) (w0:CP) (Vs:List (CQ->CP->Prop)) (i:Nat) (o:Oper):Prop:=
 ∀(ev:Nat->CQ) (w:CP),au w0 w->(∀t,t ∉ hs->ev t=a0.tmps.getD t DT)->ky l Vs ev w o.after.toList->dw P l o ev w (Vs.getD i (fun _ _=>True))
def fm (P:Ds) (l:List Oper) (hs:List Tmp) (a0:Act) (w0:CP) (Vs:List (CQ->CP->Prop)):List Oper->Nat->Prop
 | [],_=>True
 | o :: r,i=>lg P l hs a0 w0 Vs i o/\fm P l hs a0 w0 Vs r (i+1)
def iU:List (CQ->CP->Prop)->Prop
 | []=>True
 | V :: r=>(∀v w w',V v w->au w w'->V v w')/\iU r
theorem iU.get:∀(a:List (CQ->CP->Prop)),iU a->∀i v w w',a.getD i (fun _ _=>True) v w->au w w'->a.getD i (fun _ _=>True) v w'
 | [],_,_,_,_,_,_,_=>by simp
 | V :: r,h,0,v,w,w',hv,hw=>by simpa using h.1 v w w' (by simpa using hv) hw
 | V :: r,h,i+1,v,w,w',hv,hw=>by
  have:=iU.get r h.2 i v w w' (by simpa using hv) hw;simpa using this
def ar (m:CQ):CQ->CP->Prop:=fun v _=>v=m
theorem ah (m:CQ):∀v w w',ar m v w->au w w'->ar m v w':=fun _ _ _ h _=>h
def cR:CQ->CP->Prop:=fun _ _=>True
theorem rG:∀v w w',cR v w->au w w'->cR v w':=fun _ _ _ h _=>h
theorem jZ (a0:Act) (a:List Tmp) (u:Nat->CQ):(aK a0 a u).eval=bh (fun t=>(aK a0 a u).tmps.getD t DT):=by
 funext x;cases x<;>rfl
theorem ja (l:List Oper) (a:Act):yielded l.toArray a.tmps=fO l (fun t=>a.tmps.getD t DT):=by
 funext j;unfold yielded fO;simp only[List.getElem?_toArray];cases (l[j]?).bind (·.dst)with
 | none=>rfl
 | some d=>
  simp only[Ed,DN];cases h:a.tmps[d]? with
  | none=>simp[DT]
  | some v=>cases v<;>simp
theorem nM {P:Ds} {o:Oper} {a:Act} {w:CP} {K:Act->CP->Prop} {Q:Exit->Act->CP->Prop} {φ :CQ->CP->Prop} {b:Nat->CQ}
  (he:a.eval=bh b) (h:fW P w φ ((EF (bh b) o).run P w)) (c:∀v w',au w w'-> φ v w'->K (a.put o.dst v) w'):o.wp P a w K Q:=by
 unfold Oper.wp;rw[he];generalize (EF (bh b) o).run P w=r at*;cases r with
 | ok n w'=>
  cases n<;>simp only[fW]at h<;>simp only[Oper.upon]
  case value v=>exact c _ _ h.1 h.2
  case skip=>exact c _ _ h.1 h.2
  case enter f args=>exact h.mono fun e g ⟨v,d,h1,h2⟩=>by subst d;exact c _ _ h1 h2
 | halt x w'=>simp only[fW]at h
section
variable {P:Ds} {Q:Exit->Act->CP->Prop} {l:List Oper} {n:Nat} {a0:Act} {w0:CP} {Vs:List (CQ->CP->Prop)}
theorem lg.ok {b:List Tmp} {i:Nat} {o:Oper} (y:∀t∈b,t < a0.tmps.size) (s:∀j f d,l[j]? =some f->f.dst=some d->(∃e∈o.after.toList,e.on=j)->d∈b)
  (h:lg P l b a0 w0 Vs i o):pE P Q l b a0 w0 (fun i=>Vs.getD i (fun _ _=>True)) i o:=by
 intro u w p m K g;have n:∀d,d∈b->(aK a0 b u).tmps.getD d DT=u d:=fun d a=>by rw[DN,cE,if_pos ⟨a,y d a⟩];rfl
 have k:∀(es:List Edge),(∀e∈es,e∈o.after.toList)->ez l (fun i=>Vs.getD i (fun _ _=>True)) u w es->ky l Vs (fun t=>(aK a0 b u).tmps.getD t DT) w es:=by
  intro es;induction es with
  | nil=>intro _ _;trivial
  | cons e r ih=>
   intro hm a;refine⟨?_,ih (fun x hx=>hm x (by simp[hx])) a.2⟩;have h1:=a.1;unfold ig at h1;cases hl:(l[e.on]?)with
   | none=>simp
   | some f=>
    simp only[hl,Ed]at h1⊢;cases hdj:f.dst with
    | none=>simp
    | some d=>simp only[hdj]at h1⊢;rw[n d (s e.on f d hl hdj ⟨e,hm e (by simp),rfl⟩)];exact h1
 have c:=h (fun t=>(aK a0 b u).tmps.getD t DT) w p (fun t z=>by
  rw[DN,cE,if_neg (fun q=>z q.1),DN]) (k _ (fun _ h=>h) m)
 unfold dw at c;rw[ja];split
 ·rename_i hw;rw[if_pos hw]at c;exact nM (jZ a0 b u) c fun v w' h1 h2=>by
   cases a:o.dst with
   | none=>exact g _ _ ⟨v,by rw[a],h1,fun q=>by rw[a]at q;cases q⟩
   | some d=>exact g _ _ ⟨v,by rw[a],h1,fun _=>h2⟩
 ·rename_i hw;rw[if_neg hw]at c;exact g _ _ ⟨DT,rfl,CT _ _,fun _=>c⟩
theorem fm.ok {a:List Tmp} (b:∀t∈a,t < a0.tmps.size):∀(r:List Oper) (i:Nat),(∀(j:Nat) (o:Oper),r[j]? =some o->∀(k:Nat) (c:Oper) (d:Tmp),l[k]? =some c->c.dst=some d->(∃e∈o.after.toList,e.on=k)->d∈a)->
  fm P l a a0 w0 Vs r i->gC P Q l a a0 w0 (fun i=>Vs.getD i (fun _ _=>True)) r i
 | [],_,_,_=>trivial
 | o :: r,i,hin,h=>⟨lg.ok b (hin 0 o (by simp)) h.1,fm.ok b r (i+1) (fun j g f=>hin (j+1) g (by simpa using f)) h.2⟩
def tG (a:Act) (hs:List Tmp):Bool:=hs.all fun t=>decide (t < a.tmps.size)
def j0 (l:List Oper) (Vs:List (CQ->CP->Prop)) (u:Nat->CQ) (w:CP):Nat->Prop
 | 0=>True
 | j+1=>j0 l Vs u w j/\(match (l[j]?).bind (·.dst)with | some d=>Vs.getD j (fun _ _=>True) (u d) w | none=>True)
theorem j0.of {u:Nat->CQ} {w:CP}:∀n,(∀j,j < n->ig l (fun i=>Vs.getD i (fun _ _=>True)) u w j)->j0 l Vs u w n
 | 0,_=>trivial
 | j+1,h=>⟨j0.of j (fun k a=>h k (by omega)),h j (by omega)⟩
theorem aG {id:Nat} (n:Nat) (c:List Tmp) (b:List (CQ->CP->Prop)) (hm:P.follows .mixedOrders=true) (f:kN l n=true) (x:bO (l.take n)=c) (z:tG a0 c=true)
  (hmono:iU b)
  (hsteps:fm P l c a0 w0 b (l.take n) 0)
  (hend:∀(u:Nat->CQ) (w:CP),au w0 w->j0 l b u w n->Ew P l.toArray Q (l.drop n) (aK a0 c u) w):
  (Code.region id l.toArray true).wp P Q a0 w0:=by
 subst x;have r:∀(i:Nat) (o:Oper),(l.take n)[i]? =some o->∀e∈o.after.toList,e.on < i:=fun i o a e he=>by
  have g:=f;simp only[kN,Du,decide_eq_true_eq]at g;obtain⟨⟨⟨⟨⟨⟨F,c⟩,C⟩,q⟩,D⟩,s⟩,G⟩:=g;have h:i < n:=by have:=(Dt.1 a).1;simp at this;omega
  have j:l[i]? =some o:=by rw[DL,if_pos h]at a;exact a
  have h1:=Dw.1 q (o,i) (by rw[D1];simpa using j);have h2:=Dw.1 h1 e he;have m:=Dw.1 s o (DZ j);have p:=Dw.1 m e he;simp only[p,DO,Fx,decide_eq_true_eq]at h2;exact h2
 refine kO n (fun i=>b.getD i (fun _ _=>True)) hm f (iU.get b hmono) (fm.ok (fun t A=>by
   have:=Dw.1 z t A;simpa using this) _ 0 ?_ hsteps) (fun u w h1 h2=>hend u w h1 (j0.of n h2))
 rintro i o a k B d y v ⟨e,he,rfl⟩;have E:=r i o a e he;have h:i < n:=by have:=(Dt.1 a).1;simp at this;omega
 refine FA.2 ⟨B,DZ (i:=e.on) ?_,v⟩;rw[DL,if_pos (by omega)];exact y
end
@[go_sem] theorem evalE_tmp (ev:Nat->CQ) (t:Tmp):bh ev (.tmp t)=ev t:=rfl
@[go_sem] theorem evalE_const (ev:Nat->CQ) (v:CQ):bh ev (.const v)=v:=rfl
@[go_sem] theorem evalE_global (ev:Nat->CQ) (g:Nat):bh ev (.global g)=.pointer (some ⟨g,0,none⟩):=rfl
@[go_sem] theorem evalE_func (ev:Nat->CQ) (f:FuncId):bh ev (.func f)=.func (.func f) #[] #[]:=rfl
section
variable (P:Ds) (w w':CP) (φ :CQ->CP->Prop)
@[go_sem] theorem GoodR_value (v:CQ):fW P w φ (.ok (.value v) w')=(au w w'/\ φ v w'):=rfl
@[go_sem] theorem GoodR_skip:fW P w φ (.ok .skip w')=(au w w'/\ φ DT w'):=rfl
@[go_sem] theorem GoodR_enter (f:FuncId) (args:Array CQ):fW P w φ (.ok (.enter f args) w')=Calls P f args w' (fun e w''=>∃v,e=.returned v/\au w w''/\ φ v w''):=rfl
end
def bH (o:Option Tmp) (u:Nat->CQ) (v:CQ):Nat->CQ:=match o with | some t=>fun j=>if j=t then v else u j | none=>u
def bW (d:Nat->Bool) (i:Nat):Nat->Bool:=fun j=>if j=i then true else d j
def tH (l:List Oper):Nat->Nat->Nat->Bool
 | 0,_,_=>false
 | f+1,j,i=>match l[i]? with
  | some o=>o.after.toList.any fun e=>e.on==j||tH l f j e.on
  | none=>false
section
variable (R:CP->CP->Prop) (J:(Nat->Bool)->(Nat->CQ)->CP->Prop)
def yD (P:Ds) (Q:Exit->Act->CP->Prop) (l:List Oper) (hs:List Tmp) (a0:Act) (w0:CP) (V:Nat->CQ->CP->Prop) (i:Nat) (o:Oper):Prop:=
 ∀(d:Nat->Bool) (u:Nat->CQ) (w:CP),(∀t,t ∉ hs->u t=a0.tmps.getD t DT)->R w0 w->J d u w->(∀j,tH l l.length j i=true->d j=true)->(∀j,tH l l.length i j=true->d j=false)->d i=false->ez l V u w o.after.toList->∀K:Act->CP->Prop,
  (∀a' w',(∃v,a'=(aK a0 hs u).put o.dst v/\R w w'/\J (bW d i) (bH o.dst u v) w'/\(o.dst.isSome=true->V i v w'))->K a' w')->
  if C8 o (yielded l.toArray (aK a0 hs u).tmps)=true then o.wp P (aK a0 hs u) w K Q else K ((aK a0 hs u).put o.dst DT) w
def xH (P:Ds) (Q:Exit->Act->CP->Prop) (l:List Oper) (hs:List Tmp) (a0:Act) (w0:CP) (V:Nat->CQ->CP->Prop):List Oper->Nat->Prop
 | [],_=>True
 | o :: r,i=>yD R J P Q l hs a0 w0 V i o/\xH P Q l hs a0 w0 V r (i+1)
end
theorem ig.Cj {R:CP->CP->Prop} {l:List Oper} {V:Nat->CQ->CP->Prop} (hmono:∀i v w w',V i v w->R w w'->V i v w') {u:Nat->CQ} {w w':CP} (h:ig l V u w j) (hw:R w w'):ig l V u w' j:=by
 unfold ig at h⊢;cases hd:(l[j]?).bind (·.dst)with
 | none=>trivial
 | some d=>simp only[hd]at h⊢;exact hmono _ _ _ _ h hw
section
variable {R:CP->CP->Prop} {J:(Nat->Bool)->(Nat->CQ)->CP->Prop} {P:Ds} {Q:Exit->Act->CP->Prop} {l:List Oper} {n:Nat} {a0:Act} {w0:CP} {V:Nat->CQ->CP->Prop}
end
def eo (R:CP->CP->Prop) (P:Ds) (w:CP) (φ :CQ->CP->Prop):Result Next->Prop
 | .ok (.value v) w'=>R w w'/\ φ v w'
 | .ok .skip w'=>R w w'/\ φ DT w'
 | .ok (.enter f args) w'=>Calls P f args w' (fun e w''=>∃v,e=.returned v/\R w w''/\ φ v w'')
 | _=>False
theorem nN {R:CP->CP->Prop} {P:Ds} {o:Oper} {a:Act} {w:CP} {K:Act->CP->Prop} {Q:Exit->Act->CP->Prop} {φ :CQ->CP->Prop} {b:Nat->CQ}
  (he:a.eval=bh b) (h:eo R P w φ ((EF (bh b) o).run P w)) (c:∀v w',R w w'-> φ v w'->K (a.put o.dst v) w'):o.wp P a w K Q:=by
 unfold Oper.wp;rw[he];generalize (EF (bh b) o).run P w=r at*;cases r with
 | ok n w'=>
  cases n<;>simp only[eo]at h<;>simp only[Oper.upon]
  case value v=>exact c _ _ h.1 h.2
  case skip=>exact c _ _ h.1 h.2
  case enter f args=>exact h.mono fun e g ⟨v,d,h1,h2⟩=>by subst d;exact c _ _ h1 h2
 | halt x w'=>simp only[eo]at h
section
variable (R:CP->CP->Prop) (J:(Nat->Bool)->(Nat->CQ)->CP->Prop)
def xI (P:Ds) (l:List Oper) (hs:List Tmp) (a0:Act) (w0:CP) (Vs:List (CQ->CP->Prop)) (i:Nat) (o:Oper):Prop:=
 ∀(d:Nat->Bool) (ev:Nat->CQ) (w:CP),R w0 w->J d ev w->(∀j,tH l l.length j i=true->d j=true)->(∀j,tH l l.length i j=true->d j=false)->d i=false->(∀t,t ∉ hs->ev t=a0.tmps.getD t DT)->ky l Vs ev w o.after.toList->
  if C8 o (fO l ev)=true then eo R P w (fun v w'=>Vs.getD i (fun _ _=>True) v w'/\J (bW d i) (bH o.dst ev v) w') ((EF (bh ev) o).run P w)else(Vs.getD i (fun _ _=>True) DT w/\J (bW d i) (bH o.dst ev DT) w)
def vX (P:Ds) (l:List Oper) (hs:List Tmp) (a0:Act) (w0:CP) (Vs:List (CQ->CP->Prop)):List Oper->Nat->Prop
 | [],_=>True
 | o :: r,i=>xI R J P l hs a0 w0 Vs i o/\vX P l hs a0 w0 Vs r (i+1)
def kz:List (CQ->CP->Prop)->Prop
 | []=>True
 | V :: r=>(∀v w w',V v w->R w w'->V v w')/\kz r
end
theorem kz.get {R:CP->CP->Prop}:∀(a:List (CQ->CP->Prop)),kz R a->∀i v w w',a.getD i (fun _ _=>True) v w->R w w'->a.getD i (fun _ _=>True) v w'
 | [],_,_,_,_,_,_,_=>by simp
 | V :: r,h,0,v,w,w',hv,hw=>by simpa using h.1 v w w' (by simpa using hv) hw
 | V :: r,h,i+1,v,w,w',hv,hw=>by
  have:=kz.get r h.2 i v w w' (by simpa using hv) hw;simpa using this
theorem rH {R:CP->CP->Prop} (m:CQ):∀v w w',ar m v w->R w w'->ar m v w':=fun _ _ _ h _=>h
theorem pG {R:CP->CP->Prop}:∀v w w',cR v w->R w w'->cR v w':=fun _ _ _ h _=>h
section
variable {R:CP->CP->Prop} {J:(Nat->Bool)->(Nat->CQ)->CP->Prop} {P:Ds} {Q:Exit->Act->CP->Prop} {l:List Oper} {n:Nat} {a0:Act} {w0:CP} {Vs:List (CQ->CP->Prop)}
end
section
variable (R:CP->CP->Prop) (P:Ds) (w w':CP) (φ :CQ->CP->Prop)
@[go_sem] theorem GoodX_value (v:CQ):eo R P w φ (.ok (.value v) w')=(R w w'/\ φ v w'):=rfl
@[go_sem] theorem GoodX_skip:eo R P w φ (.ok .skip w')=(R w w'/\ φ DT w'):=rfl
@[go_sem] theorem GoodX_enter (f:FuncId) (args:Array CQ):eo R P w φ (.ok (.enter f args) w')=Calls P f args w' (fun e w''=>∃v,e=.returned v/\R w w''/\ φ v w''):=rfl
end
def j3 (l:List Oper):Nat->Nat->Nat->Bool
 | 0,_,_=>false
 | f+1,j,i=>match l[i]? with
  | some o=>o.after.toList.any fun e=>Ez .any e&&(e.on==j||j3 l f j e.on)
  | none=>false
theorem j4 {l:List Oper} (a:∀j c,l[j]? =some c->d j=true->∀e∈c.after.toList,Ez .any e=true->d e.on=true):∀(f j i:Nat),j3 l f j i=true->d i=true->d j=true
 | 0,_,_,h,_=>by simp[j3]at h
 | f+1,j,i,h,hi=>by
  unfold j3 at h;split at h
  ·rename_i o k;obtain⟨e,he,h1⟩:=List.any_eq_true.1 h;simp only[Du,Bool.or_eq_true,beq_iff_eq]at h1;obtain⟨g,h1⟩:=h1;have b:=a i o k hi e he g;rcases h1 with h1 | h1
   ·rw[<-h1];exact b
   ·exact j4 a f j e.on h1 b
  ·cases h
theorem pH {l:List Oper} (g:∀j c,l[j]? =some c->d j=true->∀e∈c.after.toList,Ez .any e=true->d e.on=true) (f j i:Nat) {o:Oper} (k:l[i]? =some o) (a:∀e∈o.after.toList,Ez .any e=true->d e.on=true) (h:j3 l f j i=true):d j=true:=by
 cases f with
 | zero=>simp[j3]at h
 | succ f=>
  unfold j3 at h;rw[k]at h;obtain⟨e,he,h1⟩:=List.any_eq_true.1 h;simp only[Du,Bool.or_eq_true,beq_iff_eq]at h1;obtain⟨b,h1⟩:=h1;rcases h1 with h1 | h1
  ·rw[<-h1];exact a e he b
  ·exact j4 g f j e.on h1 (a e he b)
def fG (l:List Oper) (V:Nat->CQ->CP->Prop) (u:Nat->CQ) (w:CP):List Edge->Prop
 | []=>True
 | e :: r=>(match e.ground with | .textOnly _=>True | .gcOnly _=>True | _=>ig l V u w e.on)/\fG l V u w r
theorem fG.of {l:List Oper} {V:Nat->CQ->CP->Prop} {u:Nat->CQ} {w:CP}:∀(es:List Edge),(∀e∈es,Ez .any e=true->ig l V u w e.on)->fG l V u w es
 | [],_=>trivial
 | e :: r,h=>⟨by
  have h1:=h e (by simp);unfold Ez at h1
  split<;>rename_i q<;>first | trivial | (refine h1 ?_;rw[q];done) | (refine h1 ?_;split<;>simp_all),fG.of r (fun a he=>h a (by simp[he]))⟩
def j5 (l:List Oper) (Vs:List (CQ->CP->Prop)) (ev:Nat->CQ) (w:CP):List Edge->Prop
 | []=>True
 | e :: r=>(match e.ground with | .textOnly _=>True | .gcOnly _=>True | _=>(match (l[e.on]?).bind (·.dst)with | some d=>Vs.getD e.on (fun _ _=>True) (ev d) w | none=>True))/\j5 l Vs ev w r
def rI (l:List Oper) (n:Nat):Bool:=
 decide (n<=l.length)&&(decide (n=l.length)||(decide (n < l.length)&&Region.sinkB .any l.toArray n&&Region.chainB .any l.toArray n))&&xq l&&jx ((l.take n).map (·.dst))&&Region.seqB .any l.toArray (l.length - n) n (fV l.length n)
section
variable (R:CP->CP->Prop) (J:(Nat->Bool)->(Nat->CQ)->CP->Prop)
def tI (P:Ds) (Q:Exit->Act->CP->Prop) (l:List Oper) (hs:List Tmp) (a0:Act) (w0:CP) (V:Nat->CQ->CP->Prop) (i:Nat) (o:Oper):Prop:=
 ∀(d:Nat->Bool) (u:Nat->CQ) (w:CP),(∀t,t ∉ hs->u t=a0.tmps.getD t DT)->R w0 w->J d u w->(∀j,j3 l l.length j i=true->d j=true)->(∀j,j3 l l.length i j=true->d j=false)->d i=false->fG l V u w o.after.toList->∀K:Act->CP->Prop,
  (∀a' w',(∃v,a'=(aK a0 hs u).put o.dst v/\R w w'/\J (bW d i) (bH o.dst u v) w'/\(o.dst.isSome=true->V i v w'))->K a' w')->
  if C8 o (yielded l.toArray (aK a0 hs u).tmps)=true then o.wp P (aK a0 hs u) w K Q else K ((aK a0 hs u).put o.dst DT) w
def jb (P:Ds) (Q:Exit->Act->CP->Prop) (l:List Oper) (hs:List Tmp) (a0:Act) (w0:CP) (V:Nat->CQ->CP->Prop):List Oper->Nat->Prop
 | [],_=>True
 | o :: r,i=>tI R J P Q l hs a0 w0 V i o/\jb P Q l hs a0 w0 V r (i+1)
end
theorem jb.get {R:CP->CP->Prop} {J:(Nat->Bool)->(Nat->CQ)->CP->Prop} {P:Ds} {Q:Exit->Act->CP->Prop} {l:List Oper} {a:List Tmp} {a0:Act} {b:CP} {V:Nat->CQ->CP->Prop}:
  ∀(r:List Oper) (i:Nat),jb R J P Q l a a0 b V r i->∀j o,r[j]? =some o->tI R J P Q l a a0 b V (i+j) o
 | [],_,_,j,o,h=>by simp at h
 | x :: r,i,h,0,o,hj=>by simp at hj;subst hj;exact h.1
 | x :: r,i,h,j+1,o,hj=>by
  have:=jb.get r (i+1) h.2 j o (by simpa using hj);rw[show i+(j+1)=i+1+j from by omega];exact this
section
variable {R:CP->CP->Prop} {J:(Nat->Bool)->(Nat->CQ)->CP->Prop} {P:Ds} {Q:Exit->Act->CP->Prop} {l:List Oper} {n:Nat} {a0:Act} {w0:CP} {V:Nat->CQ->CP->Prop}
theorem vY (K:∀a b c,R a b->R b c->R a c) (I:rI l n=true)
  (hmono:∀i v w w',V i v w->R w w'->V i v w')
  (hsteps:jb R J P Q l (bO (l.take n)) a0 w0 V (l.take n) 0)
  (hend:∀(u:Nat->CQ) (w:CP),R w0 w->J (fun j=>decide (j < n)) u w->(∀j,j < n->ig l V u w j)->Ew P l.toArray Q (l.drop n) (aK a0 (bO (l.take n)) u) w):
  ∀(f:Nat) (listed:Array Bool) (u:Nat->CQ) (w:CP),HeadInv .any l.toArray n listed->(DD n).countP (fun j=>listed.getD j false)+f=n->
   (∀t,t ∉ bO (l.take n)->u t=a0.tmps.getD t DT)->R w0 w->J (fun j=>listed.getD j false) u w->(∀j,j < n->listed.getD j false=true->ig l V u w j)->
   wpAny P .any l.toArray Q (f+(l.length - n)) listed (aK a0 (bO (l.take n)) u) w:=by
 simp only[rI,Du,Bool.or_eq_true,decide_eq_true_eq]at I;obtain⟨⟨⟨⟨hn,W⟩,L⟩,an⟩,aw⟩:=I;intro f;induction f with
 | zero=>
  intro listed u w inv ah hu x A hy;rw[Dq];have r:=kS (fun j=>listed.getD j false) n (by omega);have S:listed=fV l.length n:=by
   have ax:listed.size=l.length:=by rw[inv.size];simp
   refine Array.ext (by rw[ax];simp[fV]) fun j h1 h2=> ?_
   simp only[fV,List.getElem_toArray,List.getElem_map,List.getElem_range];by_cases g:j < n
   ·have:=r j g;simp[h1]at this;simp[g,this]
   ·have:=inv.tail j (by omega) (by simp;omega);simp[h1]at this;simp[g,this]
  have ad:(fun j=>listed.getD j false)=fun j=>decide (j < n):=by
   funext j;by_cases g:j < n
   ·rw[r j g];simp[g]
   ·have h2:decide (j < n)=false:=decide_eq_false g;rw[h2,S];by_cases O:j < l.length
    ·simp[fV,O,g]
    ·simp[fV,O]
  rw[ad]at A;have hw:=hend u w x A (fun j g=>hy j g (r j g));have:=wpAny_of_seq (P:=P) (md:=.any) (ops:=l.toArray) (Q':=Q) (l.drop n) n listed (aK a0 (bO (l.take n)) u) w (fun j=>by simp[Es])
   (by rw[C6,S];exact aw) hw
  rwa[C6]at this
 | succ f ih=>
  intro listed u w inv ah hu x A hy;rw[show f+1+(l.length - n)=(f+(l.length - n))+1 from by omega];obtain⟨i0,ao,ay,aq⟩:=pF (fun j=>listed.getD j false) n (by omega);have aB:listed.size=l.length:=by rw[inv.size];simp
  have aa:listed.getD i0 true=false:=getD_in (by omega) ay;have U:i0∈Region.ready .any l.toArray listed:=by
   refine mem_ready.2 ⟨aa,l[i0]'(by omega),by simp,fun e he p=> ?_⟩
   have h1:=Dw.1 L (l[i0]'(by omega),i0) (by
    rw[D1];simp)
   have h2:=Dw.1 h1 e (by simpa using he);simp only[p,DO,Fx,decide_eq_true_eq]at h2;exact aq e.on h2
  refine⟨fun h=>(by rw[h]at U;cases U),fun i B=> ?_⟩;have G:i < n:=by
   rcases Nat.lt_or_ge i n with h | h
   ·exact h
   ·rcases W with W | ⟨⟨ap,hs⟩,hc⟩
    ·obtain⟨_,o,y,_⟩:=mem_ready.1 B;have:=(Array.getElem?_eq_some_iff.1 y).1;simp at this;omega
    ·exact absurd B (tail_waits hs hc (by simpa using ap) inv _ i0 rfl ao aa i h)
  obtain⟨Z,o,y,r⟩:=mem_ready.1 B;have H:(l.take n)[i]? =some o:=by rw[DL,if_pos G];simpa using y
  have C:l[i]? =some o:=by simpa using y
  have X:=hsteps.get _ 0 i o H;rw[Dq]at X;have M:∀j z,l[j]? =some z->(fun j=>listed.getD j false) j=true->∀e∈z.after.toList,Ez .any e=true->(fun j=>listed.getD j false) e.on=true:=fun j z au k e he p=>inv.closed j z (by simpa using au) k e (by simpa using he) p
  have ae:∀e∈o.after.toList,Ez .any e=true->(fun j=>listed.getD j false) e.on=true:=fun e he p=>r e (by simpa using he) p
  have ab:listed.getD i false=false:=getD_both Z;have af:∀j,j3 l l.length j i=true->(fun j=>listed.getD j false) j=true:=fun j g=>pH M _ j i C ae g
  have am:∀j,j3 l l.length i j=true->(fun j=>listed.getD j false) j=false:=fun j g=>by
   rcases Bool.eq_false_or_eq_true (listed.getD j false)with k | k
   ·have:=j4 M _ i j g k;simp only[ab]at this;cases this
   ·exact k
  have al:fG l V u w o.after.toList:=fG.of _ fun e he p=>by have hle:=r e (by simpa using he) p;have h1:=Dw.1 L (o,i) (by rw[D1];simpa using C);have h2:=Dw.1 h1 e he;simp only[p,DO,Fx,decide_eq_true_eq]at h2;exact hy e.on (by omega) hle
  have T:∀d,o.dst=some d->d∈bO (l.take n):=fun d m=>by refine FA.2 ⟨o,DZ H,m⟩
  have ak:∀j d,j < n->(l[j]?).bind (·.dst)=some d->o.dst=some d->j=i:=fun j d g h1 h2=>by
   have ai:((l.take n).map (·.dst))[i]? =some (some d):=by rw[DE,H];simp[h2]
   have aj:((l.take n).map (·.dst))[j]? =some (some d):=by
    rw[DE,DL,if_pos g];cases k:l[j]? with
    | none=>rw[k]at h1;cases h1
    | some z=>rw[k]at h1;simpa using h1
   exact gD _ an j i d aj ai
  have az:(fun j=>(listed.setIfInBounds i true).getD j false)=bW (fun j=>listed.getD j false) i:=by
   funext j;unfold bW;by_cases e:j=i
   ·subst e;rw[if_pos rfl];simp[show j < listed.size by omega]
   ·rw[if_neg e];exact FE false (Ne.symm e)
  have ar:∀F w',(∃v,F=(aK a0 (bO (l.take n)) u).put o.dst v/\R w w'/\J (bW (fun j=>listed.getD j false) i) (bH o.dst u v) w'/\(o.dst.isSome=true->V i v w'))->
    wpAny P .any l.toArray Q (f+(l.length - n)) (listed.setIfInBounds i true) F w':=by
   rintro F w' ⟨v,rfl,E,s,hv⟩;have N:(DD n).countP (fun j=>(listed.setIfInBounds i true).getD j false)+f=n:=by rw[mO (fun j=>listed.getD j false) (fun j=>(listed.setIfInBounds i true).getD j false) i (getD_both Z) (by simp[show i < listed.size by omega]) (fun j g=>FE false (Ne.symm g)) n G];omega
   have ac:=inv.set B G;rw[<-az]at s;cases m:o.dst with
   | none=>
    simp only[Act.put];rw[m]at s;refine ih _ u w' ac N hu (K _ _ _ x E) s fun j g k=> ?_
    by_cases e:j=i
    ·subst e;simp only[ig,C,Ed,m]
    ·rw[FE false (Ne.symm e)]at k;exact(hy j g k).Cj hmono E
   | some d=>
    rw[ik _ _ _ _ _ (T d m)];rw[m]at s;refine ih _ _ w' ac N (fun t Y=> ?_) (K _ _ _ x E) s fun j g k=> ?_
    ·rw[if_neg (fun q=>Y (by rw[q];exact T d m))];exact hu t Y
    by_cases e:j=i
    ·subst e;simp only[ig,C,Ed,m,if_true];exact hv (by rw[m];rfl)
    ·rw[FE false (Ne.symm e)]at k;exact((hy j g k).Cj hmono E).Cy (fun q=>e (ak j d g q m))
  have D:=X _ u w hu x A af am ab al _ ar;unfold wpOp;simp only[y];split
  ·rename_i hw;rw[if_pos hw]at D;exact .inl D
  ·rename_i hw;rw[if_neg hw]at D;exact D
theorem mP {id:Nat} (n:Nat) (V:Nat->CQ->CP->Prop) (k:∀a b c,R a b->R b c->R a c) (hm:P.follows .mixedOrders=true) (e:rI l n=true)
  (hmono:∀i v w w',V i v w->R w w'->V i v w') (hR0:R w0 w0.drew) (hJ0:J (fun _=>false) (fun t=>a0.tmps.getD t DT) w0.drew)
  (hsteps:jb R J P Q l (bO (l.take n)) a0 w0 V (l.take n) 0)
  (hend:∀(u:Nat->CQ) (w:CP),R w0 w->J (fun j=>decide (j < n)) u w->(∀j,j < n->ig l V u w j)->Ew P l.toArray Q (l.drop n) (aK a0 (bO (l.take n)) u) w):
  (Code.region id l.toArray true).wp P Q a0 w0:=by
 refine wp_region_any hm ?_;have hu:a0=aK a0 (bO (l.take n)) (fun t=>a0.tmps.getD t DT):=by
  refine mN (by rw[fk]) fun j=> ?_
  rw[cE];split
  ·rename_i h;simp[h.2]
  ·rfl
 have p:n<=l.length:=by simp only[rI,Du,decide_eq_true_eq]at e;exact e.1.1.1.1
 have o:HeadInv .any l.toArray n (EW l.toArray.size false):=
  ⟨by simp,fun j q _ d=>(by rw[D2]at d;cases d),fun t _ m=>getD_in (by simpa using m) (D2 _ _)⟩
 have g:J (fun j=>(EW l.toArray.size false).getD j false) (fun t=>a0.tmps.getD t DT) {w0 with drawn:=w0.drawn+1}:=by
  have:(fun j=>(EW l.toArray.size false).getD j false)=fun _=>false:=by funext j;exact D2 _ _
  rw[this];exact hJ0
 have:=vY k e hmono hsteps hend n (EW l.toArray.size false) (fun t=>a0.tmps.getD t DT) {w0 with drawn:=w0.drawn+1} o (by
  have:(DD n).countP (fun j=>(EW l.toArray.size false).getD j false)=0:=by rw[List.countP_eq_zero];intro j _ f;rw[D2]at f;cases f
  omega) (fun _ _=>rfl) hR0 g (fun j _ d=>by rw[D2]at d;cases d)
 rw[<-hu]at this;rw[show n+(l.length - n)=l.length from by omega]at this;simpa using this
end
section
variable (R:CP->CP->Prop) (J:(Nat->Bool)->(Nat->CQ)->CP->Prop)
def mQ (P:Ds) (l:List Oper) (hs:List Tmp) (a0:Act) (w0:CP) (Vs:List (CQ->CP->Prop)) (i:Nat) (o:Oper):Prop:=
 ∀(d:Nat->Bool) (ev:Nat->CQ) (w:CP),R w0 w->J d ev w->(∀j,j3 l l.length j i=true->d j=true)->(∀j,j3 l l.length i j=true->d j=false)->d i=false->(∀t,t ∉ hs->ev t=a0.tmps.getD t DT)->j5 l Vs ev w o.after.toList->
  if C8 o (fO l ev)=true then eo R P w (fun v w'=>Vs.getD i (fun _ _=>True) v w'/\J (bW d i) (bH o.dst ev v) w') ((EF (bh ev) o).run P w)else(Vs.getD i (fun _ _=>True) DT w/\J (bW d i) (bH o.dst ev DT) w)
def iJ (P:Ds) (l:List Oper) (hs:List Tmp) (a0:Act) (w0:CP) (Vs:List (CQ->CP->Prop)):List Oper->Nat->Prop
 | [],_=>True
 | o :: r,i=>mQ R J P l hs a0 w0 Vs i o/\iJ P l hs a0 w0 Vs r (i+1)
end
section
variable {R:CP->CP->Prop} {J:(Nat->Bool)->(Nat->CQ)->CP->Prop} {P:Ds} {Q:Exit->Act->CP->Prop} {l:List Oper} {n:Nat} {a0:Act} {w0:CP} {Vs:List (CQ->CP->Prop)}
theorem mQ.ok (A:∀w,R w w) {a:List Tmp} {i:Nat} {o:Oper} (H:∀t∈a,t < a0.tmps.size) (F:∀j g d,l[j]? =some g->g.dst=some d->(∃e∈o.after.toList,Ez .any e=true/\e.on=j)->d∈a)
  (h:mQ R J P l a a0 w0 Vs i o):tI R J P Q l a a0 w0 (fun i=>Vs.getD i (fun _ _=>True)) i o:=by
 intro d u w hu E z B D G C K m;have p:∀d,d∈a->(aK a0 a u).tmps.getD d DT=u d:=fun d b=>by rw[DN,cE,if_pos ⟨b,H d b⟩];rfl
 have s:(fun t=>(aK a0 a u).tmps.getD t DT)=u:=by
  funext t;by_cases f:t∈a
  ·exact p t f
  ·rw[DN,cE,if_neg (fun q=>f q.1),hu t f,DN]
 have y:∀(es:List Edge),(∀e∈es,e∈o.after.toList)->fG l (fun i=>Vs.getD i (fun _ _=>True)) u w es->j5 l Vs (fun t=>(aK a0 a u).tmps.getD t DT) w es:=by
  intro es;induction es with
  | nil=>intro _ _;trivial
  | cons e r ih=>
   intro hm b;refine⟨?_,ih (fun x hx=>hm x (by simp[hx])) b.2⟩;have h1:=b.1;have key:Ez .any e=true->ig l (fun i=>Vs.getD i (fun _ _=>True)) u w e.on->(match (l[e.on]?).bind (·.dst)with | some d=>Vs.getD e.on (fun _ _=>True) ((aK a0 a u).tmps.getD d DT) w | none=>True):=fun k h1=>by
    unfold ig at h1;cases hl:(l[e.on]?)with
    | none=>simp
    | some g=>
     simp only[hl,Ed]at h1⊢;cases hdj:g.dst with
     | none=>simp
     | some d=>simp only[hdj]at h1⊢;rw[p d (F e.on g d hl hdj ⟨e,hm e (by simp),k,rfl⟩)];exact h1
   have k:Ez .any e=(match e.ground with | .textOnly _=>false | .gcOnly _=>false | _=>true):=by unfold Ez;cases e.ground<;>rfl
   generalize e.ground=gg at h1 k⊢;cases gg<;>first | trivial | exact key k h1
 have c:=h d (fun t=>(aK a0 a u).tmps.getD t DT) w E (by rw[s];exact z) B D G (fun t f=>by
  rw[DN,cE,if_neg (fun q=>f q.1),DN]) (y _ (fun _ h=>h) C)
 rw[ja];have n:∀v,bH o.dst (fun t=>(aK a0 a u).tmps.getD t DT) v=bH o.dst u v:=fun v=>by rw[s]
 split
 ·rename_i hw;rw[if_pos hw]at c;exact nN (jZ a0 a u) c fun v w' h1 h2=>by
   cases b:o.dst with
   | none=>exact m _ _ ⟨v,by rw[b],h1,by rw[<-n];exact h2.2,fun q=>by rw[b]at q;cases q⟩
   | some d=>exact m _ _ ⟨v,by rw[b],h1,by rw[<-n];exact h2.2,fun _=>h2.1⟩
 ·rename_i hw;rw[if_neg hw]at c;exact m _ _ ⟨DT,rfl,A _,by rw[<-n];exact c.2,fun _=>c.1⟩
theorem iJ.ok (b:∀w,R w w) {a:List Tmp} (c:∀t∈a,t < a0.tmps.size):∀(r:List Oper) (i:Nat),(∀(j:Nat) (o:Oper),r[j]? =some o->∀(k:Nat) (f:Oper) (d:Tmp),l[k]? =some f->f.dst=some d->(∃e∈o.after.toList,Ez .any e=true/\e.on=k)->d∈a)->
  iJ R J P l a a0 w0 Vs r i->jb R J P Q l a a0 w0 (fun i=>Vs.getD i (fun _ _=>True)) r i
 | [],_,_,_=>trivial
 | o :: r,i,hin,h=>⟨mQ.ok b c (hin 0 o (by simp)) h.1,iJ.ok b c r (i+1) (fun j m g=>hin (j+1) m (by simpa using g)) h.2⟩
theorem az {id:Nat} (R:CP->CP->Prop) (J:(Nat->Bool)->(Nat->CQ)->CP->Prop) (n:Nat) (h:List Tmp) (g:List (CQ->CP->Prop)) (v:∀w,R w w) (x:∀a b c,R a b->R b c->R a c) (hm:P.follows .mixedOrders=true) (p:rI l n=true) (B:bO (l.take n)=h) (E:tG a0 h=true)
  (hmono:kz R g) (hR0:R w0 w0.drew) (hJ0:J (fun _=>false) (fun t=>a0.tmps.getD t DT) w0.drew)
  (hsteps:iJ R J P l h a0 w0 g (l.take n) 0)
  (hend:∀(u:Nat->CQ) (w:CP),R w0 w->J (fun j=>decide (j < n)) u w->j0 l g u w n->Ew P l.toArray Q (l.drop n) (aK a0 h u) w):
  (Code.region id l.toArray true).wp P Q a0 w0:=by
 subst B;have z:∀(i:Nat) (o:Oper),(l.take n)[i]? =some o->∀e∈o.after.toList,Ez .any e=true->e.on < i:=fun i o f e he m=>by
  have q:=p;simp only[rI,Du,decide_eq_true_eq]at q;obtain⟨⟨⟨⟨K,L⟩,y⟩,H⟩,M⟩:=q;have r:i < n:=by have:=(Dt.1 f).1;simp at this;omega
  have D:l[i]? =some o:=by rw[DL,if_pos r]at f;exact f
  have h1:=Dw.1 y (o,i) (by rw[D1];simpa using D);have h2:=Dw.1 h1 e he;simp only[m,DO,Fx,decide_eq_true_eq]at h2;exact h2
 refine mP n (fun i=>g.getD i (fun _ _=>True)) x hm p (kz.get g hmono) hR0 hJ0 (iJ.ok v (fun t F=>by
   have:=Dw.1 E t F;simpa using this) _ 0 ?_ hsteps) (fun u w h1 s h2=>hend u w h1 s (j0.of n h2))
 rintro i o f k G d C A ⟨e,he,m,rfl⟩;have I:=z i o f e he m;have r:i < n:=by have:=(Dt.1 f).1;simp at this;omega
 refine FA.2 ⟨G,DZ (i:=e.on) ?_,A⟩;rw[DL,if_pos (by omega)];exact C
end
section
variable {lr nf:Nat}
theorem il {P:Ds} {md:Region.Mode} {ops:Array Oper} {Q':Exit->Act->CP->Prop}:∀(l:List Oper) (k:Nat) (listed:Array Bool) (a:Act) (w:CP),(∀j:Nat,l[j]? =ops[k+j]?)->
  Region.seqB md ops l.length k listed=true->wpListIn (Fence.wide.inRound lr) nf P ops Q' l a w->wpAnyIn (Fence.wide.inRound lr) nf P md ops Q' l.length listed a w
 | [],_,_,_,_,_,hB,h=>⟨by simpa[Region.seqB] using hB,h⟩
 | o :: l,k,listed,a,w,hl,hB,h=>by
  have h0:ops[k]? =some o:=by simpa using (hl 0).symm
  simp only[DB,Region.seqB,Du,decide_eq_true_eq]at hB;refine⟨fun h1=>(by rw[hB.1]at h1;cases h1),fun i b=> ?_⟩;rw[hB.1]at b;have e:i=k:=by simpa using b
  subst e;have hw:wpOpIn (Fence.wide.inRound lr) nf P ops Q' i (wpListIn (Fence.wide.inRound lr) nf P ops Q' l) a w:=by unfold wpOpIn;simp only[h0];exact h
  exact wpOpIn_mono (fun c w' d=>il l (i+1) _ c w' (fun j=>by have:=hl (j+1);simpa[Fm,Nat.add_comm 1 j] using this) hB.2 d) hw
def lh (lr nf:Nat) (P:Ds) (Q:Exit->Act->CP->Prop) (l:List Oper) (hs:List Tmp) (a0:Act) (w0:CP) (V:Nat->CQ->CP->Prop) (i:Nat) (o:Oper):Prop:=
 ∀(u:Nat->CQ) (w:CP),au w0 w->ez l V u w o.after.toList->∀K:Act->CP->Prop,
  (∀a' w',(∃v,a'=(aK a0 hs u).put o.dst v/\au w w'/\(o.dst.isSome=true->V i v w'))->K a' w')->
  if C8 o (yielded l.toArray (aK a0 hs u).tmps)=true then o.wpIn (Fence.wide.inRound lr) nf P (aK a0 hs u) w K Q else K ((aK a0 hs u).put o.dst DT) w
def eA (lr nf:Nat) (P:Ds) (Q:Exit->Act->CP->Prop) (l:List Oper) (hs:List Tmp) (a0:Act) (w0:CP) (V:Nat->CQ->CP->Prop):List Oper->Nat->Prop
 | [],_=>True
 | o :: r,i=>lh lr nf P Q l hs a0 w0 V i o/\eA lr nf P Q l hs a0 w0 V r (i+1)
theorem eA.get {P:Ds} {Q:Exit->Act->CP->Prop} {l:List Oper} {a:List Tmp} {a0:Act} {b:CP} {V:Nat->CQ->CP->Prop}:
  ∀(r:List Oper) (i:Nat),eA lr nf P Q l a a0 b V r i->∀j o,r[j]? =some o->lh lr nf P Q l a a0 b V (i+j) o
 | [],_,_,j,o,h=>by simp at h
 | x :: r,i,h,0,o,hj=>by simp at hj;subst hj;exact h.1
 | x :: r,i,h,j+1,o,hj=>by
  have:=eA.get r (i+1) h.2 j o (by simpa using hj);rw[show i+(j+1)=i+1+j from by omega];exact this
section
variable {P:Ds} {Q:Exit->Act->CP->Prop} {l:List Oper} {n:Nat} {a0:Act} {w0:CP} {V:Nat->CQ->CP->Prop}
theorem nO (B:kN l n=true)
  (hmono:∀i v w w',V i v w->au w w'->V i v w')
  (hsteps:eA lr nf P Q l (bO (l.take n)) a0 w0 V (l.take n) 0)
  (hend:∀(u:Nat->CQ) (w:CP),au w0 w->(∀j,j < n->ig l V u w j)->wpListIn (Fence.wide.inRound lr) nf P l.toArray Q (l.drop n) (aK a0 (bO (l.take n)) u) w):
  ∀(f:Nat) (listed:Array Bool) (u:Nat->CQ) (w:CP),HeadInv .any l.toArray n listed->(DD n).countP (fun j=>listed.getD j false)+f=n->
   au w0 w->(∀j,j < n->listed.getD j false=true->ig l V u w j)->
   wpAnyIn (Fence.wide.inRound lr) nf P .any l.toArray Q (f+(l.length - n)) listed (aK a0 (bO (l.take n)) u) w:=by
 simp only[kN,Du,decide_eq_true_eq]at B;obtain⟨⟨⟨⟨⟨⟨X,Z⟩,J⟩,C⟩,R⟩,I⟩,aa⟩:=B;intro f;induction f with
 | zero=>
  intro listed u w inv K g hy;rw[Dq];have k:=kS (fun j=>listed.getD j false) n (by omega);have T:listed=fV l.length n:=by
   have ab:listed.size=l.length:=by rw[inv.size];simp
   refine Array.ext (by rw[ab];simp[fV]) fun j h1 h2=> ?_
   simp only[fV,List.getElem_toArray,List.getElem_map,List.getElem_range];by_cases a:j < n
   ·have:=k j a;simp[h1]at this;simp[a,this]
   ·have:=inv.tail j (by omega) (by simp;omega);simp[h1]at this;simp[a,this]
  have hw:=hend u w g (fun j a=>hy j a (k j a));have:=il (lr:=lr) (nf:=nf) (P:=P) (md:=.any) (ops:=l.toArray) (Q':=Q) (l.drop n) n listed (aK a0 (bO (l.take n)) u) w (fun j=>by simp[Es])
   (by rw[C6,T];exact aa) hw
  rwa[C6]at this
 | succ f ih=>
  intro listed u w inv K g hy;rw[show f+1+(l.length - n)=(f+(l.length - n))+1 from by omega];obtain⟨i0,S,ad,W⟩:=pF (fun j=>listed.getD j false) n (by omega);have af:listed.size=l.length:=by rw[inv.size];simp
  have G:listed.getD i0 true=false:=getD_in (by omega) ad;have E:i0∈Region.ready .any l.toArray listed:=by
   refine mem_ready.2 ⟨G,l[i0]'(by omega),by simp,fun e he m=> ?_⟩
   have h1:=Dw.1 C (l[i0]'(by omega),i0) (by
    rw[D1];simp)
   have h2:=Dw.1 h1 e (by simpa using he);simp only[m,DO,Fx,decide_eq_true_eq]at h2;exact W e.on h2
  refine⟨fun h=>(by rw[h]at E;cases E),fun i x=> ?_⟩;have y:i < n:=by
   rcases Nat.lt_or_ge i n with h | h
   ·exact h
   ·exact absurd x (tail_waits Z J (by simpa using X) inv _ i0 rfl S G i h)
  obtain⟨ac,o,z,k⟩:=mem_ready.1 x;have A:(l.take n)[i]? =some o:=by rw[DL,if_pos y];simpa using z
  have p:l[i]? =some o:=by simpa using z
  have F:=hsteps.get _ 0 i o A;rw[Dq]at F;have O:ez l V u w o.after.toList:=ez.of _ fun e he=>by
   have m:Ez .any e=true:=by have h1:=Dw.1 I o (DZ p);exact Dw.1 h1 e he
   have hle:=k e (by simpa using he) m;have h1:=Dw.1 C (o,i) (by rw[D1];simpa using p);have h2:=Dw.1 h1 e he;simp only[m,DO,Fx,decide_eq_true_eq]at h2;exact hy e.on (by omega) hle
  have U:∀d,o.dst=some d->d∈bO (l.take n):=fun d c=>by refine FA.2 ⟨o,DZ A,c⟩
  have N:∀j d,j < n->(l[j]?).bind (·.dst)=some d->o.dst=some d->j=i:=fun j d a h1 h2=>by
   have L:((l.take n).map (·.dst))[i]? =some (some d):=by rw[DE,A];simp[h2]
   have M:((l.take n).map (·.dst))[j]? =some (some d):=by
    rw[DE,DL,if_pos a];cases b:l[j]? with
    | none=>rw[b]at h1;cases h1
    | some oj=>rw[b]at h1;simpa using h1
   exact gD _ R j i d M L
  have Y:∀t w',(∃v,t=(aK a0 (bO (l.take n)) u).put o.dst v/\au w w'/\(o.dst.isSome=true->V i v w'))->
    wpAnyIn (Fence.wide.inRound lr) nf P .any l.toArray Q (f+(l.length - n)) (listed.setIfInBounds i true) t w':=by
   rintro t w' ⟨v,rfl,s,hv⟩;have D:(DD n).countP (fun j=>(listed.setIfInBounds i true).getD j false)+f=n:=by rw[mO (fun j=>listed.getD j false) (fun j=>(listed.setIfInBounds i true).getD j false) i (getD_both ac) (by simp[show i < listed.size by omega]) (fun j a=>FE false (Ne.symm a)) n y];omega
   have H:=inv.set x y;cases c:o.dst with
   | none=>
    simp only[Act.put];refine ih _ u w' H D (g.trans s) fun j a b=> ?_
    by_cases e:j=i
    ·subst e;simp only[ig,p,Ed,c]
    ·rw[FE false (Ne.symm e)]at b;exact(hy j a b).mono hmono s
   | some d=>
    rw[ik _ _ _ _ _ (U d c)];refine ih _ _ w' H D (g.trans s) fun j a b=> ?_
    by_cases e:j=i
    ·subst e;simp only[ig,p,Ed,c,if_true];exact hv (by rw[c];rfl)
    ·rw[FE false (Ne.symm e)]at b;exact((hy j a b).mono hmono s).Cy (fun q=>e (N j d a q c))
  have r:=F u w g O _ Y;unfold wpOpIn;simp only[z];split
  ·rename_i hw;rw[if_pos hw]at r;exact r
  ·rename_i hw;rw[if_neg hw]at r;exact⟨fun _ _=>trivial,r⟩
theorem jy {id:Nat} (n:Nat) (V:Nat->CQ->CP->Prop) (hm:P.follows .mixedOrders=true) (b:kN l n=true)
  (hmono:∀i v w w',V i v w->au w w'->V i v w')
  (hsteps:eA lr nf P Q l (bO (l.take n)) a0 w0 V (l.take n) 0)
  (hend:∀(u:Nat->CQ) (w:CP),au w0 w->(∀j,j < n->ig l V u w j)->wpListIn (Fence.wide.inRound lr) nf P l.toArray Q (l.drop n) (aK a0 (bO (l.take n)) u) w):
  (Code.region id l.toArray true).wpIn (Fence.wide.inRound lr) nf P Q a0 w0:=by
 refine wpIn_region_any hm ?_;obtain⟨u,hu⟩:=jw a0 (bO (l.take n));have f:n < l.length:=by simp only[kN,Du,decide_eq_true_eq]at b;exact b.1.1.1.1.1.1
 have e:HeadInv .any l.toArray n (EW l.toArray.size false):=
  ⟨by simp,fun j g _ a=>(by rw[D2]at a;cases a),fun t _ d=>getD_in (by simpa using d) (D2 _ _)⟩
 have:=nO b hmono hsteps hend n (EW l.toArray.size false) u {w0 with drawn:=w0.drawn+1} e (by
  have:(DD n).countP (fun j=>(EW l.toArray.size false).getD j false)=0:=by rw[List.countP_eq_zero];intro j _ c;rw[D2]at c;cases c
  omega) ((CT _ _).drew) (fun j _ a=>by rw[D2]at a;cases a)
 rw[<-hu]at this;rw[show n+(l.length - n)=l.length from by omega]at this;simpa using this
end
def jz:Op->Bool
 | .defer _=>false
 | _=>true
theorem l9 {o:Op} (h:jz o=true):∀c,o≠ .defer c:=by
 intro c q;rw[q]at h;cases h
theorem ma {P:Ds} {o:Oper} {a:Act} {w:CP} {K:Act->CP->Prop} {Q:Exit->Act->CP->Prop} {φ :CQ->CP->Prop} {b:Nat->CQ}
  (g:∀c,o.op≠ .defer c) (he:a.eval=bh b) (h:fW P w φ ((EF (bh b) o).run P w)) (d:∀v w',au w w'-> φ v w'->K (a.put o.dst v) w'):o.wpIn (Fence.wide.inRound lr) nf P a w K Q:=by
 refine⟨fun f _=>trivial,?_⟩;rw[show(Fence.wide.inRound lr).round=some lr from rfl,Oper.semAt_some lr _ _ g,he];generalize (EF (bh b) o).run P w=r at*;cases r with
 | ok x w'=>
  cases x<;>simp only[fW]at h<;>simp only[Oper.uponIn]
  case value v=>exact d _ _ h.1 h.2
  case skip=>exact d _ _ h.1 h.2
  case enter f args=>exact⟨fun q=>by simp[Fence.wide]at q,CallsIn.inRound lr (callsIn_wide.2 (h.mono fun e j ⟨v,i,h1,h2⟩=>by subst i;exact d _ _ h1 h2))⟩
 | halt x w'=>simp only[fW]at h
section
variable {P:Ds} {Q:Exit->Act->CP->Prop} {l:List Oper} {n:Nat} {a0:Act} {w0:CP} {Vs:List (CQ->CP->Prop)}
theorem lg.Cb {b:List Tmp} {i:Nat} {o:Oper} (n:jz o.op=true) (z:∀t∈b,t < a0.tmps.size) (y:∀j f d,l[j]? =some f->f.dst=some d->(∃e∈o.after.toList,e.on=j)->d∈b)
  (h:lg P l b a0 w0 Vs i o):lh lr nf P Q l b a0 w0 (fun i=>Vs.getD i (fun _ _=>True)) i o:=by
 intro u w s m K g;have p:∀d,d∈b->(aK a0 b u).tmps.getD d DT=u d:=fun d a=>by rw[DN,cE,if_pos ⟨a,z d a⟩];rfl
 have k:∀(es:List Edge),(∀e∈es,e∈o.after.toList)->ez l (fun i=>Vs.getD i (fun _ _=>True)) u w es->ky l Vs (fun t=>(aK a0 b u).tmps.getD t DT) w es:=by
  intro es;induction es with
  | nil=>intro _ _;trivial
  | cons e r ih=>
   intro hm a;refine⟨?_,ih (fun x hx=>hm x (by simp[hx])) a.2⟩;have h1:=a.1;unfold ig at h1;cases hl:(l[e.on]?)with
   | none=>simp
   | some f=>
    simp only[hl,Ed]at h1⊢;cases hdj:f.dst with
    | none=>simp
    | some d=>simp only[hdj]at h1⊢;rw[p d (y e.on f d hl hdj ⟨e,hm e (by simp),rfl⟩)];exact h1
 have c:=h (fun t=>(aK a0 b u).tmps.getD t DT) w s (fun t A=>by
  rw[DN,cE,if_neg (fun q=>A q.1),DN]) (k _ (fun _ h=>h) m)
 unfold dw at c;rw[ja];split
 ·rename_i hw;rw[if_pos hw]at c;exact ma (l9 n) (jZ a0 b u) c fun v w' h1 h2=>by
   cases a:o.dst with
   | none=>exact g _ _ ⟨v,by rw[a],h1,fun q=>by rw[a]at q;cases q⟩
   | some d=>exact g _ _ ⟨v,by rw[a],h1,fun _=>h2⟩
 ·rename_i hw;rw[if_neg hw]at c;exact g _ _ ⟨DT,rfl,CT _ _,fun _=>c⟩
theorem fm.Cb {a:List Tmp} (b:∀t∈a,t < a0.tmps.size):∀(r:List Oper) (i:Nat),(∀o∈r,jz o.op=true)->(∀(j:Nat) (o:Oper),r[j]? =some o->∀(k:Nat) (c:Oper) (d:Tmp),l[k]? =some c->c.dst=some d->(∃e∈o.after.toList,e.on=k)->d∈a)->
  fm P l a a0 w0 Vs r i->eA lr nf P Q l a a0 w0 (fun i=>Vs.getD i (fun _ _=>True)) r i
 | [],_,_,_,_=>trivial
 | o :: r,i,hdf,hin,h=>⟨lg.Cb (hdf o (by simp)) b (hin 0 o (by simp)) h.1,fm.Cb b r (i+1) (fun x hx=>hdf x (by simp[hx])) (fun j g f=>hin (j+1) g (by simpa using f)) h.2⟩
theorem im {id:Nat} (n:Nat) (c:List Tmp) (b:List (CQ->CP->Prop)) (hm:P.follows .mixedOrders=true) (f:kN l n=true) (y:bO (l.take n)=c) (A:tG a0 c=true) (x:(l.all fun o=>jz o.op)=true)
  (hmono:iU b)
  (hsteps:fm P l c a0 w0 b (l.take n) 0)
  (hend:∀(u:Nat->CQ) (w:CP),au w0 w->j0 l b u w n->wpListIn (Fence.wide.inRound lr) nf P l.toArray Q (l.drop n) (aK a0 c u) w):
  (Code.region id l.toArray true).wpIn (Fence.wide.inRound lr) nf P Q a0 w0:=by
 subst y;have r:∀(i:Nat) (o:Oper),(l.take n)[i]? =some o->∀e∈o.after.toList,e.on < i:=fun i o a e he=>by
  have g:=f;simp only[kN,Du,decide_eq_true_eq]at g;obtain⟨⟨⟨⟨⟨⟨G,c⟩,D⟩,q⟩,E⟩,s⟩,H⟩:=g;have h:i < n:=by have:=(Dt.1 a).1;simp at this;omega
  have j:l[i]? =some o:=by rw[DL,if_pos h]at a;exact a
  have h1:=Dw.1 q (o,i) (by rw[D1];simpa using j);have h2:=Dw.1 h1 e he;have m:=Dw.1 s o (DZ j);have p:=Dw.1 m e he;simp only[p,DO,Fx,decide_eq_true_eq]at h2;exact h2
 refine jy n (fun i=>b.getD i (fun _ _=>True)) hm f (iU.get b hmono) (fm.Cb (fun t B=>by
   have:=Dw.1 A t B;simpa using this) _ 0 (fun o a=>Dw.1 x o (En a)) ?_ hsteps) (fun u w h1 h2=>hend u w h1 (j0.of n h2))
 rintro i o a k C d z v ⟨e,he,rfl⟩;have F:=r i o a e he;have h:i < n:=by have:=(Dt.1 a).1;simp at this;omega
 refine FA.2 ⟨C,DZ (i:=e.on) ?_,v⟩;rw[DL,if_pos (by omega)];exact z
end
end
def fX (l:List Int):ByteArray:=⟨(l.map fun x=>Gc x.toNat).toArray⟩
theorem rJ (l:List Int):∀s:ByteArray,l.foldl (fun r n=>r.push (Gc n.toNat)) s=⟨s.data++(l.map fun x=>Gc x.toNat).toArray⟩:=by
 induction l with
 | nil=>intro s;simp
 | cons x r ih=>intro s;rw[Gz,ih];simp[ByteArray.push]
theorem rK (l:List Int):l.foldl (fun r n=>r.push (Gc n.toNat)) ByteArray.empty=fX l:=by
 rw[rJ];simp[fX,ByteArray.empty,ByteArray.emptyWithCapacity];rfl
theorem mS {a:Nat} (c:a<=255) (d:b<=255) (h:Gc a=Gc b):a=b:=by
 have:=congrArg UInt8.toNat h;simp at this;omega
theorem nP:∀ {a b:List Int},bI a->bI b->fX a=fX b->a=b:=by
 intro a b d e h;have h1:(a.map fun x=>Gc x.toNat)=(b.map fun x=>Gc x.toNat):=by have:=congrArg (fun s=>s.data.toList) h;simpa[fX] using this
 clear h;induction a generalizing b with
 | nil=>cases b with
  | nil=>rfl
  | cons=>simp at h1
 | cons x r ih=>
  cases b with
  | nil=>simp at h1
  | cons y t=>simp only[Eu,List.cons.injEq]at h1;have hx:=d x (by simp);have hy:=e y (by simp);have:=mS (by omega) (by omega) h1.1;rw[ih (fun z c=>d z (E6 _ c)) (fun z c=>e z (E6 _ c)) h1.2,show x=y from by omega]
theorem nQ {b:List Int} (c:bI a) (d:bI b):(fX a=fX b)↔a=b:=⟨nP c d,fun h=>by rw[h]⟩
theorem lj {b:List Int} (c:bI a) (d:bI b):((fX a).toList==(fX b).toList)=decide (a=b):=by
 have h:(fX a).toList=(fX b).toList↔a=b:=⟨fun h=>by
  rw[ByteArray.toList_eq,ByteArray.toList_eq]at h
  exact nP c d (ByteArray.ext (Array.toList_inj.1 h)),fun h=>by rw[h]⟩
 rw[F6];simp[h]
theorem dG {P:Ds} {w:CP} {v:CQ} {src dst e:Dn} (h:Bu w .u8 v l)
  (d:P.underlying src=some (.slice e)) (he:P.underlying e=some (.int .u8)) (a:P.underlying dst=some .string):
  (convert src dst v).run P w=.ok (.string (fX l)) w:=by
 rcases h with ⟨⟨p,rfl⟩,f,k⟩ | ⟨b,o,c,rfl,n,m,g⟩
 ·obtain rfl:l=[]:=DI.1 f;rw[run_convert_bytes_string w src dst e _ _ _ d he a];cases p<;>rfl
 ·rw[run_convert_bytes_string w src dst e _ _ _ d he a,run_bytesToString w ⟨b,o,none⟩ l.length c l,rK];have:=run_loadCells_list (P:=P) (w:=w) ⟨b,o,none⟩ (aj .u8 l) (fun j v i=>by rw[EH];exact g j v i);rw[ints_length]at this;exact this
theorem iV:∀(xs ys:List Int),xs.length=ys.length->((DD xs.length).all fun i=>xs.getD i 0==ys.getD i 0)=decide (xs=ys)
 | [],[],_=>rfl
 | x :: xs,y :: ys,h=>by
  have a:=iV xs ys (by simpa using h);rw[DB,List.range_succ_eq_map,List.all_cons,List.all_map];simp only[List.getD_cons_zero,Function.comp_def,List.getD_cons_succ,a];rw[F6];simp
 | [],_ :: _,h=>by simp at h
 | _ :: _,[],h=>by simp at h
theorem rL {P:Ds} (w:CP) (d:Nat) {t e:Dn} {k:El} (g:P.underlying t=some (.array n e)) (he:P.underlying e=some (.int k)) (f:∀w,(sizeOf e).run P w=.ok 1 w)
  (xs ys:List Int) (hx:xs.length=n) (hy:ys.length=n):
  (Op.equalIn (d+2) t (.agg (aj k xs).toArray) (.agg (aj k ys).toArray)).run P w=.ok (decide (xs=ys)) w:=by
 rw[<-iV xs ys (hx.trans hy.symm),hx,List.range_eq_range',Op.equalIn];simp only[Ey,Fa g,DR,f,Std.Legacy.Range.forIn_eq_forIn_range',Std.Legacy.Range.size,Nat.sub_zero,Nat.add_sub_cancel,Nat.div_one];have a:∀i∈List.range' 0 n 1,i < n:=fun i b=>by simpa using (List.mem_range'_1.1 b).2
 generalize List.range' 0 n 1=l at a⊢;induction l with
 | nil=>simp
 | cons i l ih=>
  have b:i < n:=a i (by simp);have m:(part e (aj k xs).toArray (i*1)).run P w=.ok (.int k (xs.getD i 0)) w:=by have:=cJ k xs i (by omega);simp[part,isAgg,Fa he,this]
  have o:(part e (aj k ys).toArray (i*1)).run P w=.ok (.int k (ys.getD i 0)) w:=by have:=cJ k ys i (by omega);simp[part,isAgg,Fa he,this]
  have h:(Op.equalIn (d+1) e (.int k (xs.getD i 0)) (.int k (ys.getD i 0))).run P w=.ok (xs.getD i 0==ys.getD i 0) w:=run_equalIn_int w d e k k _ _ he;simp only[List.forIn_cons,Ey,m,o,h,DR,List.all_cons];cases hb:(xs.getD i 0==ys.getD i 0)
  ·simp
  ·simp only[DO,E3,if_false,EI,DR,Bool.true_and];exact ih fun j c=>a j (by simp[c])
theorem tJ {P:Ds} {t e:Dn} {k:El} (b:P.underlying t=some (.array n e)) (he:P.underlying e=some (.int k)) (a:∀w,(sizeOf e).run P w=.ok 1 w)
  (xs ys:List Int) (hx:xs.length=n) (hy:ys.length=n) (w:CP):
  (Op.equalIn 10000 t (.agg (aj k xs).toArray) (.agg (aj k ys).toArray)).run P w=.ok (decide (xs=ys)) w:=rL w 9998 b he a xs ys hx hy
section
variable {P:Ds} {ops:Array Oper}
theorem fo {w:CP} {Q:Act->Prop}:∀(l:List Oper) (a:Act),wpQuiet P ops (fun w'=>w'=w) Q l a->wpStill P ops w Q l a
 | [],_,h=>h
 | o :: rest,a,h=>by
  unfold wpQuiet at h;unfold wpStill;by_cases hw:C8 o (yielded ops a.tmps)
  ·rw[if_pos hw]at h⊢;obtain⟨v,e,d⟩:=h;have h1:=e w rfl;unfold Oper.quietAt at h1;unfold Oper.still;have h2:=fo rest _ d;generalize (EF a.eval o).run P w=r at h1⊢;unfold Oper.quietUpon at h1;unfold Oper.stillUpon;split at h1
   ·obtain⟨b,c⟩:=h1;subst c;exact⟨b,h2⟩
   ·obtain⟨b,c⟩:=h1;subst c;exact⟨b,h2⟩
   ·obtain⟨b,c⟩:=h1;exact⟨b,v,c,h2⟩
   ·exact h1.elim
  ·rw[if_neg hw]at h⊢;exact fo rest _ h
theorem gF {id:Nat} {Q:Exit->Act->CP->Prop} {a:Act} {w:CP} {l:List Oper} (n:Nat) (hm:P.follows .mixedOrders=true) (c:Region.lexTailB .any l.toArray n=true)
  (h:wpQuiet P l.toArray (fun w'=>w'=w.drewN 1) (fun b=>Ew P l.toArray Q (l.drop n) b (w.drewN 1)) (l.take n) a):(Code.region id l.toArray true).wp P Q a w:=
 wp_region_still_tail n hm c (fo _ _ h)
end
theorem mc (k:El) (n:Nat):(madeCells (Dx k 0).cells (n*1)).toList=aj k (Dl n 0):=by
 apply List.ext_getElem
 ·simp[madeCells]
 ·intro i h1 h2;simp[madeCells,aj,Value.cells,show i % 1=0 from Nat.mod_one i]
theorem rM {P:Ds} {t e:Dn} {k:El} (a:kv P t e (.int k 0) 1 bytes) (n:Nat) (m:bytes*n<=281474976710656) (hm:n<=Dc) (w:CP):
  ∃w',(Instr.makeSlice t (.int .i64 (n:Int)) (.int .i64 (n:Int))).run P w=.ok (.slice (some ⟨w.heap.size,0,none⟩) n n) w'/\
   w'.ownsRow w.heap.size e 1 (.slice (some ⟨w.heap.size,0,none⟩) n n) n (aj k (Dl n 0))/\au w w'/\w.heap.size < w'.heap.size:=by
 obtain⟨i,g,l,j,f⟩:=FO a.info;have c:(n:Int)<=9223372036854775807:=by unfold Dc at hm;omega
 have d:(i.bytes:Int)*(n:Int)<=281474976710656:=by
  rw[f];have h:((bytes*n:Nat):Int)<=281474976710656:=by omega
  rwa[Int.natCast_mul]at h
 have b:=run_make (P:=P) w t e i (.int k 0) a.ht g l .i64 .i64 n n (by omega) (Int.le_refl _) d c;simp only[Dy,j]at b;refine⟨_,b,?_,ae _ _,by simp⟩;have:=cX w e (madeCells (Dx k 0).cells (n*1)) w.heap.size n 1 (CU _) hm (size_madeCells _ _);rwa[mc]at this
def yE:List Int:=[201,202,203,204,205,206]
def Ai (w:CP) (u:CQ) (l:List Int) (all inn:CQ):Prop:=
 ∃g c,u=.slice (some ⟨g,0,none⟩) l.length c/\l.length+6<=c/\c<=Dc/\w.rangeAt g 0 (aj .u8 (l++yE))/\all.ownBlock≠some g/\inn.ownBlock≠some g
structure AY (tB tS:Dn) (w:CP) (base:Nat) (all inn:CQ) (ps:List (List Int)) (vs:List CQ):Prop where
 own:w.ownsRow base tB 1 all ps.flatten.length (aj .u8 ps.flatten)
 rows:w.ownsRow base tS 1 inn ps.length vs
 elts:∀j,j < ps.length->Ai w (vs.getD j DT) (ps.getD j []) all inn
 ne:∀q,all.ownBlock=some q->inn.ownBlock≠some q
def HJ (p:Nat) (A B:CP->Prop):(Nat->Bool)->(Nat->CQ)->CP->Prop:=fun d _ w=>(d p=true->B w)/\(d p=false->A w)
theorem HJ.BU {A B:CP->Prop} {u f:Nat->CQ} {w w':CP} (e:decide (p=i)=false) (h:HJ p A B d u w) (b:A w->A w') (c:B w->B w'):HJ p A B (bW d i) f w':=by
 have a:p≠i:=of_decide_eq_false e;refine⟨fun q=>c (h.1 ?_),fun q=>b (h.2 ?_)⟩
 ·unfold bW at q;rw[if_neg a]at q;exact q
 ·unfold bW at q;rw[if_neg a]at q;exact q
theorem HJ.same {A B:CP->Prop} {u b:Nat->CQ} {w:CP} (a:decide (p=i)=false) (h:HJ p A B d u w):HJ p A B (bW d i) b w:=h.BU a (fun x=>x) (fun x=>x)
theorem HJ.set {A B:CP->Prop} {u:Nat->CQ} {w:CP} (h:B w):HJ p A B (bW d p) u w:=⟨fun _=>h,fun q=>by unfold bW at q;rw[if_pos rfl]at q;cases q⟩
theorem HJ.start {A B:CP->Prop} {u:Nat->CQ} {w:CP} (h:A w):HJ p A B (fun _=>false) u w:=⟨fun q=>(by cases q),fun _=>h⟩
theorem ak {P:Ds} {ops:Array Oper} {rest:List Oper} {a:Act} {w w':CP} {Q:Exit->Act->CP->Prop} {d ty:Dn} {pp:String} {b:Array Edge} {x y:EJ} {p v:CQ} (hx:a.eval x=p) (hy:a.eval y=v) (c:(Fo ty p v).run P w=.ok () w') (h:Ew P ops Q rest a w'):
  Ew P ops Q (⟨none,.store ty x y,d,pp,b,none⟩ :: rest) a w:=bG hx hy c h
theorem tK {P:Ds} {ops:Array Oper} {rest:List Oper} {a:Act} {w w':CP} {Q:Exit->Act->CP->Prop} {d:Option Tmp} {g t t2:Dn} {pp:String} {b:Array Edge} {s x:EJ} {v u r:CQ} (e:∀ty,(FD #[t,t2] ty #[v,u]).run P w=.ok r w') (f:a.eval s=v) (hx:a.eval x=u) (h:Ew P ops Q rest (a.put d r) w'):
  Ew P ops Q (⟨d,.call {callee:=.builtin .append,args:=#[s,x],argTypes:=#[t,t2]},g,pp,b,none⟩ :: rest) a w:=
 Gh rfl fun K c=>by
  unfold Oper.wp EF;simp only[resolve,invoke,builtin,Ey,EI,DR,E7,Eu,Fb,f,hx,e];exact c _ _ h
theorem pI {P:Ds} {a:Nat->CQ} {w w':CP} {φ :CQ->CP->Prop} {d:Option Tmp} {i t t2:Dn} {pp:String} {b:Array Edge} {g:Option (Nat × Bool)} {s x:EJ} {v u r:CQ} (e:∀ty,(FD #[t,t2] ty #[v,u]).run P w=.ok r w') (f:bh a s=v) (hx:bh a x=u) (c:au w w') (h: φ r w'):
  fW P w φ ((EF (bh a) ⟨d,.call {callee:=.builtin .append,args:=#[s,x],argTypes:=#[t,t2]},i,pp,b,g⟩).run P w):=by
 unfold EF;simp only[resolve,invoke,builtin,Ey,EI,DR,E7,Eu,Fb,f,hx,e];exact⟨c,h⟩
theorem zm {P:Ds} {w:CP} {t e:Dn} (f:kv P t e (.int .u8 0) 1 bytes) (p:bytes<=1) {v u:CQ} {a:Int} (A:∃g,v=.slice (some ⟨g,0,none⟩) 1 1/\w.rangeAt g 0 (aj .u8 [a])) (hu:∃b,u=.slice (some ⟨b,0,none⟩) m m/\w.rangeAt b 0 (aj .u8 l)) (d:l.length=m) (D:0 < m) (hm:m<=1099511627776) (k:B<=w.heap.size):
  ∃c w',(∀ty,(FD #[t,t] ty #[v,u]).run P w=.ok (.slice (some ⟨w.heap.size,0,none⟩) (1+m) c) w')/\au w w'/\w'.ownsRow B e 1 (.slice (some ⟨w.heap.size,0,none⟩) (1+m) c) (1+m) (aj .u8 (a :: l)):=by
 obtain⟨i,z,C,h,o⟩:=FO f.info;obtain⟨g,rfl,s⟩:=A;obtain⟨b,rfl,n⟩:=hu;have y:=grownCap_ge w (1+m) 1 e;have q:grownCap w (1+m) 1 e<=Dc:=grownCap_le_maxLen w (1+m) 1 e (by unfold Dc;omega);have r:Builtin.nextslicecap (1+m) 1*i.bytes<=281474976710656:=growslice_fits (by omega) (by rw[o];have:(1+m)*bytes<=(1+m)*1:=Nat.mul_le_mul_left _ p;omega);refine⟨_,_,fun ty=>run_append_grow (P:=P) w t ty e i _ f.ht z C ⟨g,0,none⟩ 1 1 (aj .u8 [a]) (by rw[h];rfl) (fun j x hx=>by rw[EH];exact s j x hx) ⟨b,0,none⟩ m m (aj .u8 l) (by rw[h,ints_length,d];omega) (fun j x hx=>by rw[EH];exact n j x hx) (by omega) (by omega) r,((CT _ _).drew).alloc (CU _) _,?_⟩;refine⟨by simp[d];omega,.inr ⟨w.heap.size,_,_,rfl,k,heap_alloc_new w.drew _,y,q,?_,?_⟩⟩
 ·simp only[Array.size_append,List.size_toArray,size_zeroCells,ints_length,d,Value.cells,DB,DY];omega
 ·simp only[Array.toList_append,DH,EZ];rw[<-DH,<-aP];exact GA (by simp[d];omega)
theorem bX {P:Ds} {a:Nat->CQ} {w:CP} {φ :CQ->CP->Prop} {d:Option Tmp} {f ty:Dn} {pp:String} {b:Array Edge} {g:Option (Nat × Bool)} {x:EJ} {p v:CQ} (hx:bh a x=p) (c:(EX ty p).run P w=.ok v w) (e: φ v w):
  fW P w φ ((EF (bh a) ⟨d,.load ty x,f,pp,b,g⟩).run P w):=by
 unfold EF;simp only[hx,Ey,EI,DR,c];exact⟨CT _ _,e⟩
structure JT (B n i7 i8 s7 t7 t8:Nat) (l:List CQ) (d:Nat->Bool) (u:Nat->CQ) (w:CP):Prop where
 a7:d i7=true->∃g,u t7=.pointer (some ⟨g,0,none⟩)/\B<=g/\w.there g 0 n
 a8:d i8=true->∃g,u t8=.pointer (some ⟨g,0,none⟩)/\B<=g/\w.there g 0 n
 ne:d i7=true->d i8=true->u t7≠u t8
 s:d s7=true->∃g,u t7=.pointer (some ⟨g,0,none⟩)/\w.rangeAt g 0 l
 le:B<=w.heap.size
section
variable {B n i7 i8 s7 t7 t8:Nat} {l:List CQ} {d:Nat->Bool} {u:Nat->CQ} {w:CP}
end
theorem jc {R:CP->CP->Prop} (e:∀w,R w w) {P:Ds} {a:Nat->CQ} {w:CP} {φ :CQ->CP->Prop} {d:Option Tmp} {h ty:Dn} {pp:String} {b:Array Edge} {g:Option (Nat × Bool)} {x:EJ} {p v:CQ} (hx:bh a x=p) (c:(EX ty p).run P w=.ok v w) (f: φ v w):
  eo R P w φ ((EF (bh a) ⟨d,.load ty x,h,pp,b,g⟩).run P w):=by
 unfold EF;simp only[hx,Ey,EI,DR,c];exact⟨e _,f⟩
theorem dH {R:CP->CP->Prop} {P:Ds} {a:Nat->CQ} {w w':CP} {φ :CQ->CP->Prop} {d:Option Tmp} {h ty:Dn} {pp:String} {b:Array Edge} {g:Option (Nat × Bool)} {x y:EJ} {p v:CQ} (hx:bh a x=p) (hy:bh a y=v) (e:(Fo ty p v).run P w=.ok () w') (c:R w w') (f: φ DT w'):
  eo R P w φ ((EF (bh a) ⟨d,.store ty x y,h,pp,b,g⟩).run P w):=by
 unfold EF;simp only[hx,hy,Ey,EI,DR,e];exact⟨c,f⟩
def aO (ds:List (List Int)):List CQ:=ds.flatMap (aj .u8)
def dd (ds:List (List Int)):Prop:=∀d∈ds,d.length=32/\bI d
theorem dd.nil:dd []:=fun d a=>by cases a
theorem dd.append {a b:List (List Int)} (h:dd a) (k:dd b):dd (a++b):=fun d c=>by
 rcases Dz.1 c with c | c
 ·exact h d c
 ·exact k d c
theorem dd.one {d:List Int} (h:d.length=32) (k:bI d):dd [d]:=fun x hx=>by
 obtain rfl:x=d:=by simpa using hx
 exact⟨h,k⟩
theorem dd.take {a:List (List Int)} (h:dd a) (n:Nat):dd (a.take n):=fun d b=>h d (En b)
theorem dd.drop {a:List (List Int)} (h:dd a) (n:Nat):dd (a.drop n):=fun d b=>h d (Fq b)
theorem dd.get {a:List (List Int)} (h:dd a) (b:i < a.length):(a.getD i []).length=32/\bI (a.getD i []):=by
 rw[CR,CV b];exact h _ (DW b)
theorem cM (d:List Int):aO [d]=aj .u8 d:=by simp[aO]
theorem cf (a b:List (List Int)):aO (a++b)=aO a++aO b:=by simp[aO]
theorem bT:∀ {ds:List (List Int)},dd ds->(aO ds).length=ds.length*32
 | [],_=>rfl
 | d :: r,h=>by
  have h1:=(h d (by simp)).1;have h2:=bT (ds:=r) (fun x hx=>h x (E6 _ hx));show(aj .u8 d++aO r).length=_;rw[List.length_append,ints_length,h1,h2,DB];omega
theorem cY (ds:List (List Int)):∀c∈aO ds,c.oneCell'=true:=fun c a=>by
 obtain⟨d,_,b⟩:=List.mem_flatMap.1 a;exact aE _ _ c b
theorem fH {ds:List (List Int)} (h:dd ds) (k:Nat):(aO ds).drop (k*32)=aO (ds.drop k):=by
 by_cases a:k<=ds.length
 ·have e:ds=ds.take k++ds.drop k:=(D5 k ds).symm;conv=>lhs;rw[e,cf]
  exact List.drop_left' (by rw[bT (h.take k),Da,E1 a])
 ·rw[Fc (by rw[bT h];omega),Fc (by omega)];rfl
theorem nR {ds:List (List Int)} (h:dd ds) (k:Nat):(aO ds).take (k*32)=aO (ds.take k):=by
 by_cases a:k<=ds.length
 ·have e:ds=ds.take k++ds.drop k:=(D5 k ds).symm;conv=>lhs;rw[e,cf]
  exact GA (by rw[bT (h.take k),Da,E1 a])
 ·rw[CX (by rw[bT h];omega),CX (by omega)]
abbrev et (w:CP) (v:CQ) (ds:List (List Int)):Prop:=aX w v ds.length (aO ds)
theorem dI {w:CP} {ds:List (List Int)} (h:w.rangeAt b o (aO ds)) (c:dd ds) (a:i < ds.length):w.rangeAt b (o+i*32) (aj .u8 (ds.getD i [])):=by
 have h1:=cU h (i*32);rw[fH c,List.drop_eq_getElem_cons a]at h1;have h2:=dM h1 32;have e:(aO (ds[i] :: ds.drop (i+1))).take 32=aj .u8 ds[i]:=by show(aj .u8 ds[i]++_).take 32=_;exact GA (by rw[ints_length];exact(c _ (DW a)).1)
 rw[e]at h2;rw[CR,CV a];exact h2
theorem gG {w:CP} {ds:List (List Int)} (h:w.rangeAt b o (aO ds)) (a:dd ds) (k m:Nat):w.rangeAt b (o+k*32) (aO ((ds.drop k).take m)):=by
 have h1:=cU h (k*32);rw[fH a]at h1;have h2:=dM h1 (m*32);rw[nR (a.drop k)]at h2;exact h2
theorem et.pos {w:CP} {v:CQ} {ds:List (List Int)} (h:et w v ds) (e:dd ds) (f:0 < ds.length):∃b o c,v=.slice (some ⟨b,o,none⟩) ds.length c/\ds.length<=c/\c<=Dc/\b < w.heap.size/\w.rangeAt b o (aO ds):=by
 rcases h with ⟨_,h,_⟩ | ⟨b,o,c,h1,h2,d,a⟩
 ·omega
 ·exact⟨b,o,c,h1,h2,d,bK a (fun q=>by have:=bT e;rw[q]at this;simp at this;omega),a⟩
theorem mo:∀(l:List CQ) (k:Nat) (init:List CQ),k+l.length=init.length->((l.zipIdx k).foldl (fun(cs:List CQ) (p:CQ × Nat)=>cs.set p.2 p.1) init)=init.take k++l
 | [],k,init,h=>by simp at h;simp[h]
 | x :: r,k,init,h=>by
  simp only[List.zipIdx_cons,Gz];rw[mo r (k+1) (init.set k x) (by simp at h⊢;omega)];rw[List.take_add_one,List.take_set_of_le (CU _),List.getElem?_set_self (by simp at h;omega)];simp
theorem nS (cells cs:Array CQ) (n:Nat) (b:cells.size=n) (c:cs.size=n):Instr.fill (fun i=>some (i*n,n)) cells [(0,.agg cs)]=some cs:=by
 simp only[Instr.fill,Value.cells,Gg,Dq];rw[if_neg (by simp[b,c])];have key:∀(l:List (CQ × Nat)) (init:Array CQ),(l.foldl (fun(a:Array CQ) (p:CQ × Nat)=>a.setIfInBounds p.2 p.1) init).toList=l.foldl (fun(a:List CQ) (p:CQ × Nat)=>a.set p.2 p.1) init.toList:=by
  intro l;induction l with
  | nil=>intro init;rfl
  | cons p r ih=>intro init;rw[Gz,Gz,ih];simp
 congr 1;apply Array.toList_inj.1;rw[<-Array.foldl_toList,key,Array.toList_zipIdx,mo cs.toList 0 cells.toList (by simp[b,c])];simp
section
variable {P:Ds} {t e:Dn} {z:CQ} {bytes n:Nat}
theorem tL (a:kv P t e z n bytes) (h:n<=1000) (w:CP) (cs:Array CQ) (d:cs.size=n):
  (Instr.buildSlice t 1 #[(0,.agg cs)]).run P w=.ok (.slice (some ⟨w.heap.size,0,none⟩) 1 1) (w.alloc (.cells cs e)):=by
 obtain⟨i,c,f,b,g⟩:=FO a.info;have hp:=a.pos;refine run_buildSlice w t e 1 #[(0,.agg cs)] cs i z a.ht c f (by rw[b];omega) (by rw[b];omega) ?_;rw[b];exact nS _ cs n (by simp) d
theorem eW (c:kv P t e z n bytes) (f:n<=1000) {a:Nat->CQ} {w:CP} {φ :CQ->CP->Prop} {d:Option Tmp} {k:Dn} {pp:String} {b:Array Edge} {g:Option (Nat × Bool)} {x:EJ} {cs:Array CQ} (hx:bh a x=.agg cs) (i:cs.size=n) (j: φ (.slice (some ⟨w.heap.size,0,none⟩) 1 1) (w.alloc (.cells cs e))):
  fW P w φ ((EF (bh a) ⟨d,.buildSlice t 1 #[(0,x)],k,pp,b,g⟩).run P w):=by
 have h:=tL c f w cs i;unfold EF;simp only[hx,E7,Eu,Fb,Ey,EI,h,DR];exact⟨ae _ _,j⟩
theorem de (f:kv P t e z n bytes) (g:n<=1000) {ops:Array Oper} {rest:List Oper} {a:Act} {w:CP} {Q:Exit->Act->CP->Prop} {d:Option Tmp} {j:Dn} {pp:String} {b:Array Edge} {x:EJ} {cs:Array CQ} (hx:a.eval x=.agg cs) (i:cs.size=n)
  (h:Ew P ops Q rest (a.put d (.slice (some ⟨w.heap.size,0,none⟩) 1 1)) (w.alloc (.cells cs e))):Ew P ops Q (⟨d,.buildSlice t 1 #[(0,x)],j,pp,b,none⟩ :: rest) a w:=
 Gh rfl fun K c=>by
  have h1:=tL f g w cs i;unfold Oper.wp EF;simp only[hx,E7,Eu,Fb,Ey,EI,h1,DR];exact c _ _ h
end
theorem df {P:Ds} {ops:Array Oper} {rest:List Oper} {a:Act} {w:CP} {Q:Exit->Act->CP->Prop} {d:Option Tmp} {c ty:Dn} {pp:String} {b:Array Edge} {n:Nat} {xs:Array (Nat × EJ)} (h:kx (Ew P ops Q (⟨d,.buildSlice ty n xs,c,pp,b,none⟩ :: rest) a w)):Ew P ops Q (⟨d,.buildSlice ty n xs,c,pp,b,none⟩ :: rest) a w:=h
theorem fI (w:CP) (e:Dn) (d:List Int) (_h:d.length=32):aX (w.alloc (.cells (aj .u8 d).toArray e)) (.slice (some ⟨w.heap.size,0,none⟩) 1 1) 1 (aO [d]):=by
 refine .inr ⟨w.heap.size,0,1,rfl,CU _,show 1<=Dc from by decide,fun j v a=> ?_⟩;rw[Dq,Df];rw[cM]at a;simpa using a
abbrev zA:Array CQ:=#[.int .u8 0,.int .u8 0,.int .u8 0,.int .u8 0,.int .u8 0,.int .u8 0,.int .u8 0,.int .u8 0,.int .u8 0,.int .u8 0,.int .u8 0,.int .u8 0,.int .u8 0,.int .u8 0,.int .u8 0,.int .u8 0,.int .u8 0,.int .u8 0,.int .u8 0,.int .u8 0,.int .u8 0,.int .u8 0,.int .u8 0,.int .u8 0,.int .u8 0,.int .u8 0,.int .u8 0,.int .u8 0,.int .u8 0,.int .u8 0,.int .u8 0,.int .u8 0]
theorem sE:(∀(l:List Oper) (V:List (CQ->CP->Prop)) (u:Nat->CQ) (w:CP),j0 l V u w 0=True)/\(∀(l:List Oper) (V:List (CQ->CP->Prop)) (u:Nat->CQ) (w:CP) (j:Nat),j0 l V u w (j+1)=(j0 l V u w j/\match (l[j]?).bind (·.dst)with | some d=>V.getD j (fun _ _=>True) (u d) w | none=>True))/\(∀ {α :Type} {a: α} {l:List α} {n:Nat},(a :: l)[n+1]? =l[n]?)/\(∀ {α :Type} {a: α} {l:List α},(a :: l)[0]? =some a)/\(∀ {α β :Type} (a: α) (f: α ->Option β),(some a).bind f=f a)/\(∀ {α :Type} {a d: α} {l:List α} {n:Nat},(a :: l).getD (n+1) d=l.getD n d)/\(∀ {α :Type} {a d: α} {l:List α},(a :: l).getD 0 d=a)/\(∀m v w,ar m v w=(v=m))/\(∀p:Prop,(True/\p)=p):=⟨fun _ _ _ _=>rfl,fun _ _ _ _ _=>rfl,@Q1,@Q2,@Qc,@Q3,@Q4,fun _ _ _=>rfl,true_and⟩
theorem sF:(∀(a:Act) (u:Nat->CQ),aK a [] u=a)/\(∀(a:Act) (t:Tmp) (r:List Tmp) (u:Nat->CQ),aK a (t :: r) u= {tmps:=(aK a r u).tmps.setIfInBounds t (u t),defers:=a.defers})/\(∀ {α :Type} {a: α} {l:List α} {i:Nat},l.toArray.setIfInBounds i a=(l.set i a).toArray)/\(∀ {α :Type} {a b: α} {l:List α} {i:Nat},(a :: l).set (i+1) b=a :: l.set i b)/\(∀ {α :Type} {a b: α} {l:List α},(a :: l).set 0 b=b :: l)/\(∀ {α :Type} {a: α} {l:List α} {n:Nat},(a :: l).drop (n+1)=l.drop n)/\(∀ {α :Type} {l:List α},l.drop 0=l):=⟨fun _ _=>rfl,fun _ _ _ _=>rfl,@Q5,@Q6,@Q7,@Q8,@Q9⟩
theorem sD:(∀(l:List Oper) (V:List (CQ->CP->Prop)) (u:Nat->CQ) (w:CP),ky l V u w []=True)/\(∀(l:List Oper) (V:List (CQ->CP->Prop)) (u:Nat->CQ) (w:CP) (e:Edge) (r:List Edge),ky l V u w (e :: r)=((match (l[e.on]?).bind (·.dst)with | some d=>V.getD e.on (fun _ _=>True) (u d) w | none=>True)/\ky l V u w r))/\(∀ {α :Type} {a: α} {l:List α} {n:Nat},(a :: l)[n+1]? =l[n]?)/\(∀ {α :Type} {a: α} {l:List α},(a :: l)[0]? =some a)/\(∀ {α β :Type} (a: α) (f: α ->Option β),(some a).bind f=f a)/\(∀ {α :Type} {a d: α} {l:List α} {n:Nat},(a :: l).getD (n+1) d=l.getD n d)/\(∀ {α :Type} {a d: α} {l:List α},(a :: l).getD 0 d=a)/\(∀m v w,ar m v w=(v=m))/\(∀p:Prop,(p/\True)=p):=⟨fun _ _ _ _=>rfl,fun _ _ _ _ _ _=>rfl,@Q1,@Q2,@Qc,@Q3,@Q4,fun _ _ _=>rfl,and_true⟩
theorem sG:(∀(l:List Oper) (V:List (CQ->CP->Prop)) (u:Nat->CQ) (w:CP),j5 l V u w []=True)/\(∀(l:List Oper) (V:List (CQ->CP->Prop)) (u:Nat->CQ) (w:CP) (e:Edge) (r:List Edge),j5 l V u w (e :: r)=((match e.ground with | .textOnly _=>True | .gcOnly _=>True | _=>(match (l[e.on]?).bind (·.dst)with | some d=>V.getD e.on (fun _ _=>True) (u d) w | none=>True))/\j5 l V u w r))/\(∀ {α :Type} {a: α} {l:List α} {n:Nat},(a :: l)[n+1]? =l[n]?)/\(∀ {α :Type} {a: α} {l:List α},(a :: l)[0]? =some a)/\(∀ {α β :Type} (a: α) (f: α ->Option β),(some a).bind f=f a)/\(∀ {α :Type} {a d: α} {l:List α} {n:Nat},(a :: l).getD (n+1) d=l.getD n d)/\(∀ {α :Type} {a d: α} {l:List α},(a :: l).getD 0 d=a)/\(∀m v w,ar m v w=(v=m))/\(∀p:Prop,(p/\True)=p):=⟨fun _ _ _ _=>rfl,fun _ _ _ _ _ _=>rfl,@Q1,@Q2,@Qc,@Q3,@Q4,fun _ _ _=>rfl,and_true⟩
theorem sB:(∀ {α :Type} {d: α} {l:Array α} {i:Nat},l.getD i d=l[i]?.getD d)/\(∀ {α :Type} {l:List α} {i:Nat},l.toArray[i]? =l[i]?)/\(∀ {α :Type} {a: α} {l:List α} {n:Nat},(a :: l)[n+1]? =l[n]?)/\(∀ {α :Type} {a: α} {l:List α},(a :: l)[0]? =some a)/\(∀ {α :Type} {a b: α},(some a).getD b=a):=⟨@Qa,@Qb,@Q1,@Q2,@Qd⟩
class MonoLC (l:List (CQ->CP->Prop)):Prop where
 h:iU l
instance:MonoLC []:=⟨trivial⟩
instance {l:List (CQ->CP->Prop)} {m:CQ} [MonoLC l]:MonoLC (ar m :: l):=⟨⟨ah m,MonoLC.h⟩⟩
instance {l:List (CQ->CP->Prop)} [MonoLC l]:MonoLC (cR :: l):=⟨⟨rG,MonoLC.h⟩⟩
theorem mL {l:List (CQ->CP->Prop)} [MonoLC l]:iU l:=MonoLC.h
class MonoRC (R:CP->CP->Prop) (l:List (CQ->CP->Prop)):Prop where
 h:kz R l
instance {R:CP->CP->Prop}:MonoRC R []:=⟨trivial⟩
instance {R:CP->CP->Prop} {l:List (CQ->CP->Prop)} {m:CQ} [MonoRC R l]:MonoRC R (ar m :: l):=⟨⟨rH m,MonoRC.h⟩⟩
instance {R:CP->CP->Prop} {l:List (CQ->CP->Prop)} [MonoRC R l]:MonoRC R (cR :: l):=⟨⟨pG,MonoRC.h⟩⟩
theorem mR {R:CP->CP->Prop} {l:List (CQ->CP->Prop)} [MonoRC R l]:kz R l:=MonoRC.h
end Go.Proofs.Bl
