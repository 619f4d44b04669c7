/- Texts that stood apart, in one: LetQ, LetU, BldV, GrowK. -/
import Derived.Test.YtglenbikdahgjaaGreatDoorPs05
set_option maxRecDepth 100000
set_option maxHeartbeats 16000000
open Bool renaming false_eq_true->E3,or_eq_false_iff->Eo
open Go renaming Value->CQ,World->CP
open Go.RowKit.Below renaming heap_setCell->EC,refl->CT
open Int renaming toNat_natCast->Dy
open List renaming append_assoc->DH,append_nil->DV,flatMap_cons->FG,length_append->C7,length_take->Da,mem_singleton->EV
open Nat renaming le_refl->CU,le_trans->Dk,zero_le->C9
open Option renaming some->DJ
namespace Go.Proofs.Bl
open Go Go.RowKit Go.Proofs
variable {k X:Nat} {x r l:List Int}
def kW (k:Nat) (b:List Int):Option (List Int × List Int):=if k<=b.length then some (b.take k,b.drop k)else none
def gR {α β :Type} (x:Option (α × List Int)) (f: α ->List Int->Option β):Option β :=match x with
 | none=>none
 | some (a,r)=>f a r
theorem bF {α β :Type} (a: α) (r:List Int) (f: α ->List Int->Option β):gR (some (a,r)) f=f a r:=rfl
theorem lG {α β :Type} (f: α ->List Int->Option β):gR (none:Option (α × List Int)) f=none:=rfl
def xB (n:Int) (l:List Int):Int:=l.foldl (fun n c=>min n 2199023255552*256+c) n
def fR (l:List Int):Int:=xB 0 l
def kX (k:Nat) (b:List Int):Option (Int × List Int):=gR (kW k b) fun x r=>some (fR x,r)
def l7 {α :Type} (f:List Int->Option (α × List Int)):Nat->List Int->Option (List α × List Int)
 | 0,b=>some ([],b)
 | n+1,b=>gR (f b) fun x r=>gR (l7 f n r) fun xs r'=>some (x :: xs,r')
def yy (b:List Int):Option (Sh × List Int):=gR (kX 2 b) fun p r=>gR (kW 16 r) fun st r=>gR (kX 1 r) fun c r=>gR (l7 (kW 32) c.toNat r) fun ds r=>some ((p,st,ds),r)
def pZ (k i o:Int) (b:List Int):Option (BC × List Int):=
 if k=6 then gR (kX 2 b) fun f r=>gR (kX 2 r) fun n r=>gR (l7 (kW 16) n.toNat r) fun bs r=>some (⟨k,i,o,[],[],f,0,bs,0⟩,r)
 else if k=1 then gR (kX 2 b) fun n r=>gR (l7 (kW 16) n.toNat r) fun bs r=>some (⟨k,i,o,[],[],0,0,bs,0⟩,r)
 else if k=3 then gR (kX 1 b) fun n r=>gR (l7 (kX 2) n.toNat r) fun ps r=>some (⟨k,i,o,ps,[],0,0,[],0⟩,r)
 else if k=4 then gR (kX 1 b) fun n r=>gR (l7 yy n.toNat r) fun ss r=>some (⟨k,i,o,[],ss,0,0,[],0⟩,r)
 else if k=5 then gR (kX 2 b) fun f r=>gR (kX 2 r) fun c r=>some (⟨k,i,o,[],[],f,c,[],0⟩,r)
 else if k=7 then gR (kX 1 b) fun c r=>some (⟨k,i,o,[],[],0,0,[],c⟩,r)
 else some (⟨k,i,o,[],[],0,0,[],0⟩,b)
def uH (k:Int) (b:List Int):Option (BC × List Int):=gR (kX 8 b) fun i r=>gR (kX 8 r) fun o r=>pZ k i o r
def wJ (x:Option (BC × List Int)):Nat × BC:=match x with
 | none=>(2,dW)
 | some (l,[])=>if aR l=0 then(0,l)else(aR l,dW)
 | some (_,_ :: _)=>(4,dW)
def dE (b:List Int):Nat × BC:=
 if 8000 < b.length then(3,dW)else match b with
 | []=>(2,dW)
 | k :: r=>if wi k 1 7=false then(7,dW)else wJ (uH k r)
theorem wK (a r:List Int):kW a.length (a++r)=some (a,r):=by
 unfold kW;rw[if_pos (by rw[C7];omega),List.take_left,List.drop_left]
theorem jP {a:List Int} (h:a.length=k) (r:List Int):kW k (a++r)=some (a,r):=by subst h;exact wK a r
theorem xS {b:List Int} (h:kW k b=some (x,r)):b=x++r/\x.length=k:=by
 unfold kW at h;split at h
 ·injection h with h;injection h with h1 h2;subst h1 h2;exact⟨(List.take_append_drop k b).symm,by rw[Da];omega⟩
 ·cases h
theorem dQ {a:List Int} (h:a.length=k) (r:List Int):kX k (a++r)=some (fR a,r):=by
 unfold kX;rw[jP h,bF]
theorem gm (c:Int):fR [c]=c:=by
 show min 0 2199023255552*256+c=c;omega
theorem fw {x:Int} (h0:0<=x) (h1:x<=65535):fR (bB x)=x:=by
 show min (min 0 2199023255552*256+x / 256 % 256) 2199023255552*256+x % 256=x;omega
theorem fM {n c B:Int} (h:n<=2199023255552) (e:n*256+c=B):min n 2199023255552*256+c=B:=by omega
theorem mF {x:Int} (h0:0<=x) (h1:x<=1099511627776):fR (aM x)=x:=by
 show min (min (min (min (min (min (min (min 0 2199023255552*256+x / 72057594037927936 % 256) 2199023255552*256+x / 281474976710656 % 256) 2199023255552*256+x / 1099511627776 % 256) 2199023255552*256+x / 4294967296 % 256) 2199023255552*256+x / 16777216 % 256) 2199023255552*256+x / 65536 % 256) 2199023255552*256+x / 256 % 256) 2199023255552*256+x % 256=x;rw[fM (n:=0) (B:=0) (by omega) (by omega)];rw[fM (n:=0) (B:=0) (by omega) (by omega)];rw[fM (n:=0) (B:=x / 1099511627776) (by omega) (by omega)];rw[fM (n:=x / 1099511627776) (B:=x / 4294967296) (by omega) (by omega)];rw[fM (n:=x / 4294967296) (B:=x / 16777216) (by omega) (by omega)];rw[fM (n:=x / 16777216) (B:=x / 65536) (by omega) (by omega)];rw[fM (n:=x / 65536) (B:=x / 256) (by omega) (by omega)];rw[fM (n:=x / 256) (B:=x) (by omega) (by omega)]
theorem y5:∀(r:List Int),r.length=2->∃BA a,r=[BA,a]:=by
 intro r h
 match r,h with
 | [BA,a],_=>exact⟨BA,a,rfl⟩
theorem y6:∀(r:List Int),r.length=1->∃BA,r=[BA]:=by
 intro r h
 match r,h with
 | [BA],_=>exact⟨BA,rfl⟩
theorem wL (d:x.length=2) (c:bI x):bB (fR x)=x/\0<=fR x/\fR x<=65535:=by
 obtain⟨a,b,rfl⟩:=y5 x d;have h1:=c a (by simp);have h2:=c b (by simp);have e:fR [a,b]=a*256+b:=by show min (min 0 2199023255552*256+a) 2199023255552*256+b=a*256+b;omega
 rw[e];unfold bB;refine⟨?_,by omega,by omega⟩;rw[show(a*256+b) / 256 % 256=a by omega,show(a*256+b) % 256=b by omega]
theorem wM (c:x.length=1) (b:bI x): [fR x]=x/\0<=fR x/\fR x<=255:=by
 obtain⟨a,rfl⟩:=y6 x c;have h1:=b a (by simp);rw[gm];exact⟨rfl,h1.1,h1.2⟩
def zv:Int->List Int->Int
 | n,[]=>n
 | n,c :: r=>if 2199023255552 < n then -1 else zv (n*256+c) r
theorem jQ {α :Type} {f:List Int->Option (α × List Int)} {g: α ->List Int}:∀(l:List α),(∀x∈l,∀r,f (g x++r)=some (x,r))->∀r,l7 f l.length (l.flatMap g++r)=some (l,r)
 | [],_,_=>rfl
 | x :: l,h,r=>by
  rw[FG,DH,List.length_cons,l7,h x (by simp),bF,jQ l (fun y hy=>h y (by simp[hy])) r,bF]
theorem kF (l:List (List Int)):l.flatMap (fun x=>x)=l.flatten:=by
 induction l with
 | nil=>rfl
 | cons x r ih=>rw[FG,List.flatten_cons,ih]
theorem wN (s:Sh) (h1:0<=s.1/\s.1<=65535) (h2:s.2.1.length=16) (b:∀d∈s.2.2,d.length=32) (r:List Int):yy (nx s++r)=some (s,r):=by
 obtain⟨p,st,ds⟩:=s;unfold yy nx;simp only[DH];rw[dQ (k:=2) (a:=bB p) rfl,bF,jP h2,bF,dQ (k:=1) (a:=[(ds.length:Int)]) rfl,bF,fw h1.1 h1.2,gm];have e:=jQ (f:=kW 32) (g:=fun y=>y) ds (fun x hx r=>jP (b x hx) r) r;rw[kF]at e;rw[Dy,e,bF]
theorem sd {l:BC} (h:dU l=true):lF l=dW:=by
 unfold dU cQ at h;exact of_decide_eq_true h
theorem fg {l:BC} (h:aR l=0):(1<=l.kind/\l.kind<=7)/\br l=true/\bA l=true/\dU l=true/\(bE l).length<=8000:=by
 unfold aR at h;by_cases h1:wi l.kind 1 7=false
 ·rw[if_pos h1]at h;cases h
 rw[if_neg h1]at h;by_cases h2:br l=false
 ·rw[if_pos h2]at h;cases h
 rw[if_neg h2]at h;by_cases a:bA l=false
 ·rw[if_pos a]at h;cases h
 rw[if_neg a]at h;by_cases b:dU l=false
 ·rw[if_pos b]at h;cases h
 rw[if_neg b]at h;by_cases c:8000 < (bE l).length
 ·rw[if_pos c]at h;cases h
 exact⟨bj.1 (by simpa using h1),by simpa using h2,by simpa using a,by simpa using b,by omega⟩
theorem uI {l:BC} (D:1<=l.kind/\l.kind<=7) (F:br l=true) (h:bA l=true) (C:dU l=true) (v:∀s∈l.shown,dd s.2.2):pZ l.kind l.id l.obj (eu l)=some (l,[]):=by
 obtain⟨_,_,b⟩:=dr F;have t:=sd C;obtain⟨k,i,o,ps,p,f,c,n,w⟩:=l;unfold lF dW at t;simp only[BC.mk.injEq,true_and]at t;obtain⟨j,z2,z3,z4,z5,m⟩:=t;simp only at D v;have E:k=1\/k=2\/k=3\/k=4\/k=5\/k=6\/k=7:=by omega
 unfold jN at b;unfold bA at h;unfold pZ eu;simp only;have u:∀(L:List (List Int)),(∀x∈L,x.length=16)->∀r,l7 (kW 16) L.length (L.flatten++r)=some (L,r):=fun L A r=>by have e:=jQ (f:=kW 16) (g:=fun y=>y) L (fun x hx r=>jP (A x hx) r) r;rwa[kF]at e
 rcases E with rfl | rfl | rfl | rfl | rfl | rfl | rfl
 ·simp at j z2 z3 z4 z5 m h b;subst j z2 z3 z4 m;have hw:=bj.1 h.1;have q:∀x∈n,x.length=16:=fun x hx=>ep (by have:=h.2 x hx;simpa using this)
  have e:=u n q [];rw[DV]at e;simp;rw[dQ (k:=2) (a:=bB n.length) rfl,bF,fw (by omega) (by omega),Dy,e,bF]
 ·simp at j z2 z3 z4 z5 m h b;subst j z2 z3 z4 z5 m;simp
 ·simp at j z2 z3 z4 z5 m h b;subst z2 z3 z4 z5 m
  have e:=jQ (f:=kX 2) (g:=bB) ps (fun x hx r=>by
   obtain⟨h1,h2⟩:=fv (by have:=b x hx;simpa using this)
   rw[dQ (k:=2) (a:=bB x) rfl,fw h1 (by omega)]) []
  rw[DV]at e;simp;rw[show((ps.length:Int) :: ps.flatMap bB)=[(ps.length:Int)]++ps.flatMap bB from rfl,dQ (k:=1) rfl,bF,gm,Dy,e,bF]
 ·simp at j z2 z3 z4 z5 m h b;subst j z3 z4 z5 m
  have e:=jQ (f:=yy) (g:=nx) p (fun x hx r=>by
   obtain⟨h1,h2⟩:=fv (by have:=b x.1 x.2.1 x.2.2 hx;simpa using this);obtain⟨z,_⟩:=iG (s:=x) (by have:=h.2 x.1 x.2.1 x.2.2 hx;simpa using this)
   exact wN x ⟨h1,by omega⟩ z (fun d B=>(v x hx d B).1) r) []
  rw[DV]at e;simp;rw[show((p.length:Int) :: p.flatMap nx)=[(p.length:Int)]++p.flatMap nx from rfl,dQ (k:=1) rfl,bF,gm,Dy,e,bF]
 ·simp at j z2 z3 z4 z5 m h b;subst j z2 z5 m;have hw:=bj.1 b.1;have G:=bj.1 b.2;simp;rw[dQ (k:=2) (a:=bB f) rfl,bF,fw (by omega) (by omega)];have e:=dQ (k:=2) (a:=bB c) rfl [];rw[DV]at e;rw[e,bF,fw (by omega) (by omega)]
 ·simp at j z2 z3 z4 z5 m h b;subst j z2 z4 m;have hw:=bj.1 h.1;have G:=bj.1 b;have q:∀x∈n,x.length=16:=fun x hx=>ep (by have:=h.2 x hx;simpa using this)
  have e:=u n q [];rw[DV]at e;simp;rw[dQ (k:=2) (a:=bB f) rfl,bF,fw (by omega) (by omega),dQ (k:=2) (a:=bB n.length) rfl,bF,fw (by omega) (by omega),Dy,e,bF]
 ·simp at j z2 z3 z4 z5 m h b;subst j z2 z3 z4 z5;simp;have e:=dQ (k:=1) (a:=[w]) rfl [];rw[DV]at e;rw[e,bF,gm]
theorem sf {l:BC} (h:aR l=0) (f:∀s∈l.shown,dd s.2.2):dE (bE l)=(0,l):=by
 obtain⟨b,c,i,g,j⟩:=fg h;obtain⟨a,d,_⟩:=dr c;have e:=uI b c i g f;unfold dE;rw[if_neg (by omega)];unfold bE;simp only;rw[if_neg (by rw[bj.2 b];simp)];unfold uH;rw[DH,dQ (og _),bF,dQ (og _),bF,mF a.1 a.2,mF d.1 d.2,e];simp only[wJ];rw[if_pos h]
abbrev bS:=Bool × List Int
def eh (n:Nat) (s:bS):List Int × bS:=if s.1=false/\n<=s.2.length then(s.2.take n,(false,s.2.drop n))else([],(true,s.2))
def aW (n:Nat) (s:bS):Int × bS:=(fR (eh n s).1,(eh n s).2)
def du {α :Type} (f:bS->List α × bS):Nat->bS->List α × bS
 | 0,s=>([],s)
 | n+1,s=>if s.1=true then([],s)else((f s).1++(du f n (f s).2).1,(du f n (f s).2).2)
def lH (s:bS):List (List Int) × bS:=([(eh 16 s).1],(eh 16 s).2)
def qe (s:bS):List Int × bS:=([(aW 2 s).1],(aW 2 s).2)
def kG (s:bS):List (List Int) × bS:=(if (eh 32 s).1=[]then []else [(eh 32 s).1],(eh 32 s).2)
def oq (s:bS):Sh × bS:=
 (((aW 2 s).1,(eh 16 (aW 2 s).2).1,(du kG (aW 1 (eh 16 (aW 2 s).2).2).1.toNat (aW 1 (eh 16 (aW 2 s).2).2).2).1),(du kG (aW 1 (eh 16 (aW 2 s).2).2).1.toNat (aW 1 (eh 16 (aW 2 s).2).2).2).2)
def qg (s:bS):List Sh × bS:=([(oq s).1],(oq s).2)
def nz (k i o:Int) (s:bS):BC × bS:=
 if k=6 then(⟨k,i,o,[],[],(aW 2 s).1,0,(du lH (aW 2 (aW 2 s).2).1.toNat (aW 2 (aW 2 s).2).2).1,0⟩,(du lH (aW 2 (aW 2 s).2).1.toNat (aW 2 (aW 2 s).2).2).2)
 else if k=1 then(⟨k,i,o,[],[],0,0,(du lH (aW 2 s).1.toNat (aW 2 s).2).1,0⟩,(du lH (aW 2 s).1.toNat (aW 2 s).2).2)
 else if k=3 then(⟨k,i,o,(du qe (aW 1 s).1.toNat (aW 1 s).2).1,[],0,0,[],0⟩,(du qe (aW 1 s).1.toNat (aW 1 s).2).2)
 else if k=4 then(⟨k,i,o,[],(du qg (aW 1 s).1.toNat (aW 1 s).2).1,0,0,[],0⟩,(du qg (aW 1 s).1.toNat (aW 1 s).2).2)
 else if k=5 then(⟨k,i,o,[],[],(aW 2 s).1,(aW 2 (aW 2 s).2).1,[],0⟩,(aW 2 (aW 2 s).2).2)
 else if k=7 then(⟨k,i,o,[],[],0,0,[],(aW 1 s).1⟩,(aW 1 s).2)
 else(⟨k,i,o,[],[],0,0,[],0⟩,s)
def Br {α :Type} (P:List Int->Option (α × List Int)) (T:bS-> α × bS):Prop:=
 (∀b,(T (true,b)).2.1=true)/\∀b,match P b with
  | some (x,r)=>T (false,b)=(x,(false,r))
  | none=>(T (false,b)).2.1=true
theorem Br.val {α :Type} {P:List Int->Option (α × List Int)} {T:bS-> α × bS} (h:Br P T) {b:List Int} {x: α} (e:P b=some (x,r)):T (false,b)=(x,(false,r)):=by
 have:=h.2 b;rw[e]at this;exact this
theorem Br.no {α :Type} {P:List Int->Option (α × List Int)} {T:bS-> α × bS} (h:Br P T) {b:List Int} (e:P b=none):(T (false,b)).2.1=true:=by
 have:=h.2 b;rw[e]at this;exact this
theorem Br.short {α :Type} {P:List Int->Option (α × List Int)} {T:bS-> α × bS} (h:Br P T) (s:bS) (c:s.1=true):(T s).2.1=true:=by
 obtain⟨a,b⟩:=s;have c:a=true:=c;subst c;exact h.1 b
theorem Br.tk (n:Nat):Br (kW n) (eh n):=by
 refine⟨fun b=>by unfold eh;simp,fun b=> ?_⟩;unfold kW eh;by_cases h:n<=b.length
 ·rw[if_pos h];simp[h]
 ·rw[if_neg h];simp[h]
theorem Br.nu (n:Nat):Br (kX n) (aW n):=by
 refine⟨fun b=>(Br.tk n).1 b,fun b=> ?_⟩;unfold kX aW;cases h:kW n b with
 | none=>exact(Br.tk n).no h
 | some y=>obtain⟨x,r⟩:=y;rw[bF];simp only[(Br.tk n).val h]
theorem Br.bind {α β :Type} {P:List Int->Option (α × List Int)} {T:bS-> α × bS} {F: α ->List Int->Option (β × List Int)} {G: α ->bS-> β × bS} (h:Br P T) (k:∀a,Br (F a) (G a)):Br (fun b=>gR (P b) F) (fun s=>G (T s).1 (T s).2):=by
 refine⟨fun b=>(k _).short _ (h.1 b),fun b=> ?_⟩;show match gR (P b) F with
  | some (x,r)=>G (T (false,b)).1 (T (false,b)).2=(x,(false,r))
  | none=>(G (T (false,b)).1 (T (false,b)).2).2.1=true
 cases e:P b with
 | none=>rw[lG];exact(k _).short _ (h.no e)
 | some y=>obtain⟨x,r⟩:=y;rw[bF,h.val e];exact(k x).2 r
theorem Br.ret {α :Type} (a: α):Br (fun b=>DJ (a,b)) (fun s=>(a,s)):=⟨fun _=>rfl,fun _=>rfl⟩
theorem Br.Cm {α :Type} {P:List Int->Option (α × List Int)} {T:bS->List α × bS} (h1:∀b,(T (true,b)).2.1=true) (h2:∀b x r,P b=some (x,r)->T (false,b)=([x],(false,r))) (c:∀b,P b=none->(T (false,b)).2.1=true):∀n,Br (l7 P n) (du T n)
 | 0=>⟨fun _=>rfl,fun _=>rfl⟩
 | n+1=>by
  have a:=Br.Cm h1 h2 c n;refine⟨fun b=>rfl,fun b=> ?_⟩;simp only[l7,du,E3,if_false];cases e:P b with
  | none=>rw[lG];exact a.short _ (c b e)
  | some y=>
   obtain⟨x,r⟩:=y;rw[bF,h2 b x r e];simp only;cases e2:l7 P n r with
   | none=>rw[lG];exact a.no e2
   | some z=>obtain⟨xs,d⟩:=z;rw[bF];simp only[a.val e2];rfl
theorem Br.one {α :Type} {P:List Int->Option (α × List Int)} {T:bS-> α × bS} (h:Br P T):∀n,Br (l7 P n) (du (fun s=>([(T s).1],(T s).2)) n):=
 Br.Cm (fun b=>h.1 b) (fun b x r e=>by simp only[h.val e]) (fun b e=>h.no e)
theorem Br.pa:∀n,Br (l7 (kW 32) n) (du kG n):=
 Br.Cm (fun b=>(Br.tk 32).1 b) (fun b x r e=>by
  have h:=(Br.tk 32).val e;have a:=(xS e).2;unfold kG;rw[h];simp only
  rw[if_neg (fun q=>by rw[q]at a;cases a)]) (fun b e=>(Br.tk 32).no e)
theorem Br.sh:Br yy oq:=(Br.nu 2).bind (F:=fun p r=>gR (kW 16 r) fun st r=>gR (kX 1 r) fun c r=>gR (l7 (kW 32) c.toNat r) fun ds r=>DJ ((p,st,ds),r)) (G:=fun p s=>((p,(eh 16 s).1,(du kG (aW 1 (eh 16 s).2).1.toNat (aW 1 (eh 16 s).2).2).1),(du kG (aW 1 (eh 16 s).2).1.toNat (aW 1 (eh 16 s).2).2).2)) fun p=>
 (Br.tk 16).bind (F:=fun st r=>gR (kX 1 r) fun c r=>gR (l7 (kW 32) c.toNat r) fun ds r=>DJ ((p,st,ds),r)) (G:=fun st s=>((p,st,(du kG (aW 1 s).1.toNat (aW 1 s).2).1),(du kG (aW 1 s).1.toNat (aW 1 s).2).2)) fun st=>
 (Br.nu 1).bind (F:=fun c r=>gR (l7 (kW 32) c.toNat r) fun ds r=>DJ ((p,st,ds),r)) (G:=fun c s=>((p,st,(du kG c.toNat s).1),(du kG c.toNat s).2)) fun c=>
 (Br.pa c.toNat).bind (F:=fun ds r=>DJ ((p,st,ds),r)) (G:=fun ds s=>((p,st,ds),s)) fun _=>Br.ret _
theorem Br.rs (k i o:Int):Br (pZ k i o) (nz k i o):=by
 unfold pZ nz;by_cases h:k=6
 ·simp only[if_pos h];exact(Br.nu 2).bind (F:=fun f r=>gR (kX 2 r) fun n r=>gR (l7 (kW 16) n.toNat r) fun a r=>DJ ((⟨k,i,o,[],[],f,0,a,0⟩:BC),r)) (G:=fun f s=>(⟨k,i,o,[],[],f,0,(du lH (aW 2 s).1.toNat (aW 2 s).2).1,0⟩,(du lH (aW 2 s).1.toNat (aW 2 s).2).2)) fun f=>
   (Br.nu 2).bind (F:=fun n r=>gR (l7 (kW 16) n.toNat r) fun a r=>DJ ((⟨k,i,o,[],[],f,0,a,0⟩:BC),r)) (G:=fun n s=>(⟨k,i,o,[],[],f,0,(du lH n.toNat s).1,0⟩,(du lH n.toNat s).2)) fun n=>
   ((Br.tk 16).one n.toNat).bind (F:=fun a r=>DJ ((⟨k,i,o,[],[],f,0,a,0⟩:BC),r)) (G:=fun a s=>(⟨k,i,o,[],[],f,0,a,0⟩,s)) fun _=>Br.ret _
 simp only[if_neg h];by_cases b:k=1
 ·simp only[if_pos b];exact(Br.nu 2).bind (F:=fun n r=>gR (l7 (kW 16) n.toNat r) fun a r=>DJ ((⟨k,i,o,[],[],0,0,a,0⟩:BC),r)) (G:=fun n s=>(⟨k,i,o,[],[],0,0,(du lH n.toNat s).1,0⟩,(du lH n.toNat s).2)) fun n=>((Br.tk 16).one n.toNat).bind (F:=fun a r=>DJ ((⟨k,i,o,[],[],0,0,a,0⟩:BC),r)) (G:=fun a s=>(⟨k,i,o,[],[],0,0,a,0⟩,s)) fun _=>Br.ret _
 simp only[if_neg b];by_cases d:k=3
 ·simp only[if_pos d];exact(Br.nu 1).bind (F:=fun n r=>gR (l7 (kX 2) n.toNat r) fun a r=>DJ ((⟨k,i,o,a,[],0,0,[],0⟩:BC),r)) (G:=fun n s=>(⟨k,i,o,(du qe n.toNat s).1,[],0,0,[],0⟩,(du qe n.toNat s).2)) fun n=>((Br.nu 2).one n.toNat).bind (F:=fun a r=>DJ ((⟨k,i,o,a,[],0,0,[],0⟩:BC),r)) (G:=fun a s=>(⟨k,i,o,a,[],0,0,[],0⟩,s)) fun _=>Br.ret _
 simp only[if_neg d];by_cases e:k=4
 ·simp only[if_pos e];exact(Br.nu 1).bind (F:=fun n r=>gR (l7 yy n.toNat r) fun a r=>DJ ((⟨k,i,o,[],a,0,0,[],0⟩:BC),r)) (G:=fun n s=>(⟨k,i,o,[],(du qg n.toNat s).1,0,0,[],0⟩,(du qg n.toNat s).2)) fun n=>(Br.sh.one n.toNat).bind (F:=fun a r=>DJ ((⟨k,i,o,[],a,0,0,[],0⟩:BC),r)) (G:=fun a s=>(⟨k,i,o,[],a,0,0,[],0⟩,s)) fun _=>Br.ret _
 simp only[if_neg e];by_cases g:k=5
 ·simp only[if_pos g];exact(Br.nu 2).bind (F:=fun f r=>gR (kX 2 r) fun c r=>DJ ((⟨k,i,o,[],[],f,c,[],0⟩:BC),r)) (G:=fun f s=>(⟨k,i,o,[],[],f,(aW 2 s).1,[],0⟩,(aW 2 s).2)) fun f=>(Br.nu 2).bind (F:=fun c r=>DJ ((⟨k,i,o,[],[],f,c,[],0⟩:BC),r)) (G:=fun c s=>(⟨k,i,o,[],[],f,c,[],0⟩,s)) fun _=>Br.ret _
 simp only[if_neg g];by_cases j:k=7
 ·simp only[if_pos j];exact(Br.nu 1).bind (F:=fun c r=>DJ ((⟨k,i,o,[],[],0,0,[],c⟩:BC),r)) (G:=fun c s=>(⟨k,i,o,[],[],0,0,[],c⟩,s)) fun _=>Br.ret _
 simp only[if_neg j];exact Br.ret _
theorem Br.Cz (k:Int):Br (uH k) (fun s=>nz k (aW 8 s).1 (aW 8 (aW 8 s).2).1 (aW 8 (aW 8 s).2).2):=
 (Br.nu 8).bind (F:=fun i r=>gR (kX 8 r) fun o r=>pZ k i o r) (G:=fun i s=>nz k i (aW 8 s).1 (aW 8 s).2) fun i=>
  (Br.nu 8).bind (F:=fun o r=>pZ k i o r) (G:=fun o s=>nz k i o s) fun o=>Br.rs k i o
def ou (x:BC × bS):Nat × BC:=if x.2.1=true then(2,dW)else if 0 < x.2.2.length then(4,dW)else if aR x.1=0 then(0,x.1)else(aR x.1,dW)
theorem wO (k:Int) (r:List Int):ou (nz k (aW 8 (false,r)).1 (aW 8 (aW 8 (false,r)).2).1 (aW 8 (aW 8 (false,r)).2).2)=wJ (uH k r):=by
 cases h:uH k r with
 | none=>have:=(Br.Cz k).no h;unfold ou;rw[if_pos this];rfl
 | some y=>
  obtain⟨l,q⟩:=y;have e:nz k (aW 8 (false,r)).1 (aW 8 (aW 8 (false,r)).2).1 (aW 8 (aW 8 (false,r)).2).2=(l,(false,q)):=(Br.Cz k).val h;rw[e];unfold ou wJ;simp only[E3,if_false];cases q with
  | nil=>simp
  | cons a t=>simp
theorem sg (k:Int) (r:List Int):aW 1 (false,k :: r)=(k,(false,r)):=by
 unfold aW eh;simp[gm]
theorem uJ:(aW 1 (false,[])).2.1=true:=by decide
theorem gS {n:Nat} {s:bS} (h:bI s.2):bI (eh n s).1/\bI (eh n s).2.2:=by
 unfold eh;split
 ·exact⟨h.take n,h.drop n⟩
 ·exact⟨bI.nil,h⟩
theorem qh {s:bS} (b:bI s.2):0<=(aW 1 s).1/\(aW 1 s).1<=255:=by
 unfold aW eh;split
 ·next h=>
  obtain⟨_,h2,a⟩:=wM (x:=s.2.take 1) (by rw[Da];omega) (b.take 1);exact⟨h2,a⟩
 ·show 0<=fR []/\fR []<=255;decide
theorem uK {s:bS} (b:bI s.2):0<=(aW 2 s).1/\(aW 2 s).1<=65535:=by
 unfold aW eh;split
 ·next h=>
  obtain⟨_,h2,a⟩:=wL (x:=s.2.take 2) (by rw[Da];omega) (b.take 2);exact⟨h2,a⟩
 ·show 0<=fR []/\fR []<=65535;decide
structure Kq (Q:Nat->Prop) (w w':CP):Prop where
 os:w'.os=w.os
 tape:w'.tape=w.tape
 output:w'.output=w.output
 size:w.heap.size<=w'.heap.size
 block:∀k,k < w.heap.size->¬Q k->w'.heap[k]? =w.heap[k]?
section
variable {Q Q':Nat->Prop} {a b c w w':CP}
theorem Kq.refl (w:CP):Kq Q w w:=⟨rfl,rfl,rfl,CU _,fun _ _ _=>rfl⟩
theorem Kq.trans (h:Kq Q a b) (k:Kq Q b c):Kq Q a c:=⟨k.os.trans h.os,k.tape.trans h.tape,k.output.trans h.output,Dk h.size k.size,fun i d e=>(k.block i (Nat.lt_of_lt_of_le d h.size) e).trans (h.block i d e)⟩
theorem Kq.drew (w:CP):Kq Q w w.drew:=⟨rfl,rfl,rfl,CU _,fun _ _ _=>rfl⟩
theorem Kq.AI (h:au w w'):Kq Q w w':=⟨h.os,h.tape,h.output,h.size,fun k a _=>h.block k a⟩
theorem Kq.mono (h:Kq Q w w') (c:∀k,k < w.heap.size->Q k->Q' k):Kq Q' w w':=⟨h.os,h.tape,h.output,h.size,fun k a b=>h.block k a fun q=>b (c k a q)⟩
theorem Kq.below (h:Kq Q w w') {B:Nat} (b:B<=w.heap.size) (a:∀k,Q k->B<=k):Below B w w':=⟨h.os,h.tape,h.output,h.size,fun k c=>h.block k (by omega) fun q=>by have:=a k q;omega⟩
theorem Kq.ext (h:Kq Q w w') (a:∀k,Q k->w.heap.size<=k):au w w':=h.below (CU _) a
theorem Kq.setCell (h:Kq Q w w') (p:Addr) (hp:Q p.block) (v:CQ):Kq Q w (w'.setCell p v):=
 ⟨h.os,h.tape,h.output,Dk h.size ((CT 0 w').setCell (C9 _) v).size,fun k b a=>(EC w' p v k (fun e=>a (e▸hp))).trans (h.block k b a)⟩
theorem Kq.setCells {g:Nat} (h:Kq Q w w') (c:Q g) (o:Nat) (vs:List CQ):Kq Q w (w'.setCells g o vs):=by
 have a:=aA vs g o w' (CT 0 w') (C9 _);exact⟨a.os.trans h.os,a.tape.trans h.tape,a.output.trans h.output,Dk h.size a.size,fun k d b=>(dO (g:=g) vs o w' (mK.refl g w') k (fun e=>b (e▸c))).trans (h.block k d b)⟩
theorem Kq.grown {row:Option Nat} (a:w.grownBy w' row) (d:∀k,row=some k->Q k):Kq Q w w':=⟨a.os,a.tape,a.output,a.size,fun k b c=>a.block k b fun q=>c (d k q.symm)⟩
theorem Kq.cell {k i:Nat} {v:CQ} (h:Kq Q w w') (b:¬Q k) (a:w.cell? ⟨k,i,none⟩=some v):w'.cell? ⟨k,i,none⟩=some v:=by
 rw[World.cell?_of_block (w:=w) (h.block k (World.block_lt_of_cell? _ _ a) b)];exact a
theorem Kq.box {X:Nat} {cs:List CQ} (h:Kq Q w w') (b:¬Q X) (a:aw w X cs):aw w' X cs:=a.same (h.block X a.lt b)
theorem Kq.BD {v:CQ} {n:Nat} {cs:List CQ} (h:Kq Q w w') (d:aX w v n cs) (b:∀k,v.ownBlock=some k->¬Q k):aX w' v n cs:=aX.kept d fun k a c=>h.block k c (b k a)
end
structure ch (w:CP) (X:Nat) (s:bS):Prop where
 ex:∃p c,aw w X [.slice p s.2.length c,.bool s.1]/\aY (fun k=>k < X) w (.slice p s.2.length c) s.2.length (aj .u8 s.2)/\s.2.length<=c/\c<=maxLen
 BJ:bI s.2
 le:s.2.length<=9000
theorem ch.lt {w:CP} {s:bS} (h:ch w X s):X < w.heap.size:=by
 obtain⟨p,c,h1,_⟩:=h.ex;exact h1.lt
theorem ch.kept {Q:Nat->Prop} {w w':CP} {s:bS} (h:ch w X s) (k:Kq Q w w') (d:∀i,i<=X->¬Q i):ch w' X s:=by
 obtain⟨p,c,h1,h2,e⟩:=h.ex;exact⟨⟨p,c,k.box (d X (CU _)) h1,h2.kept fun b a f=>⟨a,k.block b f (d b (Nat.le_of_lt a))⟩,e⟩,h.BJ,h.le⟩
theorem ch.ext {w w':CP} {s:bS} (h:ch w X s) (k:au w w'):ch w' X s:=h.kept (Q:=fun _=>False) (Kq.AI k) fun _ _ q=>q
structure jk (ic ib ia tc tb ta:Nat) (S0:CP->Prop) (S1 S2 S3:CQ->CP->Prop) (d:Nat->Bool) (u:Nat->CQ) (w:CP):Prop where
 a:d ic=false->S0 w
 b:d ic=true->d ib=false->S1 (u tc) w
 c:d ib=true->d ia=false->S2 (u tb) w
 d:d ia=true->S3 (u ta) w
section
variable {ic ib ia tc tb ta:Nat} {S0:CP->Prop} {S1 S2 S3:CQ->CP->Prop} {d:Nat->Bool} {u:Nat->CQ} {w w':CP}
theorem jk.start (h:S0 w):jk ic ib ia tc tb ta S0 S1 S2 S3 (fun _=>false) u w:=⟨fun _=>h,fun q=>(by cases q),fun q=>(by cases q),fun q=>(by cases q)⟩
theorem jk.same {i t:Nat} {v:CQ} (h:jk ic ib ia tc tb ta S0 S1 S2 S3 d u w) (g:(decide (i=ic)||decide (i=ib)||decide (i=ia)||decide (t=tc)||decide (t=tb)||decide (t=ta))=false):jk ic ib ia tc tb ta S0 S1 S2 S3 (bW d i) (bH (some t) u v) w:=by
 simp only[Eo,decide_eq_false_iff_not]at g;obtain⟨⟨⟨⟨⟨h1,h2⟩,m⟩,n⟩,o⟩,p⟩:=g;have f:bW d i ic=d ic:=if_neg (fun e=>h1 e.symm);have a2:bW d i ib=d ib:=if_neg (fun e=>h2 e.symm);have a3:bW d i ia=d ia:=if_neg (fun e=>m e.symm);have j:bH (some t) u v tc=u tc:=if_neg (fun e=>n e.symm);have k:bH (some t) u v tb=u tb:=if_neg (fun e=>o e.symm);have l:bH (some t) u v ta=u ta:=if_neg (fun e=>p e.symm);exact⟨by rw[f];exact h.a,by rw[f,a2,j];exact h.b,by rw[a2,a3,k];exact h.c,by rw[a3,l];exact h.d⟩
theorem jk.call {v:CQ} (a:(decide (ic=ib)||decide (ic=ia))=false) (g:d ib=false) (f:d ia=false) (h:S1 v w'):jk ic ib ia tc tb ta S0 S1 S2 S3 (bW d ic) (bH (some tc) u v) w':=by
 simp only[Eo,decide_eq_false_iff_not]at a;have b:bW d ic ic=true:=if_pos rfl;have a2:bW d ic ib=d ib:=if_neg (fun e=>a.1 e.symm);have a3:bW d ic ia=d ia:=if_neg (fun e=>a.2 e.symm);have c:bH (some tc) u v tc=v:=if_pos rfl;exact⟨fun q=>(by rw[b]at q;cases q),fun _ _=>by rw[c];exact h,fun q=>(by rw[a2,g]at q;cases q),fun q=>(by rw[a3,f]at q;cases q)⟩
theorem jk.BS {v:CQ} (a:(decide (ic=ib)||decide (ib=ia))=false) (g:d ic=true) (f:d ia=false) (h:S2 v w'):jk ic ib ia tc tb ta S0 S1 S2 S3 (bW d ib) (bH (some tb) u v) w':=by
 simp only[Eo,decide_eq_false_iff_not]at a;have b:bW d ib ib=true:=if_pos rfl;have a2:bW d ib ic=d ic:=if_neg a.1;have a3:bW d ib ia=d ia:=if_neg (fun e=>a.2 e.symm);have c:bH (some tb) u v tb=v:=if_pos rfl;exact⟨fun q=>(by rw[a2,g]at q;cases q),fun _ q=>(by rw[b]at q;cases q),fun _ _=>by rw[c];exact h,fun q=>(by rw[a3,f]at q;cases q)⟩
theorem jk.app {v:CQ} (a:(decide (ic=ia)||decide (ib=ia))=false) (f:d ic=true) (e:d ib=true) (h:S3 v w'):jk ic ib ia tc tb ta S0 S1 S2 S3 (bW d ia) (bH (some ta) u v) w':=by
 simp only[Eo,decide_eq_false_iff_not]at a;have b:bW d ia ia=true:=if_pos rfl;have a2:bW d ia ic=d ic:=if_neg a.1;have a3:bW d ia ib=d ib:=if_neg a.2;have c:bH (some ta) u v ta=v:=if_pos rfl;exact⟨fun q=>(by rw[a2,f]at q;cases q),fun _ q=>(by rw[a3,e]at q;cases q),fun _ q=>(by rw[b]at q;cases q),fun _=>by rw[c];exact h⟩
end
theorem si (cells:Array CQ) (v:CQ) (n:Nat) (a:cells.size=n) (b:v.cells.size=n):Instr.fill (fun i=>some (i*n,n)) cells [(0,v)]=some v.cells:=by
 have h:=nS cells v.cells n a b;simp only[Instr.fill,Value.cells]at h⊢;exact h
section
variable {P:Program} {R:CP->CP->Prop} {w:CP} {ev:Nat->CQ} {φ :CQ->CP->Prop} {d:Option Tmp} {tt t e:TypeId} {z:CQ} {bytes n:Nat} {pp:String} {af:Array Edge} {g:Option (Nat × Bool)} {x:Operand}
theorem dx (a:kv P t e z n bytes) (m:n<=1000) {v:CQ} (hx:bh ev x=v) (f:v.cells.size=n) (k:R w (w.alloc (.cells v.cells e))/\ φ (.slice (some ⟨w.heap.size,0,none⟩) 1 1) (w.alloc (.cells v.cells e))):
  eo R P w φ ((execOp (bh ev) ⟨d,.buildSlice t 1 #[(0,x)],tt,pp,af,g⟩).run P w):=by
 obtain⟨i,c,j,b,l⟩:=info_parts a.info;have hp:=a.pos;have h:(Instr.buildSlice t 1 #[(0,v)]).run P w=.ok (.slice (some ⟨w.heap.size,0,none⟩) 1 1) (w.alloc (.cells v.cells e)):=by refine run_buildSlice w t e 1 #[(0,v)] v.cells i z a.ht c j (by rw[b];omega) (by rw[b];omega) ?_;rw[b];exact si _ v n (by simp) f
 unfold execOp;simp only[hx,List.map_toArray,List.map_cons,List.map_nil,Sem.run_bind,Sem.run_pure,h,Result.andThen_ok];exact k
end
structure GP {α :Type} (f: α ->List CQ) (s:Nat) (Ok:(Nat->Prop)->CP-> α ->Prop) (B:Nat) (w:CP) (X fi:Nat) (cs:List CQ) (v:CQ) (M:List α):Prop where
 box:aw w X cs
 BQ:cs[fi]? =some v
 own:Pk w B s v M.length (aD f M)
 ok:∀x∈M,Ok (fun b=>b≠X/\v.ownBlock≠some b/\B<=b) w x
 ne:v.ownBlock≠some X
section
variable {α :Type} {f: α ->List CQ} {s:Nat} {Ok:(Nat->Prop)->CP-> α ->Prop} {B:Nat} {w w1 w2:CP} {X fi:Nat} {cs:List CQ} {v v':CQ} {M:List α} {y: α} {Q:Nat->Prop}
theorem GP.kept (d:gN Ok) (h:GP f s Ok B w X fi cs v M) (k:Kq Q w w1) (e:¬Q X) (c:∀b,B<=b->¬Q b):GP f s Ok B w1 X fi cs v M:=
 ⟨k.box e h.box,h.BQ,h.own.kept (fun b a=>k.block b (h.own.block b a).2 (c b (h.own.block b a).1)) k.size,fun x hx=>d _ _ _ _ _ (h.ok x hx) fun b a g=>⟨a,k.block b g (c b a.2.2)⟩,h.ne⟩
theorem GP.ext (b:gN Ok) (h:GP f s Ok B w X fi cs v M) (a:au w w1):GP f s Ok B w1 X fi cs v M:=h.kept (Q:=fun _=>False) b (Kq.AI a) (fun q=>q) (fun _ _ q=>q)
theorem GP.start (a:aw w X cs) (b:cs[fi]? =some (.slice none 0 0)):GP f s Ok B w X fi cs (.slice none 0 0) []:=
 ⟨a,b,Pk.nil _ _ _,fun x hx=>(by cases hx),fun q=>(by cases q)⟩
theorem GP.lt (h:GP f s Ok B w X fi cs v M):fi < cs.length:=(List.getElem?_eq_some_iff.1 h.BQ).1
theorem GP.cell (h:GP f s Ok B w X fi cs v M):w.cell? ⟨X,fi,none⟩=some v:=h.box.cell h.BQ
theorem GP.BP (h:GP f s Ok B w1 X fi cs v M) (a:w1.grownBy w2 v.ownBlock):aw w2 X cs:=h.box.grown a (fun q=>h.ne q)
theorem GP.form (h:GP f s Ok B w X fi cs v M):∃p c,v=.slice p M.length c:=by
 obtain⟨p,c,h1,_⟩:=h.own.BD.form;exact⟨p,c,h1⟩
theorem GP.push (d:gN Ok) (h:GP f s Ok B w1 X fi cs v M) (n:Pk w2 B s v' (M.length+1) (aD f M++f y)) (e:w1.grownBy w2 v.ownBlock) (i:∀k,v'.ownBlock=some k->v.ownBlock=some k\/w1.heap.size<=k) (hy:Ok (fun b=>b≠X/\v.ownBlock≠some b/\B<=b) w1 y):
  GP f s Ok B (w2.setCell ⟨X,fi,none⟩ v') X fi (cs.set fi v') v' (M++[y]):=by
 have l:v'.ownBlock≠some X:=fun q=>by
  rcases i X q with z | z
  ·exact h.ne z
  ·have:=h.box.lt;omega
 have g:∀j,j≠X->(w2.setCell ⟨X,fi,none⟩ v').heap[j]? =w2.heap[j]? :=fun j c=>EC w2 ⟨X,fi,none⟩ _ j c
 have o:w2.heap.size<=(w2.setCell ⟨X,fi,none⟩ v').heap.size:=((CT 0 w2).setCell (C9 _) _).size;refine⟨(h.BP e).put h.lt v',by rw[List.getElem?_set_self h.lt],?_,fun x hx=> ?_,l⟩
 ·rw[C7,List.length_singleton,dB,gL];exact n.kept (fun j c=>g j (fun q=>l (by rw[c,q]))) o
 ·have key:∀b,(b≠X/\v.ownBlock≠some b/\B<=b)->b < w1.heap.size->(b≠X/\v'.ownBlock≠some b/\B<=b)/\(w2.setCell ⟨X,fi,none⟩ v').heap[b]? =w1.heap[b]? :=fun b a m=>by
   refine⟨⟨a.1,fun q=> ?_,a.2.2⟩,?_⟩
   ·rcases i b q with z | z
    ·exact a.2.1 z
    ·omega
   ·rw[g b a.1];exact e.block b m (fun q=>a.2.1 q.symm)
  rcases List.mem_append.1 hx with hx | hx
  ·exact d _ _ _ _ _ (h.ok x hx) key
  ·obtain rfl:x=y:=by simpa using hx
   exact d _ _ _ _ _ hy key
end
section
variable {α :Type} (f: α ->List CQ) (s:Nat) (Ok:(Nat->Prop)->CP-> α ->Prop) (B X Y fi:Nat) (cs:List CQ) (vr:CQ) (M:List α) (Pr: α ->Prop) (sa sb:bS)
def C0 (w:CP):Prop:=ch w X sa/\GP f s Ok B w Y fi cs vr M/\B<=w.heap.size
def C1 (v:CQ) (w:CP):Prop:=∃y,Pr y/\v.cells=(f y).toArray/\(f y).length=s/\(∀c∈f y,c.oneCell'=true)/\Ok (fun b=>b≠Y/\vr.ownBlock≠some b/\B<=b) w y/\ch w X sb/\GP f s Ok B w Y fi cs vr M/\B<=w.heap.size
def C2 (v:CQ) (w:CP):Prop:=∃y g,v=.slice (some ⟨g,0,none⟩) 1 1/\w.rangeAt g 0 (f y)/\Pr y/\(f y).length=s/\(∀c∈f y,c.oneCell'=true)/\Ok (fun b=>b≠Y/\vr.ownBlock≠some b/\B<=b) w y/\ch w X sb/\GP f s Ok B w Y fi cs vr M/\B<=w.heap.size
def C3 (v:CQ) (w:CP):Prop:=∃y p c,v=.slice p (M.length+1) c/\Pr y/\w.cell? ⟨Y,fi,none⟩=some vr/\w.frozen? ⟨Y,fi,none⟩=false/\GP f s Ok B (w.setCell ⟨Y,fi,none⟩ v) Y fi (cs.set fi v) v (M++[y])/\ch (w.setCell ⟨Y,fi,none⟩ v) X sb
end
section
variable {α :Type} {f: α ->List CQ} {s:Nat} {Ok:(Nat->Prop)->CP-> α ->Prop} {B X Y fi:Nat} {cs:List CQ} {vr:CQ} {M:List α} {Pr: α ->Prop} {sa sb:bS} {w w':CP}
theorem C0.c1 (d:gN Ok) (h:C0 f s Ok B X Y fi cs vr M sa w) {v:CQ} {y: α} {Q:Nat->Prop} (a:Kq Q w w') (i:¬Q Y) (e:∀b,B<=b->¬Q b) (g:ch w' X sb) (hp:Pr y) (l:v.cells=(f y).toArray) (j:(f y).length=s) (h1:∀c∈f y,c.oneCell'=true) (k:Ok (fun b=>w.heap.size<=b) w' y):C1 f s Ok B X Y fi cs vr M Pr sb v w':=
 ⟨y,hp,l,j,h1,d _ _ _ _ _ k fun b m _=>⟨⟨fun q=>by have:=h.2.1.box.lt;omega,fun q=>by have:=(h.2.1.own.block b q).2;omega,by have:=h.2.2;omega⟩,rfl⟩,g,h.2.1.kept d a i e,Dk h.2.2 a.size⟩
theorem C1.c2 (c:gN Ok) {v:CQ} (h:C1 f s Ok B X Y fi cs vr M Pr sb v w) (e:TypeId):C2 f s Ok B X Y fi cs vr M Pr sb (.slice (some ⟨w.heap.size,0,none⟩) 1 1) (w.alloc (.cells v.cells e)):=by
 obtain⟨y,h1,h2,d,g,i,k,l,m⟩:=h;have a:=ae w (.cells v.cells e);refine⟨y,w.heap.size,rfl,fun j u hu=> ?_,h1,d,g,c _ _ _ _ _ i fun b n o=>⟨n,a.block b o⟩,k.ext a,l.ext c a,Dk m a.size⟩;rw[Nat.zero_add,World.cell?_alloc_new,h2];simpa using hu
theorem C1.size {v:CQ} (h:C1 f s Ok B X Y fi cs vr M Pr sb v w):v.cells.size=s:=by
 obtain⟨y,_,h2,a,_⟩:=h;rw[h2];simpa using a
theorem C2.c3 (r:gN Ok) (u:X < B) (v:X < Y) {e:CQ} {y: α} (o:ch w X sb) (a:GP f s Ok B w Y fi cs vr M) (hp:Pr y) (n:Ok (fun b=>b≠Y/\vr.ownBlock≠some b/\B<=b) w y) (h2:Pk w' B s e (M.length+1) (aD f M++f y)) (g:w.grownBy w' vr.ownBlock) (m:∀j,e.ownBlock=some j->vr.ownBlock=some j\/w.heap.size<=j):Kq (fun k=>k=X\/B<=k) w w'/\C3 f s Ok B X Y fi cs vr M Pr sb e w':=by
 have h:Kq (fun k=>B<=k) w w':=Kq.grown g fun k d=>(a.own.block k d).1
 obtain⟨p,c,t,_⟩:=h2.BD.form;have l:=a.BP g;refine⟨h.mono fun k _ d=>.inr d,y,p,c,t,hp,l.cell a.BQ,l.fz a.lt,a.push r h2 g m n,?_⟩;exact o.kept (Q:=fun k=>B<=k\/k=Y) ((h.mono fun k _ d=>.inl d).setCell ⟨Y,fi,none⟩ (.inr rfl) e) fun i x q=>by
  rcases q with q | q
  ·omega
  ·omega
end
section
variable {P:Program} {R:CP->CP->Prop} {α :Type} {f: α ->List CQ} {s:Nat} {Ok:(Nat->Prop)->CP-> α ->Prop} {B X Y fi:Nat} {cs:List CQ} {vr:CQ} {M:List α} {Pr: α ->Prop} {sb:bS} {w:CP} {ev:Nat->CQ} {φ :CQ->CP->Prop} {d:Option Tmp} {tt t e:TypeId} {z:CQ} {bytes n:Nat} {pp:String} {af:Array Edge} {g:Option (Nat × Bool)} {x y:Operand}
theorem jR (q:kv P t e z s bytes) (p:gN Ok) (r:X < B) (u:X < Y) {v2:CQ} (A:C2 f s Ok B X Y fi cs vr M Pr sb v2 w) (hy:bh ev y=v2) (hx:bh ev x=vr) (hlen:M.length+1<=maxLen) (v:(M.length+1)*bytes<=140737488355328)
  (C:∀c w',Kq (fun k=>k=X\/B<=k) w w'->C3 f s Ok B X Y fi cs vr M Pr sb c w'->R w w'/\ φ c w'):
  eo R P w φ ((execOp (bh ev) ⟨d,.call {callee:=.builtin .append,args:=#[x,y],argTypes:=#[t,t]},tt,pp,af,g⟩).run P w):=by
 obtain⟨a,b,h1,h2,i,j,l,m,n,h,o⟩:=A;refine eY q h.own h2 (by rw[j,Nat.one_mul]) l (by decide) hlen v o hx (hy.trans h1) fun c w' F G H=> ?_
 obtain⟨D,E⟩:=C2.c3 p r u n h i m F G H;exact C c w' D E
end
theorem uL {v:CQ} {w:CP} (h:dD w v l):v.cells=(cB (v,l)).toArray:=by
 obtain⟨p,c,rfl,_⟩:=h;rfl
theorem xT {v:CQ} {w:CP} (h:dD w v l):∀c∈cB (v,l),c.oneCell'=true:=fun c a=>by
 obtain⟨p,b,rfl,_⟩:=h;unfold cB at a;rw[EV]at a;subst a;rfl
theorem xU (x:Int):∀c∈cI x,c.oneCell'=true:=fun c a=>by
 unfold cI at a;rw[EV]at a;subst a;rfl
def kY (I:Nat->bS->CP->Prop) (n:Nat) (w:CP):Prop:=∃k s,k<=n/\I k s w/\(k=n\/s.1=true)
theorem jS {α :Type} (f:bS->List α × bS) (n:Nat) (s:bS) (h:s.1=true):du f n s=([],s):=by
 cases n with
 | zero=>rfl
 | succ n=>simp[du,h]
theorem jT {α :Type} (f:bS->List α × bS) (n k:Nat) (s:bS) (a:k < n) (h:s.1=false):du f (n - k) s=((f s).1++(du f (n - (k+1)) (f s).2).1,(du f (n - (k+1)) (f s).2).2):=by
 rw[show n - k=(n - (k+1))+1 by omega];simp[du,h]
end Go.Proofs.Bl
