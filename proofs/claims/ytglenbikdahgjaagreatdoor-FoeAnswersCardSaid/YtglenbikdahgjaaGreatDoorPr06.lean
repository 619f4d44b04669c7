/- Texts that stood apart, in one: LetQ, LetU, BldV, GrowK. -/
import Derived.Test.YtglenbikdahgjaaGreatDoorPr05
set_option maxRecDepth 100000
set_option maxHeartbeats 16000000
open Bool renaming false_eq_true->Fh,or_eq_false_iff->Et
open Go renaming Value->DG,World->DF
open Go.RowKit.Below renaming heap_setCell->Ff,refl->DI
open List renaming length_take->DX,mem_singleton->F4
open Nat renaming le_refl->DH,le_trans->D0,zero_le->DZ
open Option renaming some->Ex
namespace Go.Proofs.Bl
open Go Go.RowKit Go.Proofs
variable {x r l:List Int} {X:Nat}
def jY (k:Nat) (b:List Int):Option (List Int × List Int):=if k<=b.length then some (b.take k,b.drop k)else none
def eR {α β :Type} (x:Option (α × List Int)) (f: α ->List Int->Option β):Option β :=match x with
 | none=>none
 | some (a,r)=>f a r
theorem iM {α β :Type} (a: α) (r:List Int) (f: α ->List Int->Option β):eR (some (a,r)) f=f a r:=rfl
theorem lW {α β :Type} (f: α ->List Int->Option β):eR (none:Option (α × List Int)) f=none:=rfl
def kQ (n:Int) (l:List Int):Int:=l.foldl (fun n c=>min n 2199023255552*256+c) n
def eS (l:List Int):Int:=kQ 0 l
def jZ (k:Nat) (b:List Int):Option (Int × List Int):=eR (jY k b) fun x r=>some (eS x,r)
def kc {α :Type} (f:List Int->Option (α × List Int)):Nat->List Int->Option (List α × List Int)
 | 0,b=>some ([],b)
 | n+1,b=>eR (f b) fun x r=>eR (kc f n r) fun xs r'=>some (x :: xs,r')
def As (b:List Int):Option (Sh × List Int):=eR (jZ 2 b) fun p r=>eR (jY 16 r) fun st r=>eR (jZ 1 r) fun c r=>eR (kc (jY 32) c.toNat r) fun ds r=>some ((p,st,ds),r)
def ou (k i o:Int) (b:List Int):Option (Cp × List Int):=
 if k=6 then eR (jZ 2 b) fun f r=>eR (jZ 2 r) fun n r=>eR (kc (jY 16) n.toNat r) fun bs r=>some (⟨k,i,o,[],[],f,0,bs,0⟩,r)
 else if k=1 then eR (jZ 2 b) fun n r=>eR (kc (jY 16) n.toNat r) fun bs r=>some (⟨k,i,o,[],[],0,0,bs,0⟩,r)
 else if k=3 then eR (jZ 1 b) fun n r=>eR (kc (jZ 2) n.toNat r) fun ps r=>some (⟨k,i,o,ps,[],0,0,[],0⟩,r)
 else if k=4 then eR (jZ 1 b) fun n r=>eR (kc As n.toNat r) fun ss r=>some (⟨k,i,o,[],ss,0,0,[],0⟩,r)
 else if k=5 then eR (jZ 2 b) fun f r=>eR (jZ 2 r) fun c r=>some (⟨k,i,o,[],[],f,c,[],0⟩,r)
 else if k=7 then eR (jZ 1 b) fun c r=>some (⟨k,i,o,[],[],0,0,[],c⟩,r)
 else some (⟨k,i,o,[],[],0,0,[],0⟩,b)
def pB (k:Int) (b:List Int):Option (Cp × List Int):=eR (jZ 8 b) fun i r=>eR (jZ 8 r) fun o r=>ou k i o r
def tN (x:Option (Cp × List Int)):Nat × Cp:=match x with
 | none=>(2,dI)
 | some (l,[])=>if aW l=0 then(0,l)else(aW l,dI)
 | some (_,_ :: _)=>(4,dI)
def dM (b:List Int):Nat × Cp:=
 if 8000 < b.length then(3,dI)else match b with
 | []=>(2,dI)
 | k :: r=>if wi k 1 7=false then(7,dI)else tN (pB k r)
theorem y5 {k:Nat} {b:List Int} (h:jY k b=some (x,r)):b=x++r/\x.length=k:=by
 unfold jY at h;split at h
 ·injection h with h;injection h with h1 h2;subst h1 h2;exact⟨(List.take_append_drop k b).symm,by rw[DX];omega⟩
 ·cases h
theorem pC (c:Int):eS [c]=c:=by
 show min 0 2199023255552*256+c=c;omega
theorem At:∀(r:List Int),r.length=2->∃Co a,r=[Co,a]:=by
 intro r h
 match r,h with
 | [Co,a],_=>exact⟨Co,a,rfl⟩
theorem Au:∀(r:List Int),r.length=1->∃Co,r=[Co]:=by
 intro r h
 match r,h with
 | [Co],_=>exact⟨Co,rfl⟩
theorem sJ (d:x.length=2) (c:bA x):bN (eS x)=x/\0<=eS x/\eS x<=65535:=by
 obtain⟨a,b,rfl⟩:=At x d;have h1:=c a (by simp);have h2:=c b (by simp);have e:eS [a,b]=a*256+b:=by show min (min 0 2199023255552*256+a) 2199023255552*256+b=a*256+b;omega
 rw[e];unfold bN;refine⟨?_,by omega,by omega⟩;rw[show(a*256+b) / 256 % 256=a by omega,show(a*256+b) % 256=b by omega]
theorem sK (c:x.length=1) (b:bA x): [eS x]=x/\0<=eS x/\eS x<=255:=by
 obtain⟨a,rfl⟩:=Au x c;have h1:=b a (by simp);rw[pC];exact⟨rfl,h1.1,h1.2⟩
def cT:Int->List Int->Int
 | n,[]=>n
 | n,c :: r=>if 2199023255552 < n then -1 else cT (n*256+c) r
theorem nD:∀(l:List Int) (n:Int),2199023255552<=n->bA l->2199023255552<=kQ n l
 | [],_,h,_=>h
 | c :: r,n,h,hb=>by
  have a:=hb c (by simp);exact nD r (min n 2199023255552*256+c) (by omega) (fun x hx=>hb x (by simp[hx]))
theorem ov:∀(l:List Int) (n:Int),0<=n->bA l->cT n l=kQ n l\/(cT n l= -1/\1099511627776 < kQ n l)
 | [],_,_,_=>.inl rfl
 | c :: r,n,h,hb=>by
  have d:=hb c (by simp);have b:bA r:=fun x hx=>hb x (by simp[hx])
  unfold cT;by_cases a:2199023255552 < n
  ·rw[if_pos a];refine .inr ⟨rfl,?_⟩;have:=nD r (min n 2199023255552*256+c) (by omega) b;show 1099511627776 < kQ (min n 2199023255552*256+c) r;omega
  ·rw[if_neg a];have e:n*256+c=min n 2199023255552*256+c:=by omega
   have:=ov r (n*256+c) (by omega) b;show _=kQ (min n 2199023255552*256+c) r\/(_/\_ < kQ (min n 2199023255552*256+c) r);rw[<-e];exact this
theorem iY {l:Cp} (h:aW l=0):(1<=l.kind/\l.kind<=7)/\bn l=true/\bH l=true/\eA l=true/\(bL l).length<=8000:=by
 unfold aW at h;by_cases h1:wi l.kind 1 7=false
 ·rw[if_pos h1]at h;cases h
 rw[if_neg h1]at h;by_cases h2:bn l=false
 ·rw[if_pos h2]at h;cases h
 rw[if_neg h2]at h;by_cases a:bH l=false
 ·rw[if_pos a]at h;cases h
 rw[if_neg a]at h;by_cases b:eA l=false
 ·rw[if_pos b]at h;cases h
 rw[if_neg b]at h;by_cases c:8000 < (bL l).length
 ·rw[if_pos c]at h;cases h
 exact⟨bJ.1 (by simpa using h1),by simpa using h2,by simpa using a,by simpa using b,by omega⟩
abbrev bB:=Bool × List Int
def eh (n:Nat) (s:bB):List Int × bB:=if s.1=false/\n<=s.2.length then(s.2.take n,(false,s.2.drop n))else([],(true,s.2))
def bj (n:Nat) (s:bB):Int × bB:=(eS (eh n s).1,(eh n s).2)
def bI {α :Type} (f:bB->List α × bB):Nat->bB->List α × bB
 | 0,s=>([],s)
 | n+1,s=>if s.1=true then([],s)else((f s).1++(bI f n (f s).2).1,(bI f n (f s).2).2)
def lX (s:bB):List (List Int) × bB:=([(eh 16 s).1],(eh 16 s).2)
def rf (s:bB):List Int × bB:=([(bj 2 s).1],(bj 2 s).2)
def kR (s:bB):List (List Int) × bB:=(if (eh 32 s).1=[]then []else [(eh 32 s).1],(eh 32 s).2)
def pD (s:bB):Sh × bB:=
 (((bj 2 s).1,(eh 16 (bj 2 s).2).1,(bI kR (bj 1 (eh 16 (bj 2 s).2).2).1.toNat (bj 1 (eh 16 (bj 2 s).2).2).2).1),(bI kR (bj 1 (eh 16 (bj 2 s).2).2).1.toNat (bj 1 (eh 16 (bj 2 s).2).2).2).2)
def rh (s:bB):List Sh × bB:=([(pD s).1],(pD s).2)
def ow (k i o:Int) (s:bB):Cp × bB:=
 if k=6 then(⟨k,i,o,[],[],(bj 2 s).1,0,(bI lX (bj 2 (bj 2 s).2).1.toNat (bj 2 (bj 2 s).2).2).1,0⟩,(bI lX (bj 2 (bj 2 s).2).1.toNat (bj 2 (bj 2 s).2).2).2)
 else if k=1 then(⟨k,i,o,[],[],0,0,(bI lX (bj 2 s).1.toNat (bj 2 s).2).1,0⟩,(bI lX (bj 2 s).1.toNat (bj 2 s).2).2)
 else if k=3 then(⟨k,i,o,(bI rf (bj 1 s).1.toNat (bj 1 s).2).1,[],0,0,[],0⟩,(bI rf (bj 1 s).1.toNat (bj 1 s).2).2)
 else if k=4 then(⟨k,i,o,[],(bI rh (bj 1 s).1.toNat (bj 1 s).2).1,0,0,[],0⟩,(bI rh (bj 1 s).1.toNat (bj 1 s).2).2)
 else if k=5 then(⟨k,i,o,[],[],(bj 2 s).1,(bj 2 (bj 2 s).2).1,[],0⟩,(bj 2 (bj 2 s).2).2)
 else if k=7 then(⟨k,i,o,[],[],0,0,[],(bj 1 s).1⟩,(bj 1 s).2)
 else(⟨k,i,o,[],[],0,0,[],0⟩,s)
def Br {α :Type} (P:List Int->Option (α × List Int)) (T:bB-> α × bB):Prop:=
 (∀b,(T (true,b)).2.1=true)/\∀b,match P b with
  | some (x,r)=>T (false,b)=(x,(false,r))
  | none=>(T (false,b)).2.1=true
theorem Br.val {α :Type} {P:List Int->Option (α × List Int)} {T:bB-> α × bB} (h:Br P T) {b:List Int} {x: α} (e:P b=some (x,r)):T (false,b)=(x,(false,r)):=by
 have:=h.2 b;rw[e]at this;exact this
theorem Br.no {α :Type} {P:List Int->Option (α × List Int)} {T:bB-> α × bB} (h:Br P T) {b:List Int} (e:P b=none):(T (false,b)).2.1=true:=by
 have:=h.2 b;rw[e]at this;exact this
theorem Br.short {α :Type} {P:List Int->Option (α × List Int)} {T:bB-> α × bB} (h:Br P T) (s:bB) (c:s.1=true):(T s).2.1=true:=by
 obtain⟨a,b⟩:=s;have c:a=true:=c;subst c;exact h.1 b
theorem Br.tk (n:Nat):Br (jY n) (eh n):=by
 refine⟨fun b=>by unfold eh;simp,fun b=> ?_⟩;unfold jY eh;by_cases h:n<=b.length
 ·rw[if_pos h];simp[h]
 ·rw[if_neg h];simp[h]
theorem Br.nu (n:Nat):Br (jZ n) (bj n):=by
 refine⟨fun b=>(Br.tk n).1 b,fun b=> ?_⟩;unfold jZ bj;cases h:jY n b with
 | none=>exact(Br.tk n).no h
 | some y=>obtain⟨x,r⟩:=y;rw[iM];simp only[(Br.tk n).val h]
theorem Br.bind {α β :Type} {P:List Int->Option (α × List Int)} {T:bB-> α × bB} {F: α ->List Int->Option (β × List Int)} {G: α ->bB-> β × bB} (h:Br P T) (k:∀a,Br (F a) (G a)):Br (fun b=>eR (P b) F) (fun s=>G (T s).1 (T s).2):=by
 refine⟨fun b=>(k _).short _ (h.1 b),fun b=> ?_⟩;show match eR (P b) F with
  | some (x,r)=>G (T (false,b)).1 (T (false,b)).2=(x,(false,r))
  | none=>(G (T (false,b)).1 (T (false,b)).2).2.1=true
 cases e:P b with
 | none=>rw[lW];exact(k _).short _ (h.no e)
 | some y=>obtain⟨x,r⟩:=y;rw[iM,h.val e];exact(k x).2 r
theorem Br.ret {α :Type} (a: α):Br (fun b=>Ex (a,b)) (fun s=>(a,s)):=⟨fun _=>rfl,fun _=>rfl⟩
theorem Br.CZ {α :Type} {P:List Int->Option (α × List Int)} {T:bB->List α × bB} (h1:∀b,(T (true,b)).2.1=true) (h2:∀b x r,P b=some (x,r)->T (false,b)=([x],(false,r))) (c:∀b,P b=none->(T (false,b)).2.1=true):∀n,Br (kc P n) (bI T n)
 | 0=>⟨fun _=>rfl,fun _=>rfl⟩
 | n+1=>by
  have a:=Br.CZ h1 h2 c n;refine⟨fun b=>rfl,fun b=> ?_⟩;simp only[kc,bI,Fh,if_false];cases e:P b with
  | none=>rw[lW];exact a.short _ (c b e)
  | some y=>
   obtain⟨x,r⟩:=y;rw[iM,h2 b x r e];simp only;cases e2:kc P n r with
   | none=>rw[lW];exact a.no e2
   | some z=>obtain⟨xs,d⟩:=z;rw[iM];simp only[a.val e2];rfl
theorem Br.one {α :Type} {P:List Int->Option (α × List Int)} {T:bB-> α × bB} (h:Br P T):∀n,Br (kc P n) (bI (fun s=>([(T s).1],(T s).2)) n):=
 Br.CZ (fun b=>h.1 b) (fun b x r e=>by simp only[h.val e]) (fun b e=>h.no e)
theorem Br.pa:∀n,Br (kc (jY 32) n) (bI kR n):=
 Br.CZ (fun b=>(Br.tk 32).1 b) (fun b x r e=>by
  have h:=(Br.tk 32).val e;have a:=(y5 e).2;unfold kR;rw[h];simp only
  rw[if_neg (fun q=>by rw[q]at a;cases a)]) (fun b e=>(Br.tk 32).no e)
theorem Br.sh:Br As pD:=(Br.nu 2).bind (F:=fun p r=>eR (jY 16 r) fun st r=>eR (jZ 1 r) fun c r=>eR (kc (jY 32) c.toNat r) fun ds r=>Ex ((p,st,ds),r)) (G:=fun p s=>((p,(eh 16 s).1,(bI kR (bj 1 (eh 16 s).2).1.toNat (bj 1 (eh 16 s).2).2).1),(bI kR (bj 1 (eh 16 s).2).1.toNat (bj 1 (eh 16 s).2).2).2)) fun p=>
 (Br.tk 16).bind (F:=fun st r=>eR (jZ 1 r) fun c r=>eR (kc (jY 32) c.toNat r) fun ds r=>Ex ((p,st,ds),r)) (G:=fun st s=>((p,st,(bI kR (bj 1 s).1.toNat (bj 1 s).2).1),(bI kR (bj 1 s).1.toNat (bj 1 s).2).2)) fun st=>
 (Br.nu 1).bind (F:=fun c r=>eR (kc (jY 32) c.toNat r) fun ds r=>Ex ((p,st,ds),r)) (G:=fun c s=>((p,st,(bI kR c.toNat s).1),(bI kR c.toNat s).2)) fun c=>
 (Br.pa c.toNat).bind (F:=fun ds r=>Ex ((p,st,ds),r)) (G:=fun ds s=>((p,st,ds),s)) fun _=>Br.ret _
theorem Br.rs (k i o:Int):Br (ou k i o) (ow k i o):=by
 unfold ou ow;by_cases h:k=6
 ·simp only[if_pos h];exact(Br.nu 2).bind (F:=fun f r=>eR (jZ 2 r) fun n r=>eR (kc (jY 16) n.toNat r) fun a r=>Ex ((⟨k,i,o,[],[],f,0,a,0⟩:Cp),r)) (G:=fun f s=>(⟨k,i,o,[],[],f,0,(bI lX (bj 2 s).1.toNat (bj 2 s).2).1,0⟩,(bI lX (bj 2 s).1.toNat (bj 2 s).2).2)) fun f=>
   (Br.nu 2).bind (F:=fun n r=>eR (kc (jY 16) n.toNat r) fun a r=>Ex ((⟨k,i,o,[],[],f,0,a,0⟩:Cp),r)) (G:=fun n s=>(⟨k,i,o,[],[],f,0,(bI lX n.toNat s).1,0⟩,(bI lX n.toNat s).2)) fun n=>
   ((Br.tk 16).one n.toNat).bind (F:=fun a r=>Ex ((⟨k,i,o,[],[],f,0,a,0⟩:Cp),r)) (G:=fun a s=>(⟨k,i,o,[],[],f,0,a,0⟩,s)) fun _=>Br.ret _
 simp only[if_neg h];by_cases b:k=1
 ·simp only[if_pos b];exact(Br.nu 2).bind (F:=fun n r=>eR (kc (jY 16) n.toNat r) fun a r=>Ex ((⟨k,i,o,[],[],0,0,a,0⟩:Cp),r)) (G:=fun n s=>(⟨k,i,o,[],[],0,0,(bI lX n.toNat s).1,0⟩,(bI lX n.toNat s).2)) fun n=>((Br.tk 16).one n.toNat).bind (F:=fun a r=>Ex ((⟨k,i,o,[],[],0,0,a,0⟩:Cp),r)) (G:=fun a s=>(⟨k,i,o,[],[],0,0,a,0⟩,s)) fun _=>Br.ret _
 simp only[if_neg b];by_cases d:k=3
 ·simp only[if_pos d];exact(Br.nu 1).bind (F:=fun n r=>eR (kc (jZ 2) n.toNat r) fun a r=>Ex ((⟨k,i,o,a,[],0,0,[],0⟩:Cp),r)) (G:=fun n s=>(⟨k,i,o,(bI rf n.toNat s).1,[],0,0,[],0⟩,(bI rf n.toNat s).2)) fun n=>((Br.nu 2).one n.toNat).bind (F:=fun a r=>Ex ((⟨k,i,o,a,[],0,0,[],0⟩:Cp),r)) (G:=fun a s=>(⟨k,i,o,a,[],0,0,[],0⟩,s)) fun _=>Br.ret _
 simp only[if_neg d];by_cases e:k=4
 ·simp only[if_pos e];exact(Br.nu 1).bind (F:=fun n r=>eR (kc As n.toNat r) fun a r=>Ex ((⟨k,i,o,[],a,0,0,[],0⟩:Cp),r)) (G:=fun n s=>(⟨k,i,o,[],(bI rh n.toNat s).1,0,0,[],0⟩,(bI rh n.toNat s).2)) fun n=>(Br.sh.one n.toNat).bind (F:=fun a r=>Ex ((⟨k,i,o,[],a,0,0,[],0⟩:Cp),r)) (G:=fun a s=>(⟨k,i,o,[],a,0,0,[],0⟩,s)) fun _=>Br.ret _
 simp only[if_neg e];by_cases g:k=5
 ·simp only[if_pos g];exact(Br.nu 2).bind (F:=fun f r=>eR (jZ 2 r) fun c r=>Ex ((⟨k,i,o,[],[],f,c,[],0⟩:Cp),r)) (G:=fun f s=>(⟨k,i,o,[],[],f,(bj 2 s).1,[],0⟩,(bj 2 s).2)) fun f=>(Br.nu 2).bind (F:=fun c r=>Ex ((⟨k,i,o,[],[],f,c,[],0⟩:Cp),r)) (G:=fun c s=>(⟨k,i,o,[],[],f,c,[],0⟩,s)) fun _=>Br.ret _
 simp only[if_neg g];by_cases j:k=7
 ·simp only[if_pos j];exact(Br.nu 1).bind (F:=fun c r=>Ex ((⟨k,i,o,[],[],0,0,[],c⟩:Cp),r)) (G:=fun c s=>(⟨k,i,o,[],[],0,0,[],c⟩,s)) fun _=>Br.ret _
 simp only[if_neg j];exact Br.ret _
theorem Br.Dn (k:Int):Br (pB k) (fun s=>ow k (bj 8 s).1 (bj 8 (bj 8 s).2).1 (bj 8 (bj 8 s).2).2):=
 (Br.nu 8).bind (F:=fun i r=>eR (jZ 8 r) fun o r=>ou k i o r) (G:=fun i s=>ow k i (bj 8 s).1 (bj 8 s).2) fun i=>
  (Br.nu 8).bind (F:=fun o r=>ou k i o r) (G:=fun o s=>ow k i o s) fun o=>Br.rs k i o
def cy (x:Cp × bB):Nat × Cp:=if x.2.1=true then(2,dI)else if 0 < x.2.2.length then(4,dI)else if aW x.1=0 then(0,x.1)else(aW x.1,dI)
theorem sL (k:Int) (r:List Int):cy (ow k (bj 8 (false,r)).1 (bj 8 (bj 8 (false,r)).2).1 (bj 8 (bj 8 (false,r)).2).2)=tN (pB k r):=by
 cases h:pB k r with
 | none=>have:=(Br.Dn k).no h;unfold cy;rw[if_pos this];rfl
 | some y=>
  obtain⟨l,q⟩:=y;have e:ow k (bj 8 (false,r)).1 (bj 8 (bj 8 (false,r)).2).1 (bj 8 (bj 8 (false,r)).2).2=(l,(false,q)):=(Br.Dn k).val h;rw[e];unfold cy tN;simp only[Fh,if_false];cases q with
  | nil=>simp
  | cons a t=>simp
theorem nF (k:Int) (r:List Int):bj 1 (false,k :: r)=(k,(false,r)):=by
 unfold bj eh;simp[pC]
theorem pE:(bj 1 (false,[])).2.1=true:=by decide
theorem gT {n:Nat} {s:bB} (h:bA s.2):bA (eh n s).1/\bA (eh n s).2.2:=by
 unfold eh;split
 ·exact⟨h.take n,h.drop n⟩
 ·exact⟨bA.nil,h⟩
theorem ri {s:bB} (b:bA s.2):0<=(bj 1 s).1/\(bj 1 s).1<=255:=by
 unfold bj eh;split
 ·next h=>
  obtain⟨_,h2,a⟩:=sK (x:=s.2.take 1) (by rw[DX];omega) (b.take 1);exact⟨h2,a⟩
 ·show 0<=eS []/\eS []<=255;decide
theorem vQ {s:bB} (b:bA s.2):0<=(bj 2 s).1/\(bj 2 s).1<=65535:=by
 unfold bj eh;split
 ·next h=>
  obtain⟨_,h2,a⟩:=sJ (x:=s.2.take 2) (by rw[DX];omega) (b.take 2);exact⟨h2,a⟩
 ·show 0<=eS []/\eS []<=65535;decide
structure Kq (Q:Nat->Prop) (w w':DF):Prop where
 os:w'.os=w.os
 tape:w'.tape=w.tape
 output:w'.output=w.output
 size:w.heap.size<=w'.heap.size
 block:∀k,k < w.heap.size->¬Q k->w'.heap[k]? =w.heap[k]?
section
variable {Q Q':Nat->Prop} {a b c w w':DF}
theorem Kq.refl (w:DF):Kq Q w w:=⟨rfl,rfl,rfl,DH _,fun _ _ _=>rfl⟩
theorem Kq.trans (h:Kq Q a b) (k:Kq Q b c):Kq Q a c:=⟨k.os.trans h.os,k.tape.trans h.tape,k.output.trans h.output,D0 h.size k.size,fun i d e=>(k.block i (Nat.lt_of_lt_of_le d h.size) e).trans (h.block i d e)⟩
theorem Kq.drew (w:DF):Kq Q w w.drew:=⟨rfl,rfl,rfl,DH _,fun _ _ _=>rfl⟩
theorem Kq.AI (h:az w w'):Kq Q w w':=⟨h.os,h.tape,h.output,h.size,fun k a _=>h.block k a⟩
theorem Kq.mono (h:Kq Q w w') (c:∀k,k < w.heap.size->Q k->Q' k):Kq Q' w w':=⟨h.os,h.tape,h.output,h.size,fun k a b=>h.block k a fun q=>b (c k a q)⟩
theorem Kq.below (h:Kq Q w w') {B:Nat} (b:B<=w.heap.size) (a:∀k,Q k->B<=k):Below B w w':=⟨h.os,h.tape,h.output,h.size,fun k c=>h.block k (by omega) fun q=>by have:=a k q;omega⟩
theorem Kq.ext (h:Kq Q w w') (a:∀k,Q k->w.heap.size<=k):az w w':=h.below (DH _) a
theorem Kq.setCell (h:Kq Q w w') (p:Addr) (hp:Q p.block) (v:DG):Kq Q w (w'.setCell p v):=
 ⟨h.os,h.tape,h.output,D0 h.size ((DI 0 w').setCell (DZ _) v).size,fun k b a=>(Ff w' p v k (fun e=>a (e▸hp))).trans (h.block k b a)⟩
theorem Kq.setCells {g:Nat} (h:Kq Q w w') (c:Q g) (o:Nat) (vs:List DG):Kq Q w (w'.setCells g o vs):=by
 have a:=aE vs g o w' (DI 0 w') (DZ _);exact⟨a.os.trans h.os,a.tape.trans h.tape,a.output.trans h.output,D0 h.size a.size,fun k d b=>(dx (g:=g) vs o w' (mX.refl g w') k (fun e=>b (e▸c))).trans (h.block k d b)⟩
theorem Kq.grown {row:Option Nat} (a:w.grownBy w' row) (d:∀k,row=some k->Q k):Kq Q w w':=⟨a.os,a.tape,a.output,a.size,fun k b c=>a.block k b fun q=>c (d k q.symm)⟩
theorem Kq.cell {k i:Nat} {v:DG} (h:Kq Q w w') (b:¬Q k) (a:w.cell? ⟨k,i,none⟩=some v):w'.cell? ⟨k,i,none⟩=some v:=by
 rw[World.cell?_of_block (w:=w) (h.block k (World.block_lt_of_cell? _ _ a) b)];exact a
theorem Kq.box {X:Nat} {cs:List DG} (h:Kq Q w w') (b:¬Q X) (a:av w X cs):av w' X cs:=a.same (h.block X a.lt b)
theorem Kq.AT {v:DG} {n:Nat} {cs:List DG} (h:Kq Q w w') (d:bh w v n cs) (b:∀k,v.ownBlock=some k->¬Q k):bh w' v n cs:=bh.kept d fun k a c=>h.block k c (b k a)
end
structure cM (w:DF) (X:Nat) (s:bB):Prop where
 ex:∃p c,av w X [.slice p s.2.length c,.bool s.1]/\aS (fun k=>k < X) w (.slice p s.2.length c) s.2.length (ao .u8 s.2)/\s.2.length<=c/\c<=maxLen
 Ct:bA s.2
 le:s.2.length<=9000
theorem cM.lt {w:DF} {s:bB} (h:cM w X s):X < w.heap.size:=by
 obtain⟨p,c,h1,_⟩:=h.ex;exact h1.lt
theorem cM.kept {Q:Nat->Prop} {w w':DF} {s:bB} (h:cM w X s) (k:Kq Q w w') (d:∀i,i<=X->¬Q i):cM w' X s:=by
 obtain⟨p,c,h1,h2,e⟩:=h.ex;exact⟨⟨p,c,k.box (d X (DH _)) h1,h2.kept fun b a f=>⟨a,k.block b f (d b (Nat.le_of_lt a))⟩,e⟩,h.Ct,h.le⟩
theorem cM.ext {w w':DF} {s:bB} (h:cM w X s) (k:az w w'):cM w' X s:=h.kept (Q:=fun _=>False) (Kq.AI k) fun _ _ q=>q
structure jA (ic ib ia tc tb ta:Nat) (S0:DF->Prop) (S1 S2 S3:DG->DF->Prop) (d:Nat->Bool) (u:Nat->DG) (w:DF):Prop where
 a:d ic=false->S0 w
 b:d ic=true->d ib=false->S1 (u tc) w
 c:d ib=true->d ia=false->S2 (u tb) w
 d:d ia=true->S3 (u ta) w
section
variable {ic ib ia tc tb ta:Nat} {S0:DF->Prop} {S1 S2 S3:DG->DF->Prop} {d:Nat->Bool} {u:Nat->DG} {w w':DF}
theorem jA.start (h:S0 w):jA ic ib ia tc tb ta S0 S1 S2 S3 (fun _=>false) u w:=⟨fun _=>h,fun q=>(by cases q),fun q=>(by cases q),fun q=>(by cases q)⟩
theorem jA.same {i t:Nat} {v:DG} (h:jA ic ib ia tc tb ta S0 S1 S2 S3 d u w) (g:(decide (i=ic)||decide (i=ib)||decide (i=ia)||decide (t=tc)||decide (t=tb)||decide (t=ta))=false):jA ic ib ia tc tb ta S0 S1 S2 S3 (bD d i) (aQ (some t) u v) w:=by
 simp only[Et,decide_eq_false_iff_not]at g;obtain⟨⟨⟨⟨⟨h1,h2⟩,m⟩,n⟩,o⟩,p⟩:=g;have f:bD d i ic=d ic:=if_neg (fun e=>h1 e.symm);have a2:bD d i ib=d ib:=if_neg (fun e=>h2 e.symm);have a3:bD d i ia=d ia:=if_neg (fun e=>m e.symm);have j:aQ (some t) u v tc=u tc:=if_neg (fun e=>n e.symm);have k:aQ (some t) u v tb=u tb:=if_neg (fun e=>o e.symm);have l:aQ (some t) u v ta=u ta:=if_neg (fun e=>p e.symm);exact⟨by rw[f];exact h.a,by rw[f,a2,j];exact h.b,by rw[a2,a3,k];exact h.c,by rw[a3,l];exact h.d⟩
theorem jA.call {v:DG} (a:(decide (ic=ib)||decide (ic=ia))=false) (g:d ib=false) (f:d ia=false) (h:S1 v w'):jA ic ib ia tc tb ta S0 S1 S2 S3 (bD d ic) (aQ (some tc) u v) w':=by
 simp only[Et,decide_eq_false_iff_not]at a;have b:bD d ic ic=true:=if_pos rfl;have a2:bD d ic ib=d ib:=if_neg (fun e=>a.1 e.symm);have a3:bD d ic ia=d ia:=if_neg (fun e=>a.2 e.symm);have c:aQ (some tc) u v tc=v:=if_pos rfl;exact⟨fun q=>(by rw[b]at q;cases q),fun _ _=>by rw[c];exact h,fun q=>(by rw[a2,g]at q;cases q),fun q=>(by rw[a3,f]at q;cases q)⟩
theorem jA.CF {v:DG} (a:(decide (ic=ib)||decide (ib=ia))=false) (g:d ic=true) (f:d ia=false) (h:S2 v w'):jA ic ib ia tc tb ta S0 S1 S2 S3 (bD d ib) (aQ (some tb) u v) w':=by
 simp only[Et,decide_eq_false_iff_not]at a;have b:bD d ib ib=true:=if_pos rfl;have a2:bD d ib ic=d ic:=if_neg a.1;have a3:bD d ib ia=d ia:=if_neg (fun e=>a.2 e.symm);have c:aQ (some tb) u v tb=v:=if_pos rfl;exact⟨fun q=>(by rw[a2,g]at q;cases q),fun _ q=>(by rw[b]at q;cases q),fun _ _=>by rw[c];exact h,fun q=>(by rw[a3,f]at q;cases q)⟩
theorem jA.app {v:DG} (a:(decide (ic=ia)||decide (ib=ia))=false) (f:d ic=true) (e:d ib=true) (h:S3 v w'):jA ic ib ia tc tb ta S0 S1 S2 S3 (bD d ia) (aQ (some ta) u v) w':=by
 simp only[Et,decide_eq_false_iff_not]at a;have b:bD d ia ia=true:=if_pos rfl;have a2:bD d ia ic=d ic:=if_neg a.1;have a3:bD d ia ib=d ib:=if_neg a.2;have c:aQ (some ta) u v ta=v:=if_pos rfl;exact⟨fun q=>(by rw[a2,f]at q;cases q),fun _ q=>(by rw[a3,e]at q;cases q),fun _ q=>(by rw[b]at q;cases q),fun _=>by rw[c];exact h⟩
end
theorem tO (cells:Array DG) (v:DG) (n:Nat) (a:cells.size=n) (b:v.cells.size=n):Instr.fill (fun i=>some (i*n,n)) cells [(0,v)]=some v.cells:=by
 have h:=oR cells v.cells n a b;simp only[Instr.fill,Value.cells]at h⊢;exact h
section
variable {P:Program} {R:DF->DF->Prop} {w:DF} {ev:Nat->DG} {φ :DG->DF->Prop} {d:Option Tmp} {tt t e:TypeId} {z:DG} {bytes n:Nat} {pp:String} {af:Array Edge} {g:Option (Nat × Bool)} {x:Operand}
theorem cG (a:jE P t e z n bytes) (m:n<=1000) {v:DG} (hx:aX ev x=v) (f:v.cells.size=n) (k:R w (w.alloc (.cells v.cells e))/\ φ (.slice (some ⟨w.heap.size,0,none⟩) 1 1) (w.alloc (.cells v.cells e))):
  dU R P w φ ((execOp (aX ev) ⟨d,.buildSlice t 1 #[(0,x)],tt,pp,af,g⟩).run P w):=by
 obtain⟨i,c,j,b,l⟩:=info_parts a.info;have hp:=a.pos;have h:(Instr.buildSlice t 1 #[(0,v)]).run P w=.ok (.slice (some ⟨w.heap.size,0,none⟩) 1 1) (w.alloc (.cells v.cells e)):=by refine run_buildSlice w t e 1 #[(0,v)] v.cells i z a.ht c j (by rw[b];omega) (by rw[b];omega) ?_;rw[b];exact tO _ v n (by simp) f
 unfold execOp;simp only[hx,List.map_toArray,List.map_cons,List.map_nil,Sem.run_bind,Sem.run_pure,h,Result.andThen_ok];exact k
end
structure GP {α :Type} (f: α ->List DG) (s:Nat) (Ok:(Nat->Prop)->DF-> α ->Prop) (B:Nat) (w:DF) (X fi:Nat) (cs:List DG) (v:DG) (M:List α):Prop where
 box:av w X cs
 CC:cs[fi]? =some v
 own:Pk w B s v M.length (aw f M)
 ok:∀x∈M,Ok (fun b=>b≠X/\v.ownBlock≠some b/\B<=b) w x
 ne:v.ownBlock≠some X
section
variable {α :Type} {f: α ->List DG} {s:Nat} {Ok:(Nat->Prop)->DF-> α ->Prop} {B:Nat} {w w1 w2:DF} {X fi:Nat} {cs:List DG} {v v':DG} {M:List α} {y: α} {Q:Nat->Prop}
theorem GP.kept (d:fG Ok) (h:GP f s Ok B w X fi cs v M) (k:Kq Q w w1) (e:¬Q X) (c:∀b,B<=b->¬Q b):GP f s Ok B w1 X fi cs v M:=
 ⟨k.box e h.box,h.CC,h.own.kept (fun b a=>k.block b (h.own.block b a).2 (c b (h.own.block b a).1)) k.size,fun x hx=>d _ _ _ _ _ (h.ok x hx) fun b a g=>⟨a,k.block b g (c b a.2.2)⟩,h.ne⟩
theorem GP.ext (b:fG Ok) (h:GP f s Ok B w X fi cs v M) (a:az w w1):GP f s Ok B w1 X fi cs v M:=h.kept (Q:=fun _=>False) b (Kq.AI a) (fun q=>q) (fun _ _ q=>q)
theorem GP.start (a:av w X cs) (b:cs[fi]? =some (.slice none 0 0)):GP f s Ok B w X fi cs (.slice none 0 0) []:=
 ⟨a,b,Pk.nil _ _ _,fun x hx=>(by cases hx),fun q=>(by cases q)⟩
theorem GP.lt (h:GP f s Ok B w X fi cs v M):fi < cs.length:=(List.getElem?_eq_some_iff.1 h.CC).1
theorem GP.cell (h:GP f s Ok B w X fi cs v M):w.cell? ⟨X,fi,none⟩=some v:=h.box.cell h.CC
theorem GP.Cz (h:GP f s Ok B w1 X fi cs v M) (a:w1.grownBy w2 v.ownBlock):av w2 X cs:=h.box.grown a (fun q=>h.ne q)
theorem GP.form (h:GP f s Ok B w X fi cs v M):∃p c,v=.slice p M.length c:=by
 obtain⟨p,c,h1,_⟩:=h.own.AT.form;exact⟨p,c,h1⟩
theorem GP.push (d:fG Ok) (h:GP f s Ok B w1 X fi cs v M) (n:Pk w2 B s v' (M.length+1) (aw f M++f y)) (e:w1.grownBy w2 v.ownBlock) (i:∀k,v'.ownBlock=some k->v.ownBlock=some k\/w1.heap.size<=k) (hy:Ok (fun b=>b≠X/\v.ownBlock≠some b/\B<=b) w1 y):
  GP f s Ok B (w2.setCell ⟨X,fi,none⟩ v') X fi (cs.set fi v') v' (M++[y]):=by
 have l:v'.ownBlock≠some X:=fun q=>by
  rcases i X q with z | z
  ·exact h.ne z
  ·have:=h.box.lt;omega
 have g:∀j,j≠X->(w2.setCell ⟨X,fi,none⟩ v').heap[j]? =w2.heap[j]? :=fun j c=>Ff w2 ⟨X,fi,none⟩ _ j c
 have o:w2.heap.size<=(w2.setCell ⟨X,fi,none⟩ v').heap.size:=((DI 0 w2).setCell (DZ _) _).size;refine⟨(h.Cz e).put h.lt v',by rw[List.getElem?_set_self h.lt],?_,fun x hx=> ?_,l⟩
 ·rw[List.length_append,List.length_singleton,di,gO];exact n.kept (fun j c=>g j (fun q=>l (by rw[c,q]))) o
 ·have key:∀b,(b≠X/\v.ownBlock≠some b/\B<=b)->b < w1.heap.size->(b≠X/\v'.ownBlock≠some b/\B<=b)/\(w2.setCell ⟨X,fi,none⟩ v').heap[b]? =w1.heap[b]? :=fun b a m=>by
   refine⟨⟨a.1,fun q=> ?_,a.2.2⟩,?_⟩
   ·rcases i b q with z | z
    ·exact a.2.1 z
    ·omega
   ·rw[g b a.1];exact e.block b m (fun q=>a.2.1 q.symm)
  rcases List.mem_append.1 hx with hx | hx
  ·exact d _ _ _ _ _ (h.ok x hx) key
  ·obtain rfl:x=y:=by simpa using hx
   exact d _ _ _ _ _ hy key
end
section
variable {α :Type} (f: α ->List DG) (s:Nat) (Ok:(Nat->Prop)->DF-> α ->Prop) (B X Y fi:Nat) (cs:List DG) (vr:DG) (M:List α) (Pr: α ->Prop) (sa sb:bB)
def C0 (w:DF):Prop:=cM w X sa/\GP f s Ok B w Y fi cs vr M/\B<=w.heap.size
def C1 (v:DG) (w:DF):Prop:=∃y,Pr y/\v.cells=(f y).toArray/\(f y).length=s/\(∀c∈f y,c.oneCell'=true)/\Ok (fun b=>b≠Y/\vr.ownBlock≠some b/\B<=b) w y/\cM w X sb/\GP f s Ok B w Y fi cs vr M/\B<=w.heap.size
def C2 (v:DG) (w:DF):Prop:=∃y g,v=.slice (some ⟨g,0,none⟩) 1 1/\w.rangeAt g 0 (f y)/\Pr y/\(f y).length=s/\(∀c∈f y,c.oneCell'=true)/\Ok (fun b=>b≠Y/\vr.ownBlock≠some b/\B<=b) w y/\cM w X sb/\GP f s Ok B w Y fi cs vr M/\B<=w.heap.size
def C3 (v:DG) (w:DF):Prop:=∃y p c,v=.slice p (M.length+1) c/\Pr y/\w.cell? ⟨Y,fi,none⟩=some vr/\w.frozen? ⟨Y,fi,none⟩=false/\GP f s Ok B (w.setCell ⟨Y,fi,none⟩ v) Y fi (cs.set fi v) v (M++[y])/\cM (w.setCell ⟨Y,fi,none⟩ v) X sb
end
section
variable {α :Type} {f: α ->List DG} {s:Nat} {Ok:(Nat->Prop)->DF-> α ->Prop} {B X Y fi:Nat} {cs:List DG} {vr:DG} {M:List α} {Pr: α ->Prop} {sa sb:bB} {w w':DF}
theorem C0.c1 (d:fG Ok) (h:C0 f s Ok B X Y fi cs vr M sa w) {v:DG} {y: α} {Q:Nat->Prop} (a:Kq Q w w') (i:¬Q Y) (e:∀b,B<=b->¬Q b) (g:cM w' X sb) (hp:Pr y) (l:v.cells=(f y).toArray) (j:(f y).length=s) (h1:∀c∈f y,c.oneCell'=true) (k:Ok (fun b=>w.heap.size<=b) w' y):C1 f s Ok B X Y fi cs vr M Pr sb v w':=
 ⟨y,hp,l,j,h1,d _ _ _ _ _ k fun b m _=>⟨⟨fun q=>by have:=h.2.1.box.lt;omega,fun q=>by have:=(h.2.1.own.block b q).2;omega,by have:=h.2.2;omega⟩,rfl⟩,g,h.2.1.kept d a i e,D0 h.2.2 a.size⟩
theorem C1.c2 (c:fG Ok) {v:DG} (h:C1 f s Ok B X Y fi cs vr M Pr sb v w) (e:TypeId):C2 f s Ok B X Y fi cs vr M Pr sb (.slice (some ⟨w.heap.size,0,none⟩) 1 1) (w.alloc (.cells v.cells e)):=by
 obtain⟨y,h1,h2,d,g,i,k,l,m⟩:=h;have a:=ae w (.cells v.cells e);refine⟨y,w.heap.size,rfl,fun j u hu=> ?_,h1,d,g,c _ _ _ _ _ i fun b n o=>⟨n,a.block b o⟩,k.ext a,l.ext c a,D0 m a.size⟩;rw[Nat.zero_add,World.cell?_alloc_new,h2];simpa using hu
theorem C1.size {v:DG} (h:C1 f s Ok B X Y fi cs vr M Pr sb v w):v.cells.size=s:=by
 obtain⟨y,_,h2,a,_⟩:=h;rw[h2];simpa using a
theorem C2.c3 (r:fG Ok) (u:X < B) (v:X < Y) {e:DG} {y: α} (o:cM w X sb) (a:GP f s Ok B w Y fi cs vr M) (hp:Pr y) (n:Ok (fun b=>b≠Y/\vr.ownBlock≠some b/\B<=b) w y) (h2:Pk w' B s e (M.length+1) (aw f M++f y)) (g:w.grownBy w' vr.ownBlock) (m:∀j,e.ownBlock=some j->vr.ownBlock=some j\/w.heap.size<=j):Kq (fun k=>k=X\/B<=k) w w'/\C3 f s Ok B X Y fi cs vr M Pr sb e w':=by
 have h:Kq (fun k=>B<=k) w w':=Kq.grown g fun k d=>(a.own.block k d).1
 obtain⟨p,c,t,_⟩:=h2.AT.form;have l:=a.Cz g;refine⟨h.mono fun k _ d=>.inr d,y,p,c,t,hp,l.cell a.CC,l.fz a.lt,a.push r h2 g m n,?_⟩;exact o.kept (Q:=fun k=>B<=k\/k=Y) ((h.mono fun k _ d=>.inl d).setCell ⟨Y,fi,none⟩ (.inr rfl) e) fun i x q=>by
  rcases q with q | q
  ·omega
  ·omega
end
section
variable {P:Program} {R:DF->DF->Prop} {α :Type} {f: α ->List DG} {s:Nat} {Ok:(Nat->Prop)->DF-> α ->Prop} {B X Y fi:Nat} {cs:List DG} {vr:DG} {M:List α} {Pr: α ->Prop} {sb:bB} {w:DF} {ev:Nat->DG} {φ :DG->DF->Prop} {d:Option Tmp} {tt t e:TypeId} {z:DG} {bytes n:Nat} {pp:String} {af:Array Edge} {g:Option (Nat × Bool)} {x y:Operand}
theorem j0 (q:jE P t e z s bytes) (p:fG Ok) (r:X < B) (u:X < Y) {v2:DG} (A:C2 f s Ok B X Y fi cs vr M Pr sb v2 w) (hy:aX ev y=v2) (hx:aX ev x=vr) (hlen:M.length+1<=maxLen) (v:(M.length+1)*bytes<=140737488355328)
  (C:∀c w',Kq (fun k=>k=X\/B<=k) w w'->C3 f s Ok B X Y fi cs vr M Pr sb c w'->R w w'/\ φ c w'):
  dU R P w φ ((execOp (aX ev) ⟨d,.call {callee:=.builtin .append,args:=#[x,y],argTypes:=#[t,t]},tt,pp,af,g⟩).run P w):=by
 obtain⟨a,b,h1,h2,i,j,l,m,n,h,o⟩:=A;refine dy q h.own h2 (by rw[j,Nat.one_mul]) l (by decide) hlen v o hx (hy.trans h1) fun c w' F G H=> ?_
 obtain⟨D,E⟩:=C2.c3 p r u n h i m F G H;exact C c w' D E
end
theorem pF {v:DG} {w:DF} (h:dC w v l):v.cells=(cB (v,l)).toArray:=by
 obtain⟨p,c,rfl,_⟩:=h;rfl
theorem vR {v:DG} {w:DF} (h:dC w v l):∀c∈cB (v,l),c.oneCell'=true:=fun c a=>by
 obtain⟨p,b,rfl,_⟩:=h;unfold cB at a;rw[F4]at a;subst a;rfl
theorem vS (x:Int):∀c∈cI x,c.oneCell'=true:=fun c a=>by
 unfold cI at a;rw[F4]at a;subst a;rfl
def lA (I:Nat->bB->DF->Prop) (n:Nat) (w:DF):Prop:=∃k s,k<=n/\I k s w/\(k=n\/s.1=true)
theorem ew {α :Type} (f:bB->List α × bB) (n:Nat) (s:bB) (h:s.1=true):bI f n s=([],s):=by
 cases n with
 | zero=>rfl
 | succ n=>simp[bI,h]
theorem j3 {α :Type} (f:bB->List α × bB) (n k:Nat) (s:bB) (a:k < n) (h:s.1=false):bI f (n - k) s=((f s).1++(bI f (n - (k+1)) (f s).2).1,(bI f (n - (k+1)) (f s).2).2):=by
 rw[show n - k=(n - (k+1))+1 by omega];simp[bI,h]
end Go.Proofs.Bl
