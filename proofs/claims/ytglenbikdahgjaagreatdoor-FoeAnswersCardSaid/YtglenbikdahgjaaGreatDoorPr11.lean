/- Texts that stood apart, in one: LetF, LD1, LetG, LD2. -/
import Derived.Test.YtglenbikdahgjaaGreatDoorPr10
set_option maxRecDepth 100000
set_option maxHeartbeats 16000000
open And renaming intro->DT
open Bool renaming or_eq_false_iff->Et
open Go renaming TypeId->Ec,Value->DG,World->DF,maxLen->DV,wpList->Fl
open Go.RowKit.Below renaming refl->DI
open List renaming length_replicate->G4,length_take->DX,replicate->D7
open Nat renaming le_of_eq->E9,le_refl->DH,le_trans->D0,zero_add->DY
open Option renaming some->Ex
namespace Go.Proofs.Bl
open Go Go.RowKit Go.Proofs
open Go.Proofs.Tryz renaming prog->DE
variable {X n L:Nat}
def bo (n:Nat) (s:bB):List Int × bB:=if s.1=false/\n<=s.2.length then(s.2.take n,(false,s.2.drop n))else(D7 n 0,(true,s.2))
def cj (n:Nat) (s:bB):Int × bB:=(eS (bo n s).1,(bo n s).2)
def iZ (s:bB):List (List Int) × bB:=([(bo 16 s).1],(bo 16 s).2)
def qz (s:bB):List Int × bB:=([(cj 2 s).1],(cj 2 s).2)
def mE (s:bB):List (List Int) × bB:=([(bo 32 s).1],(bo 32 s).2)
def Ba (s:bB):Sh × bB:=
 (((cj 2 s).1,(bo 16 (cj 2 s).2).1,(bI mE (cj 1 (bo 16 (cj 2 s).2).2).1.toNat (cj 1 (bo 16 (cj 2 s).2).2).2).1),(bI mE (cj 1 (bo 16 (cj 2 s).2).2).1.toNat (cj 1 (bo 16 (cj 2 s).2).2).2).2)
def qA (s:bB):List Sh × bB:=([(Ba s).1],(Ba s).2)
def fY (k i o:Int) (s:bB):Cp × bB:=
 if k=6 then(⟨k,i,o,[],[],(cj 2 s).1,0,(bI iZ (cj 2 (cj 2 s).2).1.toNat (cj 2 (cj 2 s).2).2).1,0⟩,(bI iZ (cj 2 (cj 2 s).2).1.toNat (cj 2 (cj 2 s).2).2).2)
 else if k=1 then(⟨k,i,o,[],[],0,0,(bI iZ (cj 2 s).1.toNat (cj 2 s).2).1,0⟩,(bI iZ (cj 2 s).1.toNat (cj 2 s).2).2)
 else if k=3 then(⟨k,i,o,(bI qz (cj 1 s).1.toNat (cj 1 s).2).1,[],0,0,[],0⟩,(bI qz (cj 1 s).1.toNat (cj 1 s).2).2)
 else if k=4 then(⟨k,i,o,[],(bI qA (cj 1 s).1.toNat (cj 1 s).2).1,0,0,[],0⟩,(bI qA (cj 1 s).1.toNat (cj 1 s).2).2)
 else if k=5 then(⟨k,i,o,[],[],(cj 2 s).1,(cj 2 (cj 2 s).2).1,[],0⟩,(cj 2 (cj 2 s).2).2)
 else if k=7 then(⟨k,i,o,[],[],0,0,[],(cj 1 s).1⟩,(cj 1 s).2)
 else(⟨k,i,o,[],[],0,0,[],0⟩,s)
theorem gV (n:Nat):Br (jY n) (bo n):=by
 refine⟨fun b=>by unfold bo;simp,fun b=> ?_⟩;unfold jY bo;by_cases h:n<=b.length
 ·rw[if_pos h];simp[h]
 ·rw[if_neg h];simp[h]
theorem eI (n:Nat):Br (jZ n) (cj n):=by
 refine⟨fun b=>(gV n).1 b,fun b=> ?_⟩;unfold jZ cj;cases h:jY n b with
 | none=>exact(gV n).no h
 | some y=>obtain⟨x,r⟩:=y;rw[iM];simp only[(gV n).val h]
theorem zb:∀n,Br (kc (jY 32) n) (bI mE n):=
 Br.CZ (fun b=>(gV 32).1 b) (fun b x r e=>by
  have h:=(gV 32).val e;unfold mE
  rw[h]) (fun b e=>(gV 32).no e)
theorem zc:Br As Ba:=(eI 2).bind (F:=fun p r=>eR (jY 16 r) fun st r=>eR (jZ 1 r) fun c r=>eR (kc (jY 32) c.toNat r) fun ds r=>Ex ((p,st,ds),r)) (G:=fun p s=>((p,(bo 16 s).1,(bI mE (cj 1 (bo 16 s).2).1.toNat (cj 1 (bo 16 s).2).2).1),(bI mE (cj 1 (bo 16 s).2).1.toNat (cj 1 (bo 16 s).2).2).2)) fun p=>
 (gV 16).bind (F:=fun st r=>eR (jZ 1 r) fun c r=>eR (kc (jY 32) c.toNat r) fun ds r=>Ex ((p,st,ds),r)) (G:=fun st s=>((p,st,(bI mE (cj 1 s).1.toNat (cj 1 s).2).1),(bI mE (cj 1 s).1.toNat (cj 1 s).2).2)) fun st=>
 (eI 1).bind (F:=fun c r=>eR (kc (jY 32) c.toNat r) fun ds r=>Ex ((p,st,ds),r)) (G:=fun c s=>((p,st,(bI mE c.toNat s).1),(bI mE c.toNat s).2)) fun c=>
 (zb c.toNat).bind (F:=fun ds r=>Ex ((p,st,ds),r)) (G:=fun ds s=>((p,st,ds),s)) fun _=>Br.ret _
theorem zd (k i o:Int):Br (ou k i o) (fY k i o):=by
 unfold ou fY;by_cases h:k=6
 ·simp only[if_pos h];exact(eI 2).bind (F:=fun f r=>eR (jZ 2 r) fun n r=>eR (kc (jY 16) n.toNat r) fun a r=>Ex ((⟨k,i,o,[],[],f,0,a,0⟩:Cp),r)) (G:=fun f s=>(⟨k,i,o,[],[],f,0,(bI iZ (cj 2 s).1.toNat (cj 2 s).2).1,0⟩,(bI iZ (cj 2 s).1.toNat (cj 2 s).2).2)) fun f=>
   (eI 2).bind (F:=fun n r=>eR (kc (jY 16) n.toNat r) fun a r=>Ex ((⟨k,i,o,[],[],f,0,a,0⟩:Cp),r)) (G:=fun n s=>(⟨k,i,o,[],[],f,0,(bI iZ n.toNat s).1,0⟩,(bI iZ n.toNat s).2)) fun n=>
   ((gV 16).one n.toNat).bind (F:=fun a r=>Ex ((⟨k,i,o,[],[],f,0,a,0⟩:Cp),r)) (G:=fun a s=>(⟨k,i,o,[],[],f,0,a,0⟩,s)) fun _=>Br.ret _
 simp only[if_neg h];by_cases b:k=1
 ·simp only[if_pos b];exact(eI 2).bind (F:=fun n r=>eR (kc (jY 16) n.toNat r) fun a r=>Ex ((⟨k,i,o,[],[],0,0,a,0⟩:Cp),r)) (G:=fun n s=>(⟨k,i,o,[],[],0,0,(bI iZ n.toNat s).1,0⟩,(bI iZ n.toNat s).2)) fun n=>((gV 16).one n.toNat).bind (F:=fun a r=>Ex ((⟨k,i,o,[],[],0,0,a,0⟩:Cp),r)) (G:=fun a s=>(⟨k,i,o,[],[],0,0,a,0⟩,s)) fun _=>Br.ret _
 simp only[if_neg b];by_cases d:k=3
 ·simp only[if_pos d];exact(eI 1).bind (F:=fun n r=>eR (kc (jZ 2) n.toNat r) fun a r=>Ex ((⟨k,i,o,a,[],0,0,[],0⟩:Cp),r)) (G:=fun n s=>(⟨k,i,o,(bI qz n.toNat s).1,[],0,0,[],0⟩,(bI qz n.toNat s).2)) fun n=>((eI 2).one n.toNat).bind (F:=fun a r=>Ex ((⟨k,i,o,a,[],0,0,[],0⟩:Cp),r)) (G:=fun a s=>(⟨k,i,o,a,[],0,0,[],0⟩,s)) fun _=>Br.ret _
 simp only[if_neg d];by_cases e:k=4
 ·simp only[if_pos e];exact(eI 1).bind (F:=fun n r=>eR (kc As n.toNat r) fun a r=>Ex ((⟨k,i,o,[],a,0,0,[],0⟩:Cp),r)) (G:=fun n s=>(⟨k,i,o,[],(bI qA n.toNat s).1,0,0,[],0⟩,(bI qA n.toNat s).2)) fun n=>(zc.one n.toNat).bind (F:=fun a r=>Ex ((⟨k,i,o,[],a,0,0,[],0⟩:Cp),r)) (G:=fun a s=>(⟨k,i,o,[],a,0,0,[],0⟩,s)) fun _=>Br.ret _
 simp only[if_neg e];by_cases g:k=5
 ·simp only[if_pos g];exact(eI 2).bind (F:=fun f r=>eR (jZ 2 r) fun c r=>Ex ((⟨k,i,o,[],[],f,c,[],0⟩:Cp),r)) (G:=fun f s=>(⟨k,i,o,[],[],f,(cj 2 s).1,[],0⟩,(cj 2 s).2)) fun f=>(eI 2).bind (F:=fun c r=>Ex ((⟨k,i,o,[],[],f,c,[],0⟩:Cp),r)) (G:=fun c s=>(⟨k,i,o,[],[],f,c,[],0⟩,s)) fun _=>Br.ret _
 simp only[if_neg g];by_cases j:k=7
 ·simp only[if_pos j];exact(eI 1).bind (F:=fun c r=>Ex ((⟨k,i,o,[],[],0,0,[],c⟩:Cp),r)) (G:=fun c s=>(⟨k,i,o,[],[],0,0,[],c⟩,s)) fun _=>Br.ret _
 simp only[if_neg j];exact Br.ret _
theorem xX (k i o a b:Int) (s:bB):(fY k i o s).2=(fY k a b s).2/\(fY k i o s).1= {(fY k a b s).1 with id:=i,obj:=o}:=by
 unfold fY
 repeat' split
 all_goals exact⟨rfl,rfl⟩
theorem pN (k i o:Int) (s:bB):(fY k i o s).1.kind=k/\(fY k i o s).1.id=i/\(fY k i o s).1.obj=o:=by
 unfold fY
 repeat' split
 all_goals exact⟨rfl,rfl,rfl⟩
theorem dd {s:bB} (h:bA s.2):bA (bo n s).1/\bA (bo n s).2.2:=by
 unfold bo;split
 ·exact⟨h.take n,h.drop n⟩
 ·exact⟨fun x hx=>by rw[(List.mem_replicate.1 hx).2];omega,h⟩
theorem fV {s:bB}:(bo n s).1.length=n:=by
 unfold bo;split
 ·next h=>simp only[DX];omega
 ·simp
theorem wF (l a:Cp) (t:bB) (h1:wi l.kind 1 7=true) (h2:wi a.kind 1 7=true) (d:bn l=false) (e:bn a=false):cy (l,t)=cy (a,t):=by
 have b:aW l=1:=by unfold aW;rw[h1,if_neg (by decide),if_pos d]
 have c:aW a=1:=by unfold aW;rw[h2,if_neg (by decide),if_pos e]
 unfold cy;simp[b,c]
theorem mb {l:Cp} (h:l.id < 0\/1099511627776 < l.id):bn l=false:=by
 unfold bn;rw[iK.2 h];rfl
theorem mc {l:Cp} (h:l.obj < 0\/1099511627776 < l.obj):bn l=false:=by
 unfold bn;rw[iK.2 h,Bool.and_false];rfl
theorem xY (k:Int) (r:List Int) (m:wi k 1 7=true) (L:bA r):cy (fY k (cT 0 (bo 8 (false,r)).1) (cT 0 (bo 8 (bo 8 (false,r)).2).1) (bo 8 (bo 8 (false,r)).2).2)=tN (pB k r):=by
 have f:Br (pB k) (fun s=>fY k (cj 8 s).1 (cj 8 (cj 8 s).2).1 (cj 8 (cj 8 s).2).2):=
  (eI 8).bind (F:=fun i r=>eR (jZ 8 r) fun o r=>ou k i o r) (G:=fun i s=>fY k i (cj 8 s).1 (cj 8 s).2) fun i=>(eI 8).bind (F:=fun o r=>ou k i o r) (G:=fun o s=>fY k i o s) fun o=>zd k i o
 have h1:cy (fY k (cj 8 (false,r)).1 (cj 8 (cj 8 (false,r)).2).1 (cj 8 (cj 8 (false,r)).2).2)=tN (pB k r):=by
  cases h:pB k r with
  | none=>have:=f.no h;unfold cy;rw[if_pos this];rfl
  | some y=>
   obtain⟨l,q⟩:=y;have e:fY k (cj 8 (false,r)).1 (cj 8 (cj 8 (false,r)).2).1 (cj 8 (cj 8 (false,r)).2).2=(l,(false,q)):=f.val h;rw[e];unfold cy tN;simp only[Bool.false_eq_true,if_false];cases q with
   | nil=>simp
   | cons a t=>simp
 rw[<-h1];have d:=dd (n:=8) (s:=(false,r)) L;have x:=(dd (n:=8) (s:=(bo 8 (false,r)).2) d.2).1;show cy (fY k (cT 0 (bo 8 (false,r)).1) (cT 0 (bo 8 (bo 8 (false,r)).2).1) (bo 8 (bo 8 (false,r)).2).2)=cy (fY k (eS (bo 8 (false,r)).1) (eS (bo 8 (bo 8 (false,r)).2).1) (bo 8 (bo 8 (false,r)).2).2);obtain⟨i,g⟩:=exq (cT 0 (bo 8 (false,r)).1);obtain⟨b,j⟩:=exq (eS (bo 8 (false,r)).1);obtain⟨o,p⟩:=exq (cT 0 (bo 8 (bo 8 (false,r)).2).1);obtain⟨c,u⟩:=exq (eS (bo 8 (bo 8 (false,r)).2).1);obtain⟨s,M⟩:=exq ((bo 8 (bo 8 (false,r)).2).2);have v:i=b\/(i= -1/\1099511627776 < b):=by rw[g,j];exact ov _ 0 (Int.le_refl 0) d.1
 have w:o=c\/(o= -1/\1099511627776 < c):=by rw[p,u];exact ov _ 0 (Int.le_refl 0) x
 rw[<-g,<-j,<-p,<-u,<-M];obtain⟨A,C,E⟩:=pN k i o s;obtain⟨B,D,H⟩:=pN k b c s;obtain⟨I,_⟩:=xX k i o b c s;have key:bn (fY k i o s).1=false->bn (fY k b c s).1=false->cy (fY k i o s)=cy (fY k b c s):=fun J K=>by
  have:=wF (fY k i o s).1 (fY k b c s).1 (fY k i o s).2 (by rw[A];exact m) (by rw[B];exact m) J K;have z:fY k b c s=((fY k b c s).1,(fY k i o s).2):=by rw[I]
  rw[z];exact this
 rcases v with rfl | ⟨v,N⟩
 ·rcases w with rfl | ⟨w,O⟩
  ·rfl
  ·exact key (mc (by rw[E];omega)) (mc (by rw[H];omega))
 ·exact key (mb (by rw[C];omega)) (mb (by rw[D];omega))
theorem oB {s:bB} (a:bA s.2):0<=(cj 1 s).1/\(cj 1 s).1<=255:=(sK fV (dd a).1).2
theorem sO {s:bB} (a:bA s.2):0<=(cj 2 s).1/\(cj 2 s).1<=65535:=(sJ fV (dd a).1).2
theorem me {l:List Int} (a:bA l) (h:eS l<=65535):cT 0 l=eS l:=by
 rcases ov l 0 (Int.le_refl 0) a with h1 | ⟨_,h2⟩
 ·exact h1
 ·have:1099511627776 < eS l:=h2;omega
structure fq (L:Nat) (w:DF) (X:Nat) (s:bB):Prop where
 ex:∃p c at' b,av w X [.slice p L c,.int .i64 (at':Nat),.bool s.1]/\b.length=L/\at'<=L/\s.2=b.drop at'/\aS (fun k=>k < X) w (.slice p L c) L (ao .u8 b)/\L<=c/\c<=DV
 Ct:bA s.2
 le:L<=9000
theorem fq.lt {w:DF} {s:bB} (h:fq L w X s):X < w.heap.size:=by
 obtain⟨p,c,a,b,h1,_⟩:=h.ex;exact h1.lt
theorem fq.kept {Q:Nat->Prop} {w w':DF} {s:bB} (h:fq L w X s) (k:Kq Q w w') (e:∀i,i<=X->¬Q i):fq L w' X s:=by
 obtain⟨p,c,a,b,h1,h2,f,g,j,l⟩:=h.ex;exact⟨⟨p,c,a,b,k.box (e X (DH _)) h1,h2,f,g,j.kept fun b d m=>⟨d,k.block b m (e b (Nat.le_of_lt d))⟩,l⟩,h.Ct,h.le⟩
theorem fq.ext {w w':DF} {s:bB} (h:fq L w X s) (k:az w w'):fq L w' X s:=h.kept (Q:=fun _=>False) (Kq.AI k) fun _ _ q=>q
theorem fq.bad {w:DF} {s:bB} (h:fq L w X s):w.cell? ⟨X,2,none⟩=some (.bool s.1):=by
 obtain⟨p,c,a,b,h1,_⟩:=h.ex;exact h1.cell rfl
section
variable (Len:Nat) {α :Type} (f: α ->List DG) (s:Nat) (Ok:(Nat->Prop)->DF-> α ->Prop) (B X Y fi:Nat) (cs:List DG) (vr:DG) (M:List α) (Pr: α ->Prop) (sa sb:bB)
def F0 (w:DF):Prop:=fq Len w X sa/\GP f s Ok B w Y fi cs vr M/\B<=w.heap.size
def F1 (v:DG) (w:DF):Prop:=∃y,Pr y/\v.cells=(f y).toArray/\(f y).length=s/\(∀c∈f y,c.oneCell'=true)/\Ok (fun b=>b≠Y/\vr.ownBlock≠some b/\B<=b) w y/\fq Len w X sb/\GP f s Ok B w Y fi cs vr M/\B<=w.heap.size
def F2 (v:DG) (w:DF):Prop:=∃y g,v=.slice (some ⟨g,0,none⟩) 1 1/\w.rangeAt g 0 (f y)/\Pr y/\(f y).length=s/\(∀c∈f y,c.oneCell'=true)/\Ok (fun b=>b≠Y/\vr.ownBlock≠some b/\B<=b) w y/\fq Len w X sb/\GP f s Ok B w Y fi cs vr M/\B<=w.heap.size
def F3 (v:DG) (w:DF):Prop:=∃y p c,v=.slice p (M.length+1) c/\Pr y/\w.cell? ⟨Y,fi,none⟩=some vr/\w.frozen? ⟨Y,fi,none⟩=false/\GP f s Ok B (w.setCell ⟨Y,fi,none⟩ v) Y fi (cs.set fi v) v (M++[y])/\fq Len (w.setCell ⟨Y,fi,none⟩ v) X sb
end
section
variable {Len:Nat} {α :Type} {f: α ->List DG} {s:Nat} {Ok:(Nat->Prop)->DF-> α ->Prop} {B X Y fi:Nat} {cs:List DG} {vr:DG} {M:List α} {Pr: α ->Prop} {sa sb:bB} {w w':DF}
theorem F1.f2 (c:fG Ok) {v:DG} (h:F1 Len f s Ok B X Y fi cs vr M Pr sb v w) (e:Ec):F2 Len f s Ok B X Y fi cs vr M Pr sb (.slice (some ⟨w.heap.size,0,none⟩) 1 1) (w.alloc (.cells v.cells e)):=by
 obtain⟨y,h1,h2,d,g,i,k,l,m⟩:=h;have a:=ae w (.cells v.cells e);refine⟨y,w.heap.size,rfl,fun j u hu=> ?_,h1,d,g,c _ _ _ _ _ i fun b n o=>⟨n,a.block b o⟩,k.ext a,l.ext c a,D0 m a.size⟩;rw[DY,World.cell?_alloc_new,h2];simpa using hu
theorem F1.size {v:DG} (h:F1 Len f s Ok B X Y fi cs vr M Pr sb v w):v.cells.size=s:=by
 obtain⟨y,_,h2,a,_⟩:=h;rw[h2];simpa using a
theorem F2.f3 (r:fG Ok) (u:X < B) (v:X < Y) {e:DG} {y: α} (o:fq Len w X sb) (a:GP f s Ok B w Y fi cs vr M) (hp:Pr y) (n:Ok (fun b=>b≠Y/\vr.ownBlock≠some b/\B<=b) w y) (h2:Pk w' B s e (M.length+1) (aw f M++f y)) (g:w.grownBy w' vr.ownBlock) (m:∀j,e.ownBlock=some j->vr.ownBlock=some j\/w.heap.size<=j):Kq (fun k=>k=X\/B<=k) w w'/\F3 Len f s Ok B X Y fi cs vr M Pr sb e w':=by
 have h:Kq (fun k=>B<=k) w w':=Kq.grown g fun k d=>(a.own.block k d).1
 obtain⟨p,c,t,_⟩:=h2.AT.form;have l:=a.Cz g;refine⟨h.mono fun k _ d=>.inr d,y,p,c,t,hp,l.cell a.CC,l.fz a.lt,a.push r h2 g m n,?_⟩;exact o.kept (Q:=fun k=>B<=k\/k=Y) ((h.mono fun k _ d=>.inl d).setCell ⟨Y,fi,none⟩ (.inr rfl) e) fun i x q=>by
  rcases q with q | q
  ·omega
  ·omega
end
section
variable {Len:Nat} {P:Program} {R:DF->DF->Prop} {α :Type} {f: α ->List DG} {s:Nat} {Ok:(Nat->Prop)->DF-> α ->Prop} {B X Y fi:Nat} {cs:List DG} {vr:DG} {M:List α} {Pr: α ->Prop} {sb:bB} {w:DF} {ev:Nat->DG} {φ :DG->DF->Prop} {d:Option Tmp} {tt t e:Ec} {z:DG} {bytes n:Nat} {pp:String} {af:Array Edge} {g:Option (Nat × Bool)} {x y:Operand}
theorem mf (q:jE P t e z s bytes) (p:fG Ok) (r:X < B) (u:X < Y) {v2:DG} (A:F2 Len f s Ok B X Y fi cs vr M Pr sb v2 w) (hy:aX ev y=v2) (hx:aX ev x=vr) (hlen:M.length+1<=DV) (v:(M.length+1)*bytes<=140737488355328)
  (C:∀c w',Kq (fun k=>k=X\/B<=k) w w'->F3 Len f s Ok B X Y fi cs vr M Pr sb c w'->R w w'/\ φ c w'):
  dU R P w φ ((execOp (aX ev) ⟨d,.call {callee:=.builtin .append,args:=#[x,y],argTypes:=#[t,t]},tt,pp,af,g⟩).run P w):=by
 obtain⟨a,b,h1,h2,i,j,l,m,n,h,o⟩:=A;refine dy q h.own h2 (by rw[j,Nat.one_mul]) l (by decide) hlen v o hx (hy.trans h1) fun c w' F G H=> ?_
 obtain⟨D,E⟩:=F2.f3 p r u n h i m F G H;exact C c w' D E
end
theorem ze {b:List Int} (h:n<=b.length):bo n (false,b)=(b.take n,(false,b.drop n)):=if_pos ⟨rfl,h⟩
theorem zg {sh:Bool} {b:List Int} (h:¬(sh=false/\n<=b.length)):bo n (sh,b)=(D7 n 0,(true,b)):=if_neg h
theorem nH (z x:Int) (r:List Int):cT z (x :: r)=if 2199023255552 < z then -1 else cT (z*256+x) r:=rfl
theorem ry (y:List Int) {k:Nat} (h:k < y.length):y.drop k=y.getD k 0 :: y.drop (k+1):=by
 rw[List.drop_eq_getElem_cons h,List.getD_eq_getElem?_getD,List.getElem?_eq_getElem h];rfl
theorem uh (v:DG) (y:List Int) (w:DF) (f:Rd w .u8 v y) (l:bA y) (q:y.length<=9000):
  Calls DE 96 #[v] w fun e w'=>e=.returned (.int .i64 (cT 0 y))/\w'=w:=by
 obtain⟨p,c,rfl,_,_⟩:=f.form;have h:=aa f;have t:=aa l;obtain⟨m,hm⟩:=exq y.length;have j:=aa hm;have K:m<=9000:=by rw[hm];exact q
 rw[<-hm]at h⊢;clear f l hm q;go_enter Tryz.func96,Tryz.ntmps96
 go_wp2_with fail
 go_loopw [3,8] (fun a i wr=>∃(k:Nat) (z:Int),k<=m/\a=.int .i64 z/\Hid (cT z (y.drop k)=cT 0 y)/\0<=z/\z<=562949953421567/\i=.int .i64 k/\wr=w) (fun _ i _=>m - (intOf i).toNat);case atStart=>exact⟨0,0,Nat.zero_le _,rfl,aa rfl,by decide,by decide,rfl,rfl⟩
 case round=>
  obtain⟨k,z,H,rfl,d,L,M,rfl,E⟩:=hrel;subst E;by_cases r:k < m
  ·have g:k < y.length:=by rw[<-j.out];exact r
   obtain⟨F,N,G,D,_,_,_,_,o⟩:=Rd.pos h (by omega);injection D with A B C;subst A;have u:=o k g;have hx:=t.get k;have b:=aa (ry y g);obtain⟨x,s⟩:=exq (y.getD k 0);rw[<-s]at u hx b;obtain⟨O,P⟩:=hx;have I:(0:Int)<=(k:Int):=by omega
   have J:(k:Int) < (m:Int):=by omega
   clear o B C s g;by_cases n:2199023255552 < z
   ·have HV:Hid (cT 0 y= -1):=aa (by rw[<-d.out,b.out,nH,if_pos n])
    go_wp2_with fail
    go_ret;exact⟨by rw[HV.out];rfl,rfl⟩
   ·have HV:Hid (cT (z*256+x) (y.drop (k+1))=cT 0 y):=aa (by rw[<-d.out,b.out,nH,if_neg n])
    go_wp2_with fail
    go_roundw;case rel=>exact⟨k+1,z*256+x,by omega,by go_num,HV,by omega,by omega,by go_num,by first | rfl | trivial⟩
    case measure=>simp[intOf];omega
  ·obtain rfl:k=m:=by omega
   have HV:Hid (cT 0 y=z):=aa (by rw[<-d.out,List.drop_of_length_le (by rw[<-j.out];exact DH _)];rfl);clear r
   go_wp2_with fail
   go_ret;exact⟨by rw[HV.out];rfl,rfl⟩
theorem ui (L X n:Nat) (s:bB) (t:DF) (h:fq L t X s) (h1:1<=n) (hn:n<=9000):
  Calls DE 97 #[.pointer (some ⟨X,0,none⟩),.int .i64 n] t fun e w'=>∃v',e=.returned v'/\Rd w' .u8 v' (bo n s).1/\(∀k,v'.ownBlock=some k->k < X\/t.heap.size<=k)/\fq L w' X (bo n s).2/\Kq (fun k=>k=X) t w':=by
 obtain⟨sh,r⟩:=s;have J:=aa h;obtain⟨p,c,at',b,a,F,aE,A,x,am,an⟩:=h.ex;simp only at a A;have hle:=h.le;have ab:r.length=L - at':=by rw[A,List.length_drop,F]
 unfold DV at an;have x0:=a.cell (i:=0) rfl;have x1:=a.cell (i:=1) rfl;have x2:=a.cell (i:=2) rfl;have K:=aa a;have S:=aa x;have d:=aa (DT F (DT aE (DT A (DT am an))));have aP:(0:Int)<=(n:Int):=by omega
 clear h a x;by_cases H:sh=false/\n<=r.length
 ·obtain⟨rfl,Z⟩:=H;rw[ze Z];have aG:decide ((L:Int) - (at':Int) < (n:Int))=false:=decide_eq_false (by omega);have aD:at'+n<=L:=by omega
  have Hx:=aa Z;clear Z ab F A;go_enter Tryz.func97,Tryz.ntmps97
  go_wp2_with fail
  go_quiet (fail)
  obtain⟨w,u⟩:=exq (t.drewN nq);rw[<-u];have l:Hid (az t w/\w.heap.size=t.heap.size):=aa (by rw[u];exact⟨(DI _ _).drewN _,rfl⟩);clear u x0 x1 x2;have a:=K.ext l.1;have x:=S.kept (F':=fun k=>k < X) fun b E y=>⟨E,l.1.block b y⟩
  have q0:=a.cell (i:=0) rfl;have q1:=a.cell (i:=1) rfl;have q2:=a.cell (i:=2) rfl;rcases x with ⟨_,h5,_⟩ | ⟨g,o,c',h5,h6,h7,U,h9⟩
  ·omega
  injection h5 with e1 e2 e3;subst e1 e3
  have W:g < X:=h9 (fun q=>by
   have T:=congrArg List.length q;rw[ints_length]at T;have T:b.length=0:=T;have:=d.1
   omega)
  have aw:Hid (∀f,Kq (fun k=>k=X) w f->Rd f .u8 (.slice (some ⟨g,o+at',none⟩) n (c - at')) (r.take n)):=aa fun f V=>by refine .inr ⟨g,o+at',c - at',by rw[DX,Nat.min_eq_left Hx.out],by rw[DX];omega,by unfold DV;omega,?_⟩;have h2:=cU (ch U at') n;rw[l9,l8,<-d.out.2.2.1]at h2;exact fun j v hv=>V.cell (by omega) (h2 j v hv)
  have ar:Hid (∀f,Kq (fun k=>k=X) w f->av f X [.slice (some ⟨g,o,none⟩) L c,.int .i64 ((at'+n:Nat):Int),.bool false]->fq L f X (false,r.drop n)):=aa fun f V aF=>
   ⟨⟨_,c,at'+n,b,aF,d.1,aD,by show r.drop n=_;rw[d.out.2.2.1,List.drop_drop],.inr ⟨g,o,c,rfl,h6,h7,fun j v hv=>V.cell (by omega) (U j v hv),fun _=>W⟩,am,by unfold DV;omega⟩,J.Ct.drop n,hle⟩
  have f1:=a.fz (i:=1) (show 1 < 3 by decide);have I:=a.put (i:=1) (show 1 < 3 by decide) (.int .i64 ((at':Int)+(n:Int)));have au:Hid (∀m,av ((w.setCell ⟨X,1,none⟩ (.int .i64 ((at':Int)+(n:Int)))).drewN m) X [.slice (some ⟨g,o,none⟩) L c,.int .i64 ((at'+n:Nat):Int),.bool false]):=aa fun m=>by rw[show((at'+n:Nat):Int)=(at':Int)+(n:Int)from by omega];exact I.same rfl
  have N:Hid (∀m,Kq (fun k=>k=X) w ((w.setCell ⟨X,1,none⟩ (.int .i64 ((at':Int)+(n:Int)))).drewN m)):=aa fun m=>by have h:=(Kq.refl w).setCell (Q:=fun k=>k=X) ⟨X,1,none⟩ rfl (.int .i64 ((at':Int)+(n:Int)));exact⟨h.os,h.tape,h.output,h.size,h.block⟩
  have p0:=I.cell (i:=0) rfl;have p1:=I.cell (i:=1) rfl;have aJ:(0:Int)<=(at':Int):=by omega
  have aK:(at':Int)<=(at':Int)+(n:Int):=by omega
  have aL:(at':Int)+(n:Int)<=(c:Int):=by omega
  have aM:¬(c - at'=0):=by omega
  have Hg:=aa W;clear a I h6 h7 U h9 e2 W
  go_wp2_with fail
  go_quiet (fail)
  go_wp2_with fail
  go_ret;refine⟨.slice (some ⟨g,o+at',none⟩) n (c - at'),?_,aw _ (N _),fun k G=>.inl ?_,ar _ (N _) (au _),(Kq.AI l.1).trans (N _)⟩
  ·first | rfl | (rw[Nat.add_sub_cancel_left];rfl)
  ·cases G;exact Hg
 ·rw[zg H];cases sh
  ·have aG:decide ((L:Int) - (at':Int) < (n:Int))=true:=decide_eq_true (by
    have:¬n<=r.length:=fun q=>H ⟨rfl,q⟩
    omega)
   clear H ab F A;go_enter Tryz.func97,Tryz.ntmps97
   go_wp2_with fail
   go_quiet (fail)
   obtain⟨w,u⟩:=exq (t.drewN nq);rw[<-u];have l:Hid (az t w/\w.heap.size=t.heap.size):=aa (by rw[u];exact⟨(DI _ _).drewN _,rfl⟩);clear u x0 x1 x2;have a:=K.ext l.1;have x:=S.kept (F':=fun k=>k < X) fun b E y=>⟨E,l.1.block b y⟩
   have q0:=a.cell (i:=0) rfl;have q1:=a.cell (i:=1) rfl;have q2:=a.cell (i:=2) rfl;have f2:=a.fz (i:=2) (show 2 < 3 by decide);have O:=aa (a.put (i:=2) (show 2 < 3 by decide) (.bool true));have C:Hid (Kq (fun k=>k=X) w (w.setCell ⟨X,2,none⟩ (.bool true))):=aa ((Kq.refl w).setCell (Q:=fun k=>k=X) ⟨X,2,none⟩ rfl _);have M:Hid (fq L (w.setCell ⟨X,2,none⟩ (.bool true)) X (true,r)):=aa ⟨⟨p,c,at',b,O,d.1,d.2.1,d.2.2.1,x.kept fun i Y y=>⟨Y,C.block i y (fun q=>by omega)⟩,d.2.2.2.1,by unfold DV;exact d.2.2.2.2⟩,J.Ct,hle⟩;obtain⟨f,aH,z,D,hs⟩:=kn (P:=DE) aO n (by omega) (by unfold DV;omega) (w.setCell ⟨X,2,none⟩ (.bool true));have B:=aa D;rw[show(w.setCell ⟨X,2,none⟩ (.bool true)).heap.size=w.heap.size from by simp]at z
   have R:Hid (Rd f .u8 (.slice (some ⟨w.heap.size,0,none⟩) n n) (D7 n 0)):=aa (by
    have h:=bh.AS z;show bh f _ (D7 n (0:Int)).length _
    rw[G4];exact h)
   clear a x z D hs
   go_wp2_with fail
   go_ret;exact⟨.slice (some ⟨w.heap.size,0,none⟩) n n,rfl,R,fun k G=>.inr (by cases G;exact E9 l.2.symm),M.ext B,((Kq.AI l.1).trans C).trans (Kq.AI B)⟩
  ·clear H ab F A;go_enter Tryz.func97,Tryz.ntmps97
   go_wp2_with fail
   go_quiet (fail)
   obtain⟨w,u⟩:=exq (t.drewN nq);rw[<-u];have l:Hid (az t w/\w.heap.size=t.heap.size):=aa (by rw[u];exact⟨(DI _ _).drewN _,rfl⟩);clear u x0 x1 x2;have a:=K.ext l.1;have x:=S.kept (F':=fun k=>k < X) fun b E y=>⟨E,l.1.block b y⟩
   have q0:=a.cell (i:=0) rfl;have q1:=a.cell (i:=1) rfl;have q2:=a.cell (i:=2) rfl;have f2:=a.fz (i:=2) (show 2 < 3 by decide);have O:=aa (a.put (i:=2) (show 2 < 3 by decide) (.bool true));have C:Hid (Kq (fun k=>k=X) w (w.setCell ⟨X,2,none⟩ (.bool true))):=aa ((Kq.refl w).setCell (Q:=fun k=>k=X) ⟨X,2,none⟩ rfl _);have M:Hid (fq L (w.setCell ⟨X,2,none⟩ (.bool true)) X (true,r)):=aa ⟨⟨p,c,at',b,O,d.1,d.2.1,d.2.2.1,x.kept fun i Y y=>⟨Y,C.block i y (fun q=>by omega)⟩,d.2.2.2.1,by unfold DV;exact d.2.2.2.2⟩,J.Ct,hle⟩;obtain⟨f,aH,z,D,hs⟩:=kn (P:=DE) aO n (by omega) (by unfold DV;omega) (w.setCell ⟨X,2,none⟩ (.bool true));have B:=aa D;rw[show(w.setCell ⟨X,2,none⟩ (.bool true)).heap.size=w.heap.size from by simp]at z
   have R:Hid (Rd f .u8 (.slice (some ⟨w.heap.size,0,none⟩) n n) (D7 n 0)):=aa (by
    have h:=bh.AS z;show bh f _ (D7 n (0:Int)).length _
    rw[G4];exact h)
   clear a x z D hs
   go_wp2_with fail
   go_ret;exact⟨.slice (some ⟨w.heap.size,0,none⟩) n n,rfl,R,fun k G=>.inr (by cases G;exact E9 l.2.symm),M.ext B,((Kq.AI l.1).trans C).trans (Kq.AI B)⟩
def zh (B:Nat) (w:DF) (v:DG) (l:Cp):Prop:=∃vp vs vb L,v=.agg (cL l vp vs vb).toArray/\bZ (fun k=>B<=k) w l vp vs vb L
def kF (pr:Nat × Cp) (w:DF) (e:Ending) (w':DF):Prop:=∃v',e=.returned (.tuple #[v',.int .i64 (pr.1:Nat)])/\zh w.heap.size w' v' pr.2/\az w w'
theorem zh.zero (B:Nat) (w:DF):zh B w (.agg zL) dI:=⟨_,_,_,[],rfl,bZ.nil _ _ _ _ _ _ _ _⟩
theorem dH.zero (w:DF):dH w (.agg zL) dI:=⟨_,_,_,_,[],rfl,kA.zero w⟩
theorem j6 {α :Type} (f:bB->List α × bB) (m:Nat) (s:bB) (hm:0 < m) (h:s.1=false):bI f m s=((f s).1++(bI f (m - 1) (f s).2).1,(bI f (m - 1) (f s).2).2):=by
 obtain⟨k,rfl⟩:∃k,m=k+1:=⟨m - 1,by omega⟩;rw[Nat.add_sub_cancel];simp[bI,h]
theorem Pk.zero (w:DF) (e:Ec) (B:Nat) (h:B<=w.heap.size):Pk (w.alloc (.cells #[] e)) B 1 (.slice (some ⟨w.heap.size,0,none⟩) 0 0) 0 []:=Pk.AS (et w e B h 1)
theorem GP.kx {α :Type} {f: α ->List DG} {s:Nat} {a:(Nat->Prop)->DF-> α ->Prop} (e:fG a) {B:Nat} {c w:DF} {Y d:Nat} {cs:List DG} {v:DG} {M:List α} (h:GP f s a B c Y d cs v M) (k:Kq (fun k=>k=X\/c.heap.size<=k) c w) (i:X < Y) (g:X < B):GP f s a B w Y d cs v M:=
 h.kept (Q:=fun k=>k=X) e (k.mono fun j m q=>by omega) (fun q=>by omega) (fun b l q=>by omega)
structure JB (Len B X Y fi:Nat) (cs:List DG) (vr:DG) (M:List Bv) (sa sb:bB) (st:List Int) (W0:DF) (d:Nat->Bool) (u:Nat->DG) (w:DF):Prop where
 kk:d 7=false->Kq (fun k=>k=X\/W0.heap.size<=k) W0 w
 a:d 4=false->fq Len w X sa
 b:d 4=true->d 7=false->fq Len w X sb
 c:d 2=true->d 5=false->Pk w W0.heap.size 1 (u 77) 0 []
 e:d 4=true->d 5=false->Rd w .u8 (u 79) st
 f:d 5=true->d 6=false->Pk w W0.heap.size 1 (u 80) st.length (ao .u8 st)
 g:d 6=true->d 7=false->F2 Len cB 1 iI B X Y fi cs vr M (fun y=>y.2=st) sb (u 81) w
 h:d 7=true->F3 Len cB 1 iI B X Y fi cs vr M (fun y=>y.2=st) sb (u 82) w
section
variable {Len B X Y fi:Nat} {cs:List DG} {vr:DG} {M:List Bv} {sa sb:bB} {st:List Int} {W0:DF} {d:Nat->Bool} {u:Nat->DG} {w w':DF}
theorem JB.start (h:fq Len w X sa) (k:Kq (fun k=>k=X\/W0.heap.size<=k) W0 w):JB Len B X Y fi cs vr M sa sb st W0 (fun _=>false) u w:=
 ⟨fun _=>k,fun _=>h,fun q=>(by cases q),fun q=>(by cases q),fun q=>(by cases q),fun q=>(by cases q),fun q=>(by cases q),fun q=>(by cases q)⟩
theorem JB.same {i t:Nat} {v:DG} (h:JB Len B X Y fi cs vr M sa sb st W0 d u w) (j:(decide (i=2)||decide (i=4)||decide (i=5)||decide (i=6)||decide (i=7)||decide (t=77)||decide (t=79)||decide (t=80)||decide (t=81)||decide (t=82))=false):JB Len B X Y fi cs vr M sa sb st W0 (bD d i) (aQ (some t) u v) w:=by
 simp only[Et,decide_eq_false_iff_not]at j;obtain⟨⟨⟨⟨⟨⟨⟨⟨⟨h1,h2⟩,r⟩,s⟩,x⟩,y⟩,z⟩,A⟩,C⟩,q⟩:=j;have k:bD d i 2=d 2:=if_neg (fun e=>h1 e.symm);have a2:bD d i 4=d 4:=if_neg (fun e=>h2 e.symm);have a3:bD d i 5=d 5:=if_neg (fun e=>r e.symm);have a4:bD d i 6=d 6:=if_neg (fun e=>s e.symm);have a5:bD d i 7=d 7:=if_neg (fun e=>x e.symm);have l:aQ (some t) u v 77=u 77:=if_neg (fun e=>y e.symm);have m:aQ (some t) u v 79=u 79:=if_neg (fun e=>z e.symm);have n:aQ (some t) u v 80=u 80:=if_neg (fun e=>A e.symm);have o:aQ (some t) u v 81=u 81:=if_neg (fun e=>C e.symm);have p:aQ (some t) u v 82=u 82:=if_neg (fun e=>q e.symm);exact⟨by rw[a5];exact h.kk,by rw[a2];exact h.a,by rw[a2,a5];exact h.b,by rw[k,a3,l];exact h.c,by rw[a2,a3,m];exact h.e,by rw[a3,a4,n];exact h.f,by rw[a4,a5,o];exact h.g,by rw[a5,p];exact h.h⟩
theorem JB.mk' (h:JB Len B X Y fi cs vr M sa sb st W0 d u w) (g:d 5=false) (i:d 6=false) (f:d 7=false) (e:Ec):JB Len B X Y fi cs vr M sa sb st W0 (bD d 2) (aQ (some 77) u (.slice (some ⟨w.heap.size,0,none⟩) 0 0)) (w.alloc (.cells #[] e)):=by
 have c:=ae w (.cells #[] e);exact⟨fun q=>(h.kk q).trans (Kq.AI c),fun q=>(h.a q).ext c,fun q k=>(h.b q k).ext c,fun _ _=>Pk.zero w e _ (h.kk f).size,fun q j=>bh.ext (h.e q j) c,fun q=>(by have q:d 5=true:=q;rw[g]at q;cases q),fun q=>(by have q:d 6=true:=q;rw[i]at q;cases q),fun q=>(by have q:d 7=true:=q;rw[f]at q;cases q)⟩
theorem JB.tk (h:JB Len B X Y fi cs vr M sa sb st W0 d u w) (f:d 5=false) (g:d 6=false) (i:d 7=false) (m:X < W0.heap.size) {e:DG} (r:Rd w' .u8 e st) (l:fq Len w' X sb) (k:Kq (fun k=>k=X) w w'):JB Len B X Y fi cs vr M sa sb st W0 (bD d 4) (aQ (some 79) u e) w':=
 ⟨fun q=>(h.kk q).trans (k.mono fun _ _ q=>.inl q),fun q=>(by cases q),fun _ _=>l,fun q b=>(h.c q b).kept (fun j a=>k.block j ((h.c q b).block j a).2 (fun q=>by have:=((h.c ‹_› ‹_›).block j a).1;omega)) k.size,fun _ _=>r,fun q=>(by have q:d 5=true:=q;rw[f]at q;cases q),fun q=>(by have q:d 6=true:=q;rw[g]at q;cases q),fun q=>(by have q:d 7=true:=q;rw[i]at q;cases q)⟩
theorem JB.ap (h:JB Len B X Y fi cs vr M sa sb st W0 d u w) (h2:d 2=true) (e:d 4=true) (j:d 5=false) (l:d 6=false) (m:d 7=false) (s:X < W0.heap.size) (n:B<=W0.heap.size) {f:DG} (p:Pk w' W0.heap.size 1 f (0+st.length) ([]++ao .u8 st)) (g:w.grownBy w' (u 77).ownBlock):Kq (fun k=>k=X\/B<=k) w w'/\JB Len B X Y fi cs vr M sa sb st W0 (bD d 5) (aQ (some 80) u f) w':=by
 have a:Kq (fun k=>W0.heap.size<=k) w w':=Kq.grown g fun k o=>((h.c h2 j).block k o).1
 rw[DY,List.nil_append]at p;exact⟨a.mono fun k _ q=>.inr (D0 n q),fun q=>(h.kk q).trans (a.mono fun _ _ q=>.inr q),fun q=>(by have q:d 4=false:=q;rw[e]at q;cases q),fun _ r=>(h.b e r).kept a (fun i t q=>by omega),fun _ q=>(by cases q),fun _ q=>(by cases q),fun _ _=>p,fun q=>(by have q:d 6=true:=q;rw[l]at q;cases q),fun q=>(by have q:d 7=true:=q;rw[m]at q;cases q)⟩
theorem JB.f1 (h:JB Len B X Y fi cs vr M sa sb st W0 d u w) (k:d 4=true) (l:d 5=true) (m:d 6=false) (e:d 7=false) (a:GP cB 1 iI B W0 Y fi cs vr M) (g:B<=W0.heap.size) (o:X < Y) (n:X < B) (r:bA st):F1 Len cB 1 iI B X Y fi cs vr M (fun y=>y.2=st) sb (u 80) w:=by
 have hp:=h.f l m;obtain⟨p,c,t,_⟩:=hp.AT.form;have j:dC w (u 80) st:=⟨p,c,t,hp.AT⟩;have i:=h.kk e;refine⟨(u 80,st),rfl,pF j,rfl,vR j,⟨aS.By hp.AT fun b s _=> ?_,r⟩,h.b k e,a.kx br i o n,D0 g i.size⟩;have h1:=(hp.block b s).1;refine⟨fun q=> ?_,fun q=> ?_,D0 g h1⟩
 ·have:=a.box.lt;omega
 ·have:=(a.own.block b q).2;omega
theorem JB.bd (h:JB Len B X Y fi cs vr M sa sb st W0 d u w) (c:d 4=true) (a:d 5=true) (i:d 6=false) (f:d 7=false) (k:GP cB 1 iI B W0 Y fi cs vr M) (j:B<=W0.heap.size) (m:X < Y) (l:X < B) (n:bA st) (e:Ec):JB Len B X Y fi cs vr M sa sb st W0 (bD d 6) (aQ (some 81) u (.slice (some ⟨w.heap.size,0,none⟩) 1 1)) (w.alloc (.cells (u 80).cells e)):=by
 have g:=ae w (.cells (u 80).cells e);have h1:=h.f1 c a i f k j m l n;exact⟨fun q=>(h.kk q).trans (Kq.AI g),fun q=>(by have q:d 4=false:=q;rw[c]at q;cases q),fun q o=>(h.b q o).ext g,fun _ q=>(by have q:d 5=false:=q;rw[a]at q;cases q),fun _ q=>(by have q:d 5=false:=q;rw[a]at q;cases q),fun _ q=>(by cases q),fun _ _=>h1.f2 br e,fun q=>(by have q:d 7=true:=q;rw[f]at q;cases q)⟩
theorem JB.app (c:d 4=true) (a:d 5=true) (e:d 6=true) {b:DG} (h:F3 Len cB 1 iI B X Y fi cs vr M (fun y=>y.2=st) sb b w'):JB Len B X Y fi cs vr M sa sb st W0 (bD d 7) (aQ (some 82) u b) w':=
 ⟨fun q=>(by cases q),fun q=>(by have q:d 4=false:=q;rw[c]at q;cases q),fun _ q=>(by cases q),fun _ q=>(by have q:d 5=false:=q;rw[a]at q;cases q),fun _ q=>(by have q:d 5=false:=q;rw[a]at q;cases q),fun _ q=>(by have q:d 6=false:=q;rw[e]at q;cases q),fun _ q=>(by cases q),fun _=>h⟩
end
structure JI (Len B X Y fi:Nat) (cs:List DG) (vr:DG) (M:List Int) (sa sb:bB) (st:List Int) (n:Int) (d:Nat->Bool) (u:Nat->DG) (w:DF):Prop where
 a:d 3=false->F0 Len cI 1 jb B X Y fi cs vr M sa w
 b:d 3=true->d 4=false->Rd w .u8 (u 104) st/\F0 Len cI 1 jb B X Y fi cs vr M sb w
 c:d 4=true->d 5=false->F1 Len cI 1 jb B X Y fi cs vr M (fun y=>y=n) sb (u 105) w
 e:d 5=true->d 6=false->F2 Len cI 1 jb B X Y fi cs vr M (fun y=>y=n) sb (u 106) w
 f:d 6=true->F3 Len cI 1 jb B X Y fi cs vr M (fun y=>y=n) sb (u 107) w
section
variable {Len B X Y fi:Nat} {cs:List DG} {vr:DG} {M:List Int} {sa sb:bB} {st:List Int} {n:Int} {d:Nat->Bool} {u:Nat->DG} {w w':DF}
theorem JI.start (h:F0 Len cI 1 jb B X Y fi cs vr M sa w):JI Len B X Y fi cs vr M sa sb st n (fun _=>false) u w:=
 ⟨fun _=>h,fun q=>(by cases q),fun q=>(by cases q),fun q=>(by cases q),fun q=>(by cases q)⟩
theorem JI.same {i t:Nat} {v:DG} (h:JI Len B X Y fi cs vr M sa sb st n d u w) (j:(decide (i=3)||decide (i=4)||decide (i=5)||decide (i=6)||decide (t=104)||decide (t=105)||decide (t=106)||decide (t=107))=false):JI Len B X Y fi cs vr M sa sb st n (bD d i) (aQ (some t) u v) w:=by
 simp only[Et,decide_eq_false_iff_not]at j;obtain⟨⟨⟨⟨⟨⟨⟨h1,h2⟩,p⟩,q⟩,r⟩,s⟩,x⟩,y⟩:=j;have g:bD d i 3=d 3:=if_neg (fun e=>h1 e.symm);have a2:bD d i 4=d 4:=if_neg (fun e=>h2 e.symm);have a3:bD d i 5=d 5:=if_neg (fun e=>p e.symm);have a4:bD d i 6=d 6:=if_neg (fun e=>q e.symm);have k:aQ (some t) u v 104=u 104:=if_neg (fun e=>r e.symm);have l:aQ (some t) u v 105=u 105:=if_neg (fun e=>s e.symm);have m:aQ (some t) u v 106=u 106:=if_neg (fun e=>x e.symm);have o:aQ (some t) u v 107=u 107:=if_neg (fun e=>y e.symm);exact⟨by rw[g];exact h.a,by rw[g,a2,k];exact h.b,by rw[a2,a3,l];exact h.c,by rw[a3,a4,m];exact h.e,by rw[a4,o];exact h.f⟩
theorem JI.tk (h:JI Len B X Y fi cs vr M sa sb st n d u w) (c:d 3=false) (f:d 4=false) (g:d 5=false) (i:d 6=false) (m:X < Y) (l:X < B) {e:DG} (r:Rd w' .u8 e st) (j:fq Len w' X sb) (k:Kq (fun k=>k=X) w w'):JI Len B X Y fi cs vr M sa sb st n (bD d 3) (aQ (some 104) u e) w':=
 ⟨fun q=>(by cases q),fun _ _=>⟨r,j,(h.a c).2.1.kept bX k (fun q=>by omega) (fun b o q=>by omega),D0 (h.a c).2.2 k.size⟩,fun q=>(by have q:d 4=true:=q;rw[f]at q;cases q),fun q=>(by have q:d 5=true:=q;rw[g]at q;cases q),fun q=>(by have q:d 6=true:=q;rw[i]at q;cases q)⟩
theorem JI.nm (h:JI Len B X Y fi cs vr M sa sb st n d u w) (a:d 3=true) (c:d 4=false) (e:d 5=false) (f:d 6=false):JI Len B X Y fi cs vr M sa sb st n (bD d 4) (aQ (some 105) u (.int .i64 n)) w:=
 ⟨fun q=>(by have q:d 3=false:=q;rw[a]at q;cases q),fun _ q=>(by cases q),fun _ _=>⟨n,rfl,rfl,rfl,vS n,trivial,(h.b a c).2.1,(h.b a c).2.2.1,(h.b a c).2.2.2⟩,fun q=>(by have q:d 5=true:=q;rw[e]at q;cases q),fun q=>(by have q:d 6=true:=q;rw[f]at q;cases q)⟩
theorem JI.bd (h:JI Len B X Y fi cs vr M sa sb st n d u w) (b:d 3=true) (a:d 4=true) (f:d 5=false) (g:d 6=false) (e:Ec):JI Len B X Y fi cs vr M sa sb st n (bD d 5) (aQ (some 106) u (.slice (some ⟨w.heap.size,0,none⟩) 1 1)) (w.alloc (.cells (u 105).cells e)):=
 ⟨fun q=>(by have q:d 3=false:=q;rw[b]at q;cases q),fun _ q=>(by have q:d 4=false:=q;rw[a]at q;cases q),fun _ q=>(by cases q),fun _ _=>(h.c a f).f2 bX e,fun q=>(by have q:d 6=true:=q;rw[g]at q;cases q)⟩
theorem JI.app (b:d 3=true) (c:d 4=true) (e:d 5=true) {a:DG} (h:F3 Len cI 1 jb B X Y fi cs vr M (fun y=>y=n) sb a w'):JI Len B X Y fi cs vr M sa sb st n (bD d 6) (aQ (some 107) u a) w':=
 ⟨fun q=>(by have q:d 3=false:=q;rw[b]at q;cases q),fun _ q=>(by have q:d 4=false:=q;rw[c]at q;cases q),fun _ q=>(by have q:d 5=false:=q;rw[e]at q;cases q),fun _ q=>(by cases q),fun _=>h⟩
end
structure xz (Len X:Nat) (sa sb:bB) (st:List Int) (d:Nat->Bool) (u:Nat->DG) (w:DF):Prop where
 a:d 2=false->fq Len w X sa
 b:d 2=true->fq Len w X sb/\Rd w .u8 (u 151) st
section
variable {Len X:Nat} {sa sb:bB} {st:List Int} {d:Nat->Bool} {u:Nat->DG} {w w':DF}
theorem xz.start (h:fq Len w X sa):xz Len X sa sb st (fun _=>false) u w:=⟨fun _=>h,fun q=>(by cases q)⟩
theorem xz.same {i t:Nat} {v:DG} (h:xz Len X sa sb st d u w) (c:(decide (i=2)||decide (t=151))=false):xz Len X sa sb st (bD d i) (aQ (some t) u v) w:=by
 simp only[Et,decide_eq_false_iff_not]at c;have f:bD d i 2=d 2:=if_neg (fun e=>c.1 e.symm);have g:aQ (some t) u v 151=u 151:=if_neg (fun e=>c.2 e.symm);exact⟨by rw[f];exact h.a,by rw[f,g];exact h.b⟩
theorem xz.tk {a:DG} (r:Rd w' .u8 a st) (b:fq Len w' X sb):xz Len X sa sb st (bD d 2) (aQ (some 151) u a) w':=
 ⟨fun q=>(by cases q),fun _=>⟨b,r⟩⟩
end
section
variable {P:Program} {ops:Array Oper} {rest:List Oper} {a:Act} {w w':DF} {Q:Exit->Act->DF->Prop} {d:Option Tmp} {tt t t2:Ec} {pp:String} {af:Array Edge} {s x:Operand} {v u r:DG}
theorem uj {args:Array Operand} {b:Array Ec} (h:jF (Fl P ops Q (⟨d,.call {callee:=.builtin .copy,args:=args,argTypes:=b},tt,pp,af,none⟩ :: rest) a w)):Fl P ops Q (⟨d,.call {callee:=.builtin .copy,args:=args,argTypes:=b},tt,pp,af,none⟩ :: rest) a w:=h
theorem wG (c:∀ty,(Builtin.copy_ #[t,t2] ty #[v,u]).run P w=.ok r w') (e:a.eval s=v) (hx:a.eval x=u) (h:Fl P ops Q rest (a.put d r) w'):
  Fl P ops Q (⟨d,.call {callee:=.builtin .copy,args:=#[s,x],argTypes:=#[t,t2]},tt,pp,af,none⟩ :: rest) a w:=
 wpList_plain rfl fun K b=>by
  unfold Oper.wp execOp;simp only[resolve,invoke,builtin,Sem.run_bind,Sem.run_pure,Result.andThen_ok,List.map_toArray,List.map_cons,List.map_nil,e,hx,c];exact b _ _ h
theorem wH {e:Ec} {D b o n c:Nat} {f:List DG} {st:List Int} (hu:P.underlying t=some (.slice e)) (i:(P.info? e).map (·.size)=some 1) (d:av w D f) (k:f.length=n) (h:w.rangeAt b o (ao .u8 st)) (g:st.length=n) (ty:Ec):
  (Builtin.copy_ #[t,t2] ty #[.slice (some ⟨D,0,none⟩) n n,.slice (some ⟨b,o,none⟩) n c]).run P w=.ok (goInt (ao .u8 st).length) (w.setCells D 0 (ao .u8 st)):=
 run_copy_cells (P:=P) w t t2 ty e D 0 n n ⟨b,o,none⟩ n c (ao .u8 st) hu i (by rw[ints_length,g];exact(Nat.min_self n).symm) (fun j u a=>by rw[Addr.add_mid];exact h j u a) (fun j a=>(d.th j (by rw[ints_length]at a;omega)).1) (fun j a=>(d.th j (by rw[ints_length]at a;omega)).2) (aF _ _)
end
def sP (L X nb:Nat) (s:bB) (y:List Int) (s':bB):Prop:=∀w2,fq L w2 X s->Calls DE 97 #[.pointer (some ⟨X,0,none⟩),.int .i64 nb] w2 fun e w'=>∃v',e=.returned v'/\Rd w' .u8 v' y/\fq L w' X s'/\Kq (fun k=>k=X) w2 w'
def rz (y:List Int) (z:Int):Prop:=∀v w2,Rd w2 .u8 v y->Calls DE 96 #[v] w2 fun e w'=>e=.returned (.int .i64 z)/\w'=w2
theorem dD (L X nb:Nat) (s:bB) (h1:1<=nb) (a:nb<=9000):sP L X nb s (bo nb s).1 (bo nb s).2:=fun c h=>(ui L X nb s c h h1 a).mono fun _ _ ⟨b,g0,g1,_,g3,g4⟩=>⟨b,g0,g1,g3,g4⟩
theorem kG (nb:Nat) (s:bB) (b:nb<=9000) (a:bA s.2):rz (bo nb s).1 (cT 0 (bo nb s).1):=fun v c h=>uh v _ c h (dd a).1 (by rw[fV];exact b)
theorem kH (s:bB) (a:bA s.2):rz (bo 2 s).1 (cj 2 s).1:=by
 have h:=kG 2 s (by decide) a;rw[me (dd a).1 (sO a).2]at h;exact h
theorem nI (s:bB) (a:bA s.2):rz (bo 1 s).1 (cj 1 s).1:=by
 have h:=kG 1 s (by decide) a;rw[me (dd a).1 (by have h2:=(oB a).2;have b:eS (bo 1 s).1<=255:=h2;omega)]at h;exact h
end Go.Proofs.Bl
