/- Texts that stood apart, in one: LR0, LR1. -/
import Derived.Test.YtglenbikdahgjaaGreatDoorPr06
set_option maxRecDepth 100000
set_option maxHeartbeats 16000000
open Bool renaming and_eq_true->Ek
open Go renaming Calls->DN,Value->DG,World->DF,maxLen->DV
open Go.Region renaming wanted->DP
open Go.RowKit renaming intOf->Ef
open Go.RowKit.Below renaming refl->DI
open Go.Value renaming slice->FE
open Go.World renaming cell?_alloc_new->D6,cell?_of_block->EH
open List renaming append_assoc->Em,append_nil->Ew,length_append->DS,length_map->D2,take_of_length_le->DW,take_zero->E4
open Nat renaming le_refl->DH,le_trans->D0,lt_of_lt_of_le->D9,zero_add->DY,zero_le->DZ
namespace Go.Proofs.Bl
open Go Go.RowKit Go.Proofs
open Go.Proofs.Tryz renaming ntmps60->Ih,prog->DE
structure eX (w0:DF) (cs:List DG) (w:DF) (v:DG) (n:Nat) (l:List Int):Prop where
 box:av w w0.heap.size cs
 own:Pk w (w0.heap.size+1) 1 v n (ao .u8 l)
 ext:az w0 w
section
variable {w0 w w':DF} {cs:List DG} {v v':DG} {n m:Nat} {l u:List Int}
theorem eX.ext' (h:eX w0 cs w v n l) (a:az w w'):eX w0 cs w' v n l:=⟨h.box.ext a,h.own.ext a,h.ext.trans a⟩
theorem eX.le (h:eX w0 cs w v n l):w0.heap.size+1<=w.heap.size:=h.box.lt
theorem eX.push (h:eX w0 cs w v n l) (h2:Pk w' (w0.heap.size+1) 1 v' (n+m) (ao .u8 l++ao .u8 u)) (a:w.grownBy w' v.ownBlock):eX w0 cs w' v' (n+m) (l++u):=by
 refine⟨h.box.grown a (fun q=>by have:=(h.own.block _ q).1;omega),by rw[aT];exact h2,h.ext.grown a h.ext.size (fun k b=>by have:=(h.own.block k b).1;omega)⟩
theorem eX.form (h:eX w0 cs w v n l):∃p c,v=.slice p n c:=by
 obtain⟨p,c,h1,_⟩:=h.own.AT.form;exact⟨p,c,h1⟩
theorem eX.rd (h:eX w0 cs w v n l) (a:l.length=n):Rd w .u8 v l:=by
 subst a;exact h.own.AT
end
theorem gX (w:DF) (e:TypeId) (c:DG) {B:Nat} (a:B<=w.heap.size):Pk (w.alloc (.cells #[c] e)) B 1 (.slice (some ⟨w.heap.size,0,none⟩) 1 1) 1 [c]:=Pk.AS (bW w e #[c] B 1 1 a (by decide) rfl)
theorem dz {w:DF} {v:DG} {l:List Int} (h:dC w v l) (h0:0 < l.length):∃b o c,v=.slice (some ⟨b,o,none⟩) l.length c/\w.rangeAt b o (ao .u8 l):=by
 obtain⟨p,c,rfl,d⟩:=h;obtain⟨b,o,a,h1,_,_,_,h2,_⟩:=Rd.pos d h0;exact⟨b,o,a,h1,h2⟩
theorem yR (l:List (List Int)) {i:Nat} (h:i < l.length):l.getD i []∈l:=by
 rw[List.getD_eq_getElem?_getD,List.getElem?_eq_getElem h];exact List.getElem_mem h
theorem sX {c:Int} {j:Nat} {x:DG} (hx:(ao .u8 [c])[j]? =some x):(#[Value.int .u8 c])[j]? =some x:=by
 cases j with
 | zero=>exact hx
 | succ j=>cases hx
structure JL (W n:Nat) (v0:DG) (B:Nat) (l tw st:List Int) (lb:Int) (d:Nat->Bool) (u:Nat->DG) (w:DF):Prop where
 le:W<=w.heap.size
 bw:B<=W
 a:d 4=false->Pk w B 1 v0 n (ao .u8 l)
 b:d 3=true->d 4=false->∃b o c,u 105=.slice (some ⟨b,o,none⟩) 2 c/\w.rangeAt b o (ao .u8 tw)
 c:d 4=true->d 7=false->Pk w B 1 (u 106) (n+2) (ao .u8 l++ao .u8 tw)/\∀k,(u 106).ownBlock=some k->v0.ownBlock=some k\/W<=k
 f:d 7=true->Pk w B 1 (u 109) (n+2+16) (ao .u8 l++ao .u8 tw++ao .u8 st)
 g:d 12=true->∃g,u 114=.slice (some ⟨g,0,none⟩) 1 1/\W<=g/\g < w.heap.size/\w.rangeAt g 0 [.int .u8 lb]/\(d 4=true->d 7=false->(u 106).ownBlock≠some g)/\(d 7=true->(u 109).ownBlock≠some g)
 h:v0.ownBlock=none\/∃k,v0.ownBlock=some k/\k < W
 k9:d 7=true->∀k,(u 109).ownBlock=some k->v0.ownBlock=some k\/W<=k
section
variable {W n B:Nat} {v0:DG} {l tw st:List Int} {lb:Int} {d:Nat->Bool} {u:Nat->DG} {w w':DF}
theorem JL.start (h:Pk w B 1 v0 n (ao .u8 l)) (a:W=w.heap.size) (b:B<=W):JL W n v0 B l tw st lb (fun _=>false) u w:=
 ⟨Nat.le_of_eq a,b,fun _=>h,fun q=>(by cases q),fun q=>(by cases q),fun q=>(by cases q),fun q=>(by cases q),by
  cases hv:v0.ownBlock with
  | none=>exact .inl rfl
  | some k=>exact .inr ⟨k,rfl,by rw[a];exact(h.block k hv).2⟩,fun q=>(by cases q)⟩
theorem JL.ext {i t:Nat} {v:DG} (h:JL W n v0 B l tw st lb d u w) (j:az w w') (A:(decide (i=3)||decide (i=4)||decide (i=7)||decide (i=12)||decide (t=105)||decide (t=106)||decide (t=109)||decide (t=114))=false):JL W n v0 B l tw st lb (bD d i) (aQ (some t) u v) w':=by
 simp only[Bool.or_eq_false_iff,decide_eq_false_iff_not]at A;obtain⟨⟨⟨⟨⟨⟨⟨h1,h2⟩,H⟩,I⟩,J⟩,K⟩,L⟩,M⟩:=A;have a3:bD d i 3=d 3:=if_neg (fun e=>h1 e.symm);have a4:bD d i 4=d 4:=if_neg (fun e=>h2 e.symm);have k:bD d i 7=d 7:=if_neg (fun e=>H e.symm);have a12:bD d i 12=d 12:=if_neg (fun e=>I e.symm);have D:aQ (some t) u v 105=u 105:=if_neg (fun e=>J e.symm);have s:aQ (some t) u v 106=u 106:=if_neg (fun e=>K e.symm);have o:aQ (some t) u v 109=u 109:=if_neg (fun e=>L e.symm);have C:aQ (some t) u v 114=u 114:=if_neg (fun e=>M e.symm);refine⟨D0 h.le j.size,h.bw,?_,?_,?_,?_,?_,h.h,by rw[k,o];exact h.k9⟩
 ·rw[a4];exact fun q=>(h.a q).ext j
 ·rw[a3,a4,D];exact fun q m=>(by obtain⟨x,y,z,p,r⟩:=h.b q m;exact⟨x,y,z,p,aJ r j⟩)
 ·rw[a4,k,s];exact fun q m=>⟨(h.c q m).1.ext j,(h.c q m).2⟩
 ·rw[k,o];exact fun q=>(h.f q).ext j
 ·rw[a12,a4,k,s,o,C];exact fun q=>(by obtain⟨g,p,r,E,F,G⟩:=h.g q;exact⟨g,p,r,D9 E j.size,aJ F j,G⟩)
theorem JL.same {i t:Nat} {v:DG} (h:JL W n v0 B l tw st lb d u w) (a:(decide (i=3)||decide (i=4)||decide (i=7)||decide (i=12)||decide (t=105)||decide (t=106)||decide (t=109)||decide (t=114))=false):JL W n v0 B l tw st lb (bD d i) (aQ (some t) u v) w:=h.ext (DI _ _) a
theorem JL.call {v:DG} (h:JL W n v0 B l tw st lb d u w) (r:d 4=false) (f:d 7=false) (e:az w w') (s:∃b o c,v=.slice (some ⟨b,o,none⟩) 2 c/\w'.rangeAt b o (ao .u8 tw)):JL W n v0 B l tw st lb (bD d 3) (aQ (some 105) u v) w':=by
 refine⟨D0 h.le e.size,h.bw,fun q=>(h.a q).ext e,fun _ _=>s,fun q=> ?_,fun q=> ?_,fun q=> ?_,h.h,fun q=>(by have q:d 7=true:=q;rw[f]at q;cases q)⟩
 ·have q:d 4=true:=q;rw[r]at q;cases q
 ·have q:d 7=true:=q;rw[f]at q;cases q
 ·obtain⟨g,i,j,k,m,p⟩:=h.g q;exact⟨g,i,j,D9 k e.size,aJ m e,p⟩
theorem JL.CF (h:JL W n v0 B l tw st lb d u w) (e:TypeId):JL W n v0 B l tw st lb (bD d 12) (aQ (some 114) u (.slice (some ⟨w.heap.size,0,none⟩) 1 1)) (w.alloc (.cells #[.int .u8 lb] e)):=by
 have i:=ae w (.cells #[.int .u8 lb] e);refine⟨D0 h.le i.size,h.bw,fun q=>(h.a q).ext i,fun q g=>(by obtain⟨x,y,z,k,m⟩:=h.b q g;exact⟨x,y,z,k,aJ m i⟩),fun q g=>⟨(h.c q g).1.ext i,(h.c q g).2⟩,fun q=>(h.f q).ext i,fun _=>⟨w.heap.size,rfl,h.le,by rw[World.size_alloc];omega,fun j x hx=> ?_,fun q g z=> ?_,fun q z=> ?_⟩,h.h,h.k9⟩
 ·rw[DY,D6];exact sX hx
 ·have:=((h.c q g).1.block _ z).2;omega
 ·have:=((h.f q).block _ z).2;omega
theorem JL.CN {e:DG} (h:JL W n v0 B l tw st lb d u w) (_t:d 4=false) (c:d 7=false) (h2:Pk w' B 1 e (n+2) (ao .u8 l++ao .u8 tw)) (a:w.grownBy w' v0.ownBlock) (b:∀j,e.ownBlock=some j->v0.ownBlock=some j\/w.heap.size<=j):Kq (fun k=>v0.ownBlock=some k\/W<=k) w w'/\JL W n v0 B l tw st lb (bD d 4) (aQ (some 106) u e) w':=by
 refine⟨Kq.grown a fun k b=>.inl b,D0 h.le a.size,h.bw,fun q=>(by cases q),fun _ q=>(by cases q),fun _ _=>⟨h2,fun k q=>(b k q).imp id fun z=>D0 h.le z⟩,fun q=> ?_,fun q=> ?_,h.h,fun q=>(by have q:d 7=true:=q;rw[c]at q;cases q)⟩
 ·have q:d 7=true:=q;rw[c]at q;cases q
 ·obtain⟨g,m,o,f,p,s⟩:=h.g q;have i:v0.ownBlock≠some g:=fun z=>by
   rcases h.h with y | ⟨k,r,v⟩
   ·rw[y]at z;cases z
   ·rw[r]at z;injection z with z;omega
  refine⟨g,m,o,D9 f a.size,fun j x hx=>by rw[EH (w:=w) (a.block g f (fun z=>i z.symm))];exact p j x hx,fun _ _ z=> ?_,fun z=> ?_⟩
  ·rcases b g z with y | y
   ·exact i y
   ·omega
  ·have z:d 7=true:=z;rw[c]at z;cases z
theorem JL.CO {f:DG} (h:JL W n v0 B l tw st lb d u w) (a:d 4=true) (e:d 7=false) (h2:Pk w' B 1 f (n+2+16) (ao .u8 l++ao .u8 tw++ao .u8 st)) (b:w.grownBy w' (u 106).ownBlock) (m:∀j,f.ownBlock=some j->(u 106).ownBlock=some j\/w.heap.size<=j):Kq (fun k=>v0.ownBlock=some k\/W<=k) w w'/\JL W n v0 B l tw st lb (bD d 7) (aQ (some 109) u f) w':=by
 refine⟨Kq.grown b (h.c a e).2,D0 h.le b.size,h.bw,fun q=> ?_,fun _ q=> ?_,fun _ q=>(by cases q),fun _=>h2,fun q=> ?_,h.h,fun _ k q=> ?_⟩
 ·have q:d 4=false:=q;rw[a]at q;cases q
 ·have q:d 4=false:=q;rw[a]at q;cases q
 ·obtain⟨g,p,r,i,s,t,_⟩:=h.g q;have o:=t a e;refine⟨g,p,r,D9 i b.size,fun j x hx=>by rw[EH (w:=w) (b.block g i (fun z=>o z.symm))];exact s j x hx,fun _ z=>(by cases z),fun _ z=> ?_⟩;rcases m g z with y | y
  ·exact o y
  ·omega
 ·rcases m k q with y | y
  ·exact(h.c a e).2 k y
  ·exact .inr (D0 h.le y)
end
theorem eK (x:Int) (w:DF) (h0:0<=x) (h1:x<=65535):
  DN DE 105 #[.int .i64 x] w fun e w'=>∃b o c,e=.returned (.slice (some ⟨b,o,none⟩) 2 c)/\w'.rangeAt b o (ao .u8 (bN x))/\az w w':=
 (vI x w h0 h1).mono fun _ _ ⟨v,h1,h2,d⟩=>by
  obtain⟨b,o,c,a,f⟩:=dz h2 (show 0 < 2 by decide);have a:v=.slice (some ⟨b,o,none⟩) 2 c:=a;subst a;exact⟨b,o,c,h1,f,d⟩
theorem rS (v:DG) (l:Cp) (w:DF) (h:dH w v l) (m:l.kind=1) (hn:bn l=true) (hz:bH l=true):
  DN DE 60 #[v] w fun e w'=>∃v',e=.returned v'/\Rd w' .u8 v' (bL l)/\az w w':=by
 obtain⟨b0,vp,vs,vb,L,rfl,j⟩:=h;obtain rfl:=j.eq;obtain⟨hid,aE,aC⟩:=dK hn;obtain⟨kd,id,g,pl,sh,A,z,a,t⟩:=l;obtain⟨p1,D,P,ap,br⟩:=j.pl.form;obtain⟨p2,E,G,bh,bs⟩:=j.sh.rd.form;obtain⟨J,F,e3,aq,bt⟩:=j.bl.form;have a3:Hid (Rd w .i64 vp pl):=aa j.pl;have a4:=aa j.sh;have bS:Hid (L.map cf=sh):=aa j.sl;have ai:Hid (bf w vb a):=aa j.bl;simp only at P G e3 m hid aE ap aq;subst P G e3;clear j hn;unfold DV at br bs bt;obtain⟨H,X⟩:=exq pl.length;obtain⟨I,Y⟩:=exq L.length;obtain⟨nb,V⟩:=exq a.length;have bO:=aa X;have bP:=aa Y;have C:=aa V;rw[<-X]at a3 ap⊢;rw[<-Y]at a4 bh⊢;rw[<-V]at ai aq⊢;clear X Y V;have bR:=aa aC;have Hz:=aa hz;clear aC hz;subst m;obtain⟨W0,R⟩:=exq (w.alloc (.cells #[.int .i64 1,.int .i64 id,.int .i64 g,.slice p1 H D,.slice p2 I E,.int .i64 A,.int .i64 z,.slice J nb F,.int .i64 t] 43));have ah:Hid (az w W0):=aa (by rw[R];exact ae _ _);obtain⟨d,U⟩:=exq (cL ⟨1,id,g,pl,sh,A,z,a,t⟩ (.slice p1 H D) (.slice p2 I E) (.slice J nb F));have B:Hid (av W0 w.heap.size d):=aa (by rw[R,U];exact av.box w 43 (cs:=(cL ⟨1,id,g,pl,sh,A,z,a,t⟩ (.slice p1 H D) (.slice p2 I E) (.slice J nb F))) (fun h=>by cases h));have r:Hid (d[0]? =some (.int .i64 1)/\d[1]? =some (.int .i64 id)/\d[2]? =some (.int .i64 g)/\d[3]? =some (.slice p1 H D)/\d[4]? =some (.slice p2 I E)/\d[5]? =some (.int .i64 A)/\d[6]? =some (.int .i64 z)/\d[7]? =some (.slice J nb F)/\d[8]? =some (.int .i64 t)):=aa (by rw[U];exact⟨rfl,rfl,rfl,rfl,rfl,rfl,rfl,rfl,rfl⟩);show DN DE 60 #[.agg #[.int .i64 1,.int .i64 id,.int .i64 g,.slice p1 H D,.slice p2 I E,.int .i64 A,.int .i64 z,.slice J nb F,.int .i64 t]] w _;obtain⟨bk,bl⟩:=hid;obtain⟨bm,bo⟩:=aE;have aY:IntKind.u8.wrap 1=1:=rfl;clear U;go_enter Tryz.func60,Ih
 go_wp2_with fail
 rw[<-R];clear R;apply aL 7 [12,13,14,15,16,17,18] [ar _,ar _,ar _,(fun v w'=>Pk w' (w.heap.size+1) 1 v 1 [.int .u8 1]),ar _,ar _,(fun v w'=>dC w' v (aM id))] (by kernel_rfl) (by kernel_rfl) (by kernel_rfl) (by kernel_rfl);case hsteps=>
  refine⟨?_,?_,?_,?_,?_,?_,?_,trivial⟩;all_goals
   intro ev K n hb hd;have P:=hb 1 (by decide);clear hb;simp only[sB]at P;simp only[sD]at hd;have j:=(aD n).1;have q0:=(B.ext n).cell r.1;have q1:=(B.ext n).cell r.2.1;simp only[dJ,DP,if_true];go_simp;first | exact⟨ae _ _,gX _ _ _ (B.ext n).lt⟩ | (go_at_call 104;(with_reducible refine(bQ id K bk bl).mono ?_);rintro e w2 ⟨v',rfl,h1,h2⟩;exact⟨_,rfl,h2,h1⟩) | exact⟨DI _ _,by rw[aY];rfl⟩ | exact⟨DI _ _,rfl⟩
 case hmono=>exact⟨aB _,aB _,aB _,(fun _ _ _ h k=>Pk.ext h k),aB _,aB _,(fun _ _ _ h k=>dC.ext h k),trivial⟩
 case hend=>
  intro u K n hend;simp only[sE]at hend;simp only[sF,hend];have aG:Pk K (w.heap.size+1) 1 (u 15) 1 [.int .u8 1]:=(by first | ((repeat(first | exact hend | exact hend.2 | replace hend:=hend.1));done) | (repeat(first | exact hend | exact hend.1 | replace hend:=hend.2)));have aN:dC K (u 18) (aM id):=(by first | ((repeat(first | exact hend | exact hend.2 | replace hend:=hend.1));done) | (repeat(first | exact hend | exact hend.1 | replace hend:=hend.2)));obtain⟨ba,bw,bc,aS,aJ⟩:=dz aN (show 0 < 8 by decide);have aR:u 18=.slice (some ⟨ba,bw,none⟩) 8 bc:=aS;have s:Hid (eX w d K (u 15) 1 [1]):=aa ⟨B.ext n,aG,ah.trans n⟩;obtain⟨cd,ab⟩:=exq (u 15);rw[<-ab]at s;rw[<-ab,aR];have a7:=aa aJ;clear aG aN aR aS aJ ab hend n B aY ah;obtain⟨b8,bU,rfl⟩:=s.form
  go_wp2_with (with_reducible refine ax ?_)
  refine au ?_;refine aV aO s.own a7 rfl (aF _ _) (by decide) (by decide) (by decide) s.le rfl rfl ?_;intro bC bI hp f m;have h:eX w d bI bC (9) (1 :: aM id):=s.push hp f;obtain⟨b9,bV,rfl⟩:=h.form;have T:=aa h;clear hp f m h s;have q2:=T.box.cell r.2.2.1
  go_wp2_with fail
  refine(bQ g _ bm bo).mono ?_;rintro e wx ⟨vx,rfl,aQ,an⟩;obtain⟨bx,ox,cx,aX,aK⟩:=dz aQ (show 0 < 8 by decide);have bv:vx=.slice (some ⟨bx,ox,none⟩) 8 cx:=aX;clear aX;subst bv;have N:=aa (T.ext' an);have Rx:=aa aK;clear aQ an aK q2 T
  go_wp2_with (with_reducible refine ax ?_)
  refine au ?_;refine aV aO N.own Rx rfl (aF _ _) (by decide) (by decide) (by decide) N.le rfl rfl ?_;intro bD bK hp f m;have h:eX w d bK bD (17) (1 :: (aM id++aM g)):=N.push hp f;obtain⟨ca,bW,rfl⟩:=h.form;have M:=aa h;clear hp f m h N;have q0:=M.box.cell r.1
  ·have W:Hid ((1<=nb/\nb<=512)/\∀b∈a,fk b=false):=aa (by
    have h:(wi a.length 1 512&& !a.any fk)=true:=Hz.out;rw[Ek]at h;have h1:=bJ.1 h.1
    exact⟨by have:=C.out;omega,df h.2⟩)
   have b3:(nb:Int)<=512:=by have:=W.1.2;omega
   have bg:(0:Int)<=(nb:Int):=by omega
   have a2:Hid (a.flatten.length=nb*16):=aa (by rw[C.out];exact dL 16 a (fun x hx=>fI (W.2 x hx)));have HV:Hid (bL ⟨1,id,g,pl,sh,A,z,a,t⟩=1 :: (aM id++aM g)++bN nb++a.flatten):=aa (by unfold bL fH;simp[C.out]);have q7:=M.box.cell r.2.2.2.2.2.2.2.1
   go_wp2_with fail
   refine(eK (nb:Int) _ bg (by omega)).mono ?_;rintro e ch ⟨bT,b6,bX,rfl,hr,hE⟩;have O:=aa (M.ext' hE);have a8:=aa hr;clear hr hE M;clear q7
   go_wp2_with (with_reducible refine ax ?_)
   refine au ?_;refine aV aO O.own a8 rfl (aF _ _) (by decide) (by decide) (by decide) O.le rfl rfl ?_;intro bE bM hp f m;have h:eX w d bM bE (17+2) (1 :: (aM id++aM g)++bN nb):=O.push hp f;obtain⟨cb,bY,rfl⟩:=h.form;have ag:=aa h;clear hp f m h O;have q7:=ag.box.cell r.2.2.2.2.2.2.2.1
   go_wp2_with fail
   clear q7 q0;go_loopw [3,55] (fun o i wr=>∃(k:Nat) (p:Option Addr) (c:Nat),k<=nb/\i=.int .i64 k/\o=.slice p (17+2+k*16) c/\Hid (eX w d wr (.slice p (17+2+k*16) c) (17+2+k*16) (1 :: (aM id++aM g)++bN nb++(a.take k).flatten))) (fun _ i _=>nb - (Ef i).toNat);case atStart=>exact⟨0,_,_,DZ _,rfl,rfl,by rw[E4,List.flatten_nil,Ew];exact ag⟩
   case round=>
    obtain⟨k,p,c,m,rfl,rfl,q⟩:=hrel;by_cases bq:k < nb
    ·have S:k < a.length:=by rw[<-C.out];exact bq
     obtain⟨ce,aT,aU,aW⟩:=ai.ext q.ext;obtain⟨gb,ob,bu,bj,aw⟩:=bf.Cv aT aU k S;subst bu;have Z:=aW k S;have Q:=fI (W.2 _ (yR a S));have aj:Hid ((a.take (k+1)).flatten=(a.take k).flatten++a.getD k []):=aa (by rw[aP [] a k S];simp);obtain⟨y,hy⟩:=exq (a.getD k []);rw[<-hy]at Z Q aj;obtain⟨g1,o1,bZ,ay,_,_,_,aI,_⟩:=Rd.pos Z (by omega);rw[ay,Q]at aw;have R1:=aa aI;have a0:=aa Q;clear aT aU aW bj Z Q hy ay aI
     go_wp2_with (with_reducible refine ax ?_)
     refine au ?_;refine aV aO q.own R1 (by rw[ints_length,a0.out]) (aF _ _) (by decide) (by unfold DV;omega) (by omega) q.le rfl rfl ?_;intro v5 w5 hp f bp;have h:eX w d w5 v5 (17+2+k*16+16) _:=q.push hp f;have G:17+2+k*16+16=17+2+(k+1)*16:=by omega
     rw[G]at h;obtain⟨p5,c5,rfl⟩:=h.form;have H5:=aa h;clear hp f bp h G aw
     go_wp2_with fail
     go_roundw;case rel=>exact⟨k+1,p5,c5,by omega,by go_num,rfl,aa (by rw[aj.out,<-Em];exact H5)⟩
     case measure=>simp[Ef];omega
    ·obtain rfl:k=nb:=by omega
     have q0:=q.box.cell r.1
     go_wp2_with fail
     go_ret;refine⟨_,rfl,?_,q.ext⟩;have h:=q.out;rw[DW (by rw[<-C.out];exact DH _)]at h;rw[HV.out];exact h.rd (by rw[DS,a2.out];rfl)
theorem rT (v:DG) (l:Cp) (w:DF) (h:dH w v l) (m:l.kind=2) (V:bn l=true) (hz:bH l=true):
  DN DE 60 #[v] w fun e w'=>∃M,e=.returned M/\Rd w' .u8 M (bL l)/\az w w':=by
 obtain⟨a9,vp,vs,vb,L,rfl,b⟩:=h;obtain rfl:=b.eq;obtain⟨hid,X,W⟩:=dK V;obtain⟨kd,id,c,pl,sh,j,i,o,g⟩:=l;obtain⟨p1,p,C,T,aK⟩:=b.pl.form;obtain⟨p2,q,P,aC,aN⟩:=b.sh.rd.form;obtain⟨y,r,Q,U,aP⟩:=b.bl.form;have am:Hid (Rd w .i64 vp pl):=aa b.pl;have an:=aa b.sh;have a4:Hid (L.map cf=sh):=aa b.sl;have ak:Hid (bf w vb o):=aa b.bl;simp only at C P Q m hid X T U;subst C P Q;clear b V;unfold DV at aK aN aP;obtain⟨t,I⟩:=exq pl.length;obtain⟨x,J⟩:=exq L.length;obtain⟨nb,H⟩:=exq o.length;have a1:=aa I;have a2:=aa J;have al:=aa H;rw[<-I]at am T⊢;rw[<-J]at an aC⊢;rw[<-H]at ak U⊢;clear I J H;have a3:=aa W;have Hz:=aa hz;clear W hz;subst m;obtain⟨O,D⟩:=exq (w.alloc (.cells #[.int .i64 2,.int .i64 id,.int .i64 c,.slice p1 t p,.slice p2 x q,.int .i64 j,.int .i64 i,.slice y nb r,.int .i64 g] 43));have N:Hid (az w O):=aa (by rw[D];exact ae _ _);obtain⟨a,G⟩:=exq (cL ⟨2,id,c,pl,sh,j,i,o,g⟩ (.slice p1 t p) (.slice p2 x q) (.slice y nb r));have n:Hid (av O w.heap.size a):=aa (by rw[D,G];exact av.box w 43 (cs:=(cL ⟨2,id,c,pl,sh,j,i,o,g⟩ (.slice p1 t p) (.slice p2 x q) (.slice y nb r))) (fun h=>by cases h));have B:Hid (a[0]? =some (.int .i64 2)/\a[1]? =some (.int .i64 id)/\a[2]? =some (.int .i64 c)/\a[3]? =some (.slice p1 t p)/\a[4]? =some (.slice p2 x q)/\a[5]? =some (.int .i64 j)/\a[6]? =some (.int .i64 i)/\a[7]? =some (.slice y nb r)/\a[8]? =some (.int .i64 g)):=aa (by rw[G];exact⟨rfl,rfl,rfl,rfl,rfl,rfl,rfl,rfl,rfl⟩);show DN DE 60 #[.agg #[.int .i64 2,.int .i64 id,.int .i64 c,.slice p1 t p,.slice p2 x q,.int .i64 j,.int .i64 i,.slice y nb r,.int .i64 g]] w _;obtain⟨aG,aH⟩:=hid;obtain⟨aI,aJ⟩:=X;have ai:IntKind.u8.wrap 2=2:=rfl;clear G;go_enter Tryz.func60,Ih
 go_wp2_with fail
 rw[<-D];clear D;apply aL 7 [12,13,14,15,16,17,18] [ar _,ar _,ar _,(fun v w'=>Pk w' (w.heap.size+1) 1 v 1 [.int .u8 2]),ar _,ar _,(fun v w'=>dC w' v (aM id))] (by kernel_rfl) (by kernel_rfl) (by kernel_rfl) (by kernel_rfl);case hsteps=>
  refine⟨?_,?_,?_,?_,?_,?_,?_,trivial⟩;all_goals
   intro ev z d S hd;have C:=S 1 (by decide);clear S;simp only[sB]at C;simp only[sD]at hd;have b:=(aD d).1;have q0:=(n.ext d).cell B.1;have q1:=(n.ext d).cell B.2.1;simp only[dJ,DP,if_true];go_simp;first | exact⟨ae _ _,gX _ _ _ (n.ext d).lt⟩ | (go_at_call 104;(with_reducible refine(bQ id z aG aH).mono ?_);rintro e w2 ⟨M,rfl,h1,h2⟩;exact⟨_,rfl,h2,h1⟩) | exact⟨DI _ _,by rw[ai];rfl⟩ | exact⟨DI _ _,rfl⟩
 case hmono=>exact⟨aB _,aB _,aB _,(fun _ _ _ h k=>Pk.ext h k),aB _,aB _,(fun _ _ _ h k=>dC.ext h k),trivial⟩
 case hend=>
  intro u z d hend;simp only[sE]at hend;simp only[sF,hend];have Y:Pk z (w.heap.size+1) 1 (u 15) 1 [.int .u8 2]:=(by first | ((repeat(first | exact hend | exact hend.2 | replace hend:=hend.1));done) | (repeat(first | exact hend | exact hend.1 | replace hend:=hend.2)));have ac:dC z (u 18) (aM id):=(by first | ((repeat(first | exact hend | exact hend.2 | replace hend:=hend.1));done) | (repeat(first | exact hend | exact hend.1 | replace hend:=hend.2)));obtain⟨aq,aR,ay,ag,Z⟩:=dz ac (show 0 < 8 by decide);have af:u 18=.slice (some ⟨aq,aR,none⟩) 8 ay:=ag;have f:Hid (eX w a z (u 15) 1 [2]):=aa ⟨n.ext d,Y,N.trans d⟩;obtain⟨bh,K⟩:=exq (u 15);rw[<-K]at f;rw[<-K,af];have ao:=aa Z;clear Y ac af ag Z K hend d n ai N;obtain⟨bc,a6,rfl⟩:=f.form
  go_wp2_with (with_reducible refine ax ?_)
  refine au ?_;refine aV aO f.own ao rfl (aF _ _) (by decide) (by decide) (by decide) f.le rfl rfl ?_;intro aW aZ hp s m;have h:eX w a aZ aW (9) (2 :: aM id):=f.push hp s;obtain⟨bd,a7,rfl⟩:=h.form;have E:=aa h;clear hp s m h f;have q2:=E.box.cell B.2.2.1
  go_wp2_with fail
  refine(bQ c _ aI aJ).mono ?_;rintro e wx ⟨vx,rfl,ad,R⟩;obtain⟨bx,ox,cx,ah,ab⟩:=dz ad (show 0 < 8 by decide);have aQ:vx=.slice (some ⟨bx,ox,none⟩) 8 cx:=ah;clear ah;subst aQ;have A:=aa (E.ext' R);have Rx:=aa ab;clear ad R ab q2 E
  go_wp2_with (with_reducible refine ax ?_)
  refine au ?_;refine aV aO A.own Rx rfl (aF _ _) (by decide) (by decide) (by decide) A.le rfl rfl ?_;intro aX a0 hp s m;have h:eX w a a0 aX (17) (2 :: (aM id++aM c)):=A.push hp s;obtain⟨be,a8,rfl⟩:=h.form;have F:=aa h;clear hp s m h A;have q0:=F.box.cell B.1
  ·have HV:Hid (bL ⟨2,id,c,pl,sh,j,i,o,g⟩=2 :: (aM id++aM c)):=aa (by unfold bL fH;simp)
   go_wp2_with fail
   go_ret;refine⟨_,rfl,?_,F.ext⟩;rw[HV.out];exact F.rd rfl
theorem rU (v:DG) (l:Cp) (w:DF) (h:dH w v l) (m:l.kind=3) (hn:bn l=true) (hz:bH l=true):
  DN DE 60 #[v] w fun e w'=>∃v',e=.returned v'/\Rd w' .u8 v' (bL l)/\az w w':=by
 obtain⟨bW,vp,vs,vb,L,rfl,g⟩:=h;obtain rfl:=g.eq;obtain⟨hid,aC,aA⟩:=dK hn;obtain⟨kd,id,f,pl,sh,A,z,C,y⟩:=l;obtain⟨p1,D,N,am,bm⟩:=g.pl.form;obtain⟨p2,E,G,bd,bo⟩:=g.sh.rd.form;obtain⟨I,F,e3,an,bp⟩:=g.bl.form;have S:Hid (Rd w .i64 vp pl):=aa g.pl;have aZ:=aa g.sh;have bK:Hid (L.map cf=sh):=aa g.sl;have aX:Hid (bf w vb C):=aa g.bl;simp only at N G e3 m hid aC am an;subst N G e3;clear g hn;unfold DV at bm bo bp;obtain⟨a,W⟩:=exq pl.length;obtain⟨H,X⟩:=exq L.length;obtain⟨nb,V⟩:=exq C.length;have t:=aa W;have bI:=aa X;have bG:=aa V;rw[<-W]at S am⊢;rw[<-X]at aZ bd⊢;rw[<-V]at aX an⊢;clear W X V;have aY:=aa aA;have Hz:=aa hz;clear aA hz;subst m;obtain⟨W0,O⟩:=exq (w.alloc (.cells #[.int .i64 3,.int .i64 id,.int .i64 f,.slice p1 a D,.slice p2 H E,.int .i64 A,.int .i64 z,.slice I nb F,.int .i64 y] 43));have af:Hid (az w W0):=aa (by rw[O];exact ae _ _);obtain⟨b,T⟩:=exq (cL ⟨3,id,f,pl,sh,A,z,C,y⟩ (.slice p1 a D) (.slice p2 H E) (.slice I nb F));have B:Hid (av W0 w.heap.size b):=aa (by rw[O,T];exact av.box w 43 (cs:=(cL ⟨3,id,f,pl,sh,A,z,C,y⟩ (.slice p1 a D) (.slice p2 H E) (.slice I nb F))) (fun h=>by cases h));have q:Hid (b[0]? =some (.int .i64 3)/\b[1]? =some (.int .i64 id)/\b[2]? =some (.int .i64 f)/\b[3]? =some (.slice p1 a D)/\b[4]? =some (.slice p2 H E)/\b[5]? =some (.int .i64 A)/\b[6]? =some (.int .i64 z)/\b[7]? =some (.slice I nb F)/\b[8]? =some (.int .i64 y)):=aa (by rw[T];exact⟨rfl,rfl,rfl,rfl,rfl,rfl,rfl,rfl,rfl⟩);show DN DE 60 #[.agg #[.int .i64 3,.int .i64 id,.int .i64 f,.slice p1 a D,.slice p2 H E,.int .i64 A,.int .i64 z,.slice I nb F,.int .i64 y]] w _;obtain⟨bg,bh⟩:=hid;obtain⟨bi,bj⟩:=aC;have aS:IntKind.u8.wrap 3=3:=rfl;clear T;go_enter Tryz.func60,Ih
 go_wp2_with fail
 rw[<-O];clear O;apply aL 7 [12,13,14,15,16,17,18] [ar _,ar _,ar _,(fun v w'=>Pk w' (w.heap.size+1) 1 v 1 [.int .u8 3]),ar _,ar _,(fun v w'=>dC w' v (aM id))] (by kernel_rfl) (by kernel_rfl) (by kernel_rfl) (by kernel_rfl);case hsteps=>
  refine⟨?_,?_,?_,?_,?_,?_,?_,trivial⟩;all_goals
   intro ev J n hb hd;have N:=hb 1 (by decide);clear hb;simp only[sB]at N;simp only[sD]at hd;have g:=(aD n).1;have Z:=(B.ext n).cell q.1;have q1:=(B.ext n).cell q.2.1;simp only[dJ,DP,if_true];go_simp;first | exact⟨ae _ _,gX _ _ _ (B.ext n).lt⟩ | (go_at_call 104;(with_reducible refine(bQ id J bg bh).mono ?_);rintro e w2 ⟨v',rfl,h1,h2⟩;exact⟨_,rfl,h2,h1⟩) | exact⟨DI _ _,by rw[aS];rfl⟩ | exact⟨DI _ _,rfl⟩
 case hmono=>exact⟨aB _,aB _,aB _,(fun _ _ _ h k=>Pk.ext h k),aB _,aB _,(fun _ _ _ h k=>dC.ext h k),trivial⟩
 case hend=>
  intro u J n hend;simp only[sE]at hend;simp only[sF,hend];have aE:Pk J (w.heap.size+1) 1 (u 15) 1 [.int .u8 3]:=(by first | ((repeat(first | exact hend | exact hend.2 | replace hend:=hend.1));done) | (repeat(first | exact hend | exact hend.1 | replace hend:=hend.2)));have aK:dC J (u 18) (aM id):=(by first | ((repeat(first | exact hend | exact hend.2 | replace hend:=hend.1));done) | (repeat(first | exact hend | exact hend.1 | replace hend:=hend.2)));obtain⟨a5,bt,a7,aQ,aI⟩:=dz aK (show 0 < 8 by decide);have aP:u 18=.slice (some ⟨a5,bt,none⟩) 8 a7:=aQ;have s:Hid (eX w b J (u 15) 1 [3]):=aa ⟨B.ext n,aE,af.trans n⟩;obtain⟨ca,Y⟩:=exq (u 15);rw[<-Y]at s;rw[<-Y,aP];have a1:=aa aI;clear aE aK aP aQ aI Y hend n B aS af;obtain⟨b5,bP,rfl⟩:=s.form
  go_wp2_with (with_reducible refine ax ?_)
  refine au ?_;refine aV aO s.own a1 rfl (aF _ _) (by decide) (by decide) (by decide) s.le rfl rfl ?_;intro bz bE hp d m;have h:eX w b bE bz (9) (3 :: aM id):=s.push hp d;obtain⟨b6,bR,rfl⟩:=h.form;have Q:=aa h;clear hp d m h s;have q2:=Q.box.cell q.2.2.1
  go_wp2_with fail
  refine(bQ f _ bi bj).mono ?_;rintro e wx ⟨vx,rfl,aN,ak⟩;obtain⟨bx,ox,cx,aR,aJ⟩:=dz aN (show 0 < 8 by decide);have br:vx=.slice (some ⟨bx,ox,none⟩) 8 cx:=aR;clear aR;subst br;have K:=aa (Q.ext' ak);have Rx:=aa aJ;clear aN ak aJ q2 Q
  go_wp2_with (with_reducible refine ax ?_)
  refine au ?_;refine aV aO K.own Rx rfl (aF _ _) (by decide) (by decide) (by decide) K.le rfl rfl ?_;intro bA P hp d m;have h:eX w b P bA (17) (3 :: (aM id++aM f)):=K.push hp d;obtain⟨b7,bS,rfl⟩:=h.form;have R:=aa h;clear hp d m h K;have Z:=R.box.cell q.1
  ·have ay:Hid ((1<=a/\a<=12)/\∀x∈pl,fP x=false):=aa (by
    have h:wi pl.length 1 12=true:=Hz.out;have h1:=bJ.1 h
    exact⟨by have:=t.out;omega,df aY⟩)
   have bZ:(a:Int)<=12:=by have:=ay.1.2;omega
   have bY:(0:Int)<=(a:Int):=by omega
   have HV:Hid (bL ⟨3,id,f,pl,sh,A,z,C,y⟩=3 :: (aM id++aM f)++[(a:Int)]++pl.flatMap bN):=aa (by unfold bL fH;simp[t.out]);have q3:=R.box.cell q.2.2.2.1;have M:=aa (R.ext' (ae P (.cells #[.int .u8 (a:Int)] 5)));have a2:Hid ((P.alloc (.cells #[.int .u8 (a:Int)] 5)).rangeAt P.heap.size 0 (ao .u8 [(a:Int)])):=aa fun j x hx=>by rw[DY,D6];exact sX hx
   go_wp2_with (with_reducible refine ax ?_)
   refine au ?_;refine aV aO M.own a2 rfl (aF _ _) (by decide) (by decide) (by decide) M.le rfl rfl ?_;intro bB bF hp d m;have h:eX w b bF bB (18) (3 :: (aM id++aM f)++[(a:Int)]):=M.push hp d;obtain⟨b8,bT,rfl⟩:=h.form;have ad:=aa h;clear hp d m h M;clear q3 Z;have q3:=ad.box.cell q.2.2.2.1
   go_wp2_with fail
   clear q3;go_loopw [3,76] (fun o i wr=>∃(k:Nat) (p:Option Addr) (c:Nat),k<=a/\i=.int .i64 k/\o=.slice p (18+k*2) c/\Hid (eX w b wr (.slice p (18+k*2) c) (18+k*2) (3 :: (aM id++aM f)++[(a:Int)]++(pl.take k).flatMap bN))) (fun _ i _=>a - (Ef i).toNat);case atStart=>exact⟨0,_,_,DZ _,rfl,rfl,by rw[E4,List.flatMap_nil,Ew];exact ad⟩
   case round=>
    obtain⟨k,p,c,m,rfl,rfl,r⟩:=hrel;by_cases bl:k < a
    ·have U:k < pl.length:=by rw[<-t.out];exact bl
     obtain⟨b1,o1,bV,bq,_,_,_,_,aq⟩:=Rd.pos (k:=.i64) (l:=pl) (by rw[t.out]at S;exact S.ext r.ext) (by omega);injection bq with ba bb bc;subst ba;have ap:=aq k U;have aT:=iL (ay.2 _ (aH 0 U));have ag:=aa (fm 0 bN pl k U);obtain⟨x,hx⟩:=exq (pl.getD k 0);rw[<-hx]at ap aT ag;obtain⟨bs,b0⟩:=aT;clear aq bb bc hx
     go_wp2_with fail
     refine(eK x _ bs (by omega)).mono ?_;rintro e cc ⟨bO,b4,bU,rfl,hr,hE⟩;have HD:=aa (r.ext' hE);have a3:=aa hr;clear hr hE r;clear ap
     go_wp2_with (with_reducible refine ax ?_)
     refine au ?_;refine aV aO HD.own a3 rfl (aF _ _) (by decide) (by unfold DV;omega) (by omega) HD.le rfl rfl ?_;intro v5 w5 hp d bk;have h:eX w b w5 v5 (18+k*2+2) _:=HD.push hp d;have G:18+k*2+2=18+(k+1)*2:=by omega
     rw[G]at h;obtain⟨p5,c5,rfl⟩:=h.form;have H5:=aa h;clear hp d bk h G
     go_wp2_with fail
     go_roundw;case rel=>exact⟨k+1,p5,c5,by omega,by go_num,rfl,aa (by rw[ag.out,<-Em];exact H5)⟩
     case measure=>simp[Ef];omega
    ·obtain rfl:k=a:=by omega
     have Z:=r.box.cell q.1
     go_wp2_with fail
     go_ret;refine⟨_,rfl,?_,r.ext⟩;have h:=r.out;rw[DW (by rw[<-t.out];exact DH _)]at h;rw[HV.out];exact h.rd (by rw[DS,vO,<-t.out,Nat.mul_comm];rfl)
theorem rV (v:DG) (l:Cp) (w:DF) (h:dH w v l) (i:l.kind=5) (hn:bn l=true) (hz:bH l=true):
  DN DE 60 #[v] w fun e w'=>∃U,e=.returned U/\Rd w' .u8 U (bL l)/\az w w':=by
 obtain⟨bE,vp,vs,vb,L,rfl,g⟩:=h;obtain rfl:=g.eq;obtain⟨hid,ai,ah⟩:=dK hn;obtain⟨kd,id,f,pl,sh,b,c,q,o⟩:=l;obtain⟨p1,r,J,ac,a4⟩:=g.pl.form;obtain⟨p2,s,X,aS,a5⟩:=g.sh.rd.form;obtain⟨B,t,Y,ad,a6⟩:=g.bl.form;have aE:Hid (Rd w .i64 vp pl):=aa g.pl;have aG:=aa g.sh;have br:Hid (L.map cf=sh):=aa g.sl;have aA:Hid (bf w vb q):=aa g.bl;simp only at J X Y i hid ai ac ad;subst J X Y;clear g hn;unfold DV at a4 a5 a6;obtain⟨z,R⟩:=exq pl.length;obtain⟨A,S⟩:=exq L.length;obtain⟨nb,Q⟩:=exq q.length;have bp:=aa R;have bq:=aa S;have bo:=aa Q;rw[<-R]at aE ac⊢;rw[<-S]at aG aS⊢;rw[<-Q]at aA ad⊢;clear R S Q;have aC:=aa ah;have Hz:=aa hz;clear ah hz;subst i;obtain⟨W,K⟩:=exq (w.alloc (.cells #[.int .i64 5,.int .i64 id,.int .i64 f,.slice p1 z r,.slice p2 A s,.int .i64 b,.int .i64 c,.slice B nb t,.int .i64 o] 43));have V:Hid (az w W):=aa (by rw[K];exact ae _ _);obtain⟨a,O⟩:=exq (cL ⟨5,id,f,pl,sh,b,c,q,o⟩ (.slice p1 z r) (.slice p2 A s) (.slice B nb t));have p:Hid (av W w.heap.size a):=aa (by rw[K,O];exact av.box w 43 (cs:=(cL ⟨5,id,f,pl,sh,b,c,q,o⟩ (.slice p1 z r) (.slice p2 A s) (.slice B nb t))) (fun h=>by cases h));have j:Hid (a[0]? =some (.int .i64 5)/\a[1]? =some (.int .i64 id)/\a[2]? =some (.int .i64 f)/\a[3]? =some (.slice p1 z r)/\a[4]? =some (.slice p2 A s)/\a[5]? =some (.int .i64 b)/\a[6]? =some (.int .i64 c)/\a[7]? =some (.slice B nb t)/\a[8]? =some (.int .i64 o)):=aa (by rw[O];exact⟨rfl,rfl,rfl,rfl,rfl,rfl,rfl,rfl,rfl⟩);show DN DE 60 #[.agg #[.int .i64 5,.int .i64 id,.int .i64 f,.slice p1 z r,.slice p2 A s,.int .i64 b,.int .i64 c,.slice B nb t,.int .i64 o]] w _;obtain⟨a0,a1⟩:=hid;obtain⟨a2,a3⟩:=ai;have aw:IntKind.u8.wrap 5=5:=rfl;clear O;go_enter Tryz.func60,Ih
 go_wp2_with fail
 rw[<-K];clear K;apply aL 7 [12,13,14,15,16,17,18] [ar _,ar _,ar _,(fun v w'=>Pk w' (w.heap.size+1) 1 v 1 [.int .u8 5]),ar _,ar _,(fun v w'=>dC w' v (aM id))] (by kernel_rfl) (by kernel_rfl) (by kernel_rfl) (by kernel_rfl);case hsteps=>
  refine⟨?_,?_,?_,?_,?_,?_,?_,trivial⟩;all_goals
   intro ev D m hb hd;have J:=hb 1 (by decide);clear hb;simp only[sB]at J;simp only[sD]at hd;have g:=(aD m).1;have C:=(p.ext m).cell j.1;have q1:=(p.ext m).cell j.2.1;simp only[dJ,DP,if_true];go_simp;first | exact⟨ae _ _,gX _ _ _ (p.ext m).lt⟩ | (go_at_call 104;(with_reducible refine(bQ id D a0 a1).mono ?_);rintro e w2 ⟨U,rfl,h1,h2⟩;exact⟨_,rfl,h2,h1⟩) | exact⟨DI _ _,by rw[aw];rfl⟩ | exact⟨DI _ _,rfl⟩
 case hmono=>exact⟨aB _,aB _,aB _,(fun _ _ _ h k=>Pk.ext h k),aB _,aB _,(fun _ _ _ h k=>dC.ext h k),trivial⟩
 case hend=>
  intro u D m hend;simp only[sE]at hend;simp only[sF,hend];have aj:Pk D (w.heap.size+1) 1 (u 15) 1 [.int .u8 5]:=(by first | ((repeat(first | exact hend | exact hend.2 | replace hend:=hend.1));done) | (repeat(first | exact hend | exact hend.1 | replace hend:=hend.2)));have am:dC D (u 18) (aM id):=(by first | ((repeat(first | exact hend | exact hend.2 | replace hend:=hend.1));done) | (repeat(first | exact hend | exact hend.1 | replace hend:=hend.2)));obtain⟨aN,a8,aQ,ap,ak⟩:=dz am (show 0 < 8 by decide);have ao:u 18=.slice (some ⟨aN,a8,none⟩) 8 aQ:=ap;have n:Hid (eX w a D (u 15) 1 [5]):=aa ⟨p.ext m,aj,V.trans m⟩;obtain⟨bU,T⟩:=exq (u 15);rw[<-T]at n;rw[<-T,ao];have aH:=aa ak;clear aj am ao ap ak T hend m p aw V;obtain⟨bM,bv,rfl⟩:=n.form
  go_wp2_with (with_reducible refine ax ?_)
  refine au ?_;refine aV aO n.own aH rfl (aF _ _) (by decide) (by decide) (by decide) n.le rfl rfl ?_;intro bd bj hp d i;have h:eX w a bj bd (9) (5 :: aM id):=n.push hp d;obtain⟨bO,bw,rfl⟩:=h.form;have M:=aa h;clear hp d i h n;have q2:=M.box.cell j.2.2.1
  go_wp2_with fail
  refine(bQ f _ a2 a3).mono ?_;rintro e wx ⟨vx,rfl,an,Z⟩;obtain⟨bx,ox,cx,aq,al⟩:=dz an (show 0 < 8 by decide);have a7:vx=.slice (some ⟨bx,ox,none⟩) 8 cx:=aq;clear aq;subst a7;have F:=aa (M.ext' Z);have Rx:=aa al;clear an Z al q2 M
  go_wp2_with (with_reducible refine ax ?_)
  refine au ?_;refine aV aO F.own Rx rfl (aF _ _) (by decide) (by decide) (by decide) F.le rfl rfl ?_;intro be bk hp d i;have h:eX w a bk be (17) (5 :: (aM id++aM f)):=F.push hp d;obtain⟨bP,bz,rfl⟩:=h.form;have E:=aa h;clear hp d i h F;have C:=E.box.cell j.1
  ·have P:wi c 1 512=true/\wi b 0 511=true:=by have h:(wi c 1 512&&wi b 0 511)=true:=aC.out;rwa[Ek]at h
   have aX:=bJ.1 P.1;have af:=bJ.1 P.2;have aT:0<=c:=by omega
   have aU:c<=65535:=by omega
   have aY:0<=b:=af.1;have aZ:b<=65535:=by omega
   clear P aX af;have HV:Hid (bL ⟨5,id,f,pl,sh,b,c,q,o⟩=5 :: (aM id++aM f)++bN b++bN c):=aa (by unfold bL fH;simp);have q5:=E.box.cell j.2.2.2.2.2.1
   go_wp2_with fail
   refine(eK b _ aY aZ).mono ?_;rintro e bW ⟨bt,bI,bA,rfl,y,x⟩;have G:=aa (E.ext' x);have aI:=aa y;clear y x E;clear q5 C
   go_wp2_with (with_reducible refine ax ?_)
   refine au ?_;refine aV aO G.own aI rfl (aF _ _) (by decide) (by decide) (by decide) G.le rfl rfl ?_;intro bg bl hp d i;have h:eX w a bl bg (19) (5 :: (aM id++aM f)++bN b):=G.push hp d;obtain⟨bR,bB,rfl⟩:=h.form;have H:=aa h;clear hp d i h G;have C:=H.box.cell j.1;have q6:=H.box.cell j.2.2.2.2.2.2.1
   go_wp2_with fail
   refine(eK c _ aT aU).mono ?_;rintro e bX ⟨bu,bK,bC,rfl,y,x⟩;have I:=aa (H.ext' x);have aJ:=aa y;clear y x H;clear q6 C
   go_wp2_with (with_reducible refine ax ?_)
   refine au ?_;refine aV aO I.own aJ rfl (aF _ _) (by decide) (by decide) (by decide) I.le rfl rfl ?_;intro bh bm hp d i;have h:eX w a bm bh (21) (5 :: (aM id++aM f)++bN b++bN c):=I.push hp d;obtain⟨bS,bD,rfl⟩:=h.form;have N:=aa h;clear hp d i h I;have C:=N.box.cell j.1
   go_wp2_with fail
   go_ret;refine⟨_,rfl,?_,N.ext⟩;rw[HV.out];exact N.rd rfl
theorem rW (v:DG) (l:Cp) (w:DF) (h:dH w v l) (i:l.kind=7) (hn:bn l=true) (hz:bH l=true):
  DN DE 60 #[v] w fun e w'=>∃Q,e=.returned Q/\Rd w' .u8 Q (bL l)/\az w w':=by
 obtain⟨bk,vp,vs,vb,L,rfl,c⟩:=h;obtain rfl:=c.eq;obtain⟨hid,af,ad⟩:=dK hn;obtain⟨kd,id,d,pl,sh,o,n,r,b⟩:=l;obtain⟨p1,s,F,Y,aW⟩:=c.pl.form;obtain⟨p2,t,U,aP,aX⟩:=c.sh.rd.form;obtain⟨B,y,V,Z,aY⟩:=c.bl.form;have aA:Hid (Rd w .i64 vp pl):=aa c.pl;have aC:=aa c.sh;have bd:Hid (L.map cf=sh):=aa c.sl;have aw:Hid (bf w vb r):=aa c.bl;simp only at F U V i hid af Y Z;subst F U V;clear c hn;unfold DV at aW aX aY;obtain⟨z,N⟩:=exq pl.length;obtain⟨A,O⟩:=exq L.length;obtain⟨nb,M⟩:=exq r.length;have bb:=aa N;have bc:=aa O;have ba:=aa M;rw[<-N]at aA Y⊢;rw[<-O]at aC aP⊢;rw[<-M]at aw Z⊢;clear N O M;have ay:=aa ad;have Hz:=aa hz;clear ad hz;subst i;obtain⟨T,G⟩:=exq (w.alloc (.cells #[.int .i64 7,.int .i64 id,.int .i64 d,.slice p1 z s,.slice p2 A t,.int .i64 o,.int .i64 n,.slice B nb y,.int .i64 b] 43));have S:Hid (az w T):=aa (by rw[G];exact ae _ _);obtain⟨a,K⟩:=exq (cL ⟨7,id,d,pl,sh,o,n,r,b⟩ (.slice p1 z s) (.slice p2 A t) (.slice B nb y));have p:Hid (av T w.heap.size a):=aa (by rw[G,K];exact av.box w 43 (cs:=(cL ⟨7,id,d,pl,sh,o,n,r,b⟩ (.slice p1 z s) (.slice p2 A t) (.slice B nb y))) (fun h=>by cases h));have q:Hid (a[0]? =some (.int .i64 7)/\a[1]? =some (.int .i64 id)/\a[2]? =some (.int .i64 d)/\a[3]? =some (.slice p1 z s)/\a[4]? =some (.slice p2 A t)/\a[5]? =some (.int .i64 o)/\a[6]? =some (.int .i64 n)/\a[7]? =some (.slice B nb y)/\a[8]? =some (.int .i64 b)):=aa (by rw[K];exact⟨rfl,rfl,rfl,rfl,rfl,rfl,rfl,rfl,rfl⟩);show DN DE 60 #[.agg #[.int .i64 7,.int .i64 id,.int .i64 d,.slice p1 z s,.slice p2 A t,.int .i64 o,.int .i64 n,.slice B nb y,.int .i64 b]] w _;obtain⟨aR,aS⟩:=hid;obtain⟨aT,aU⟩:=af;have ap:IntKind.u8.wrap 7=7:=rfl;clear K;go_enter Tryz.func60,Ih
 go_wp2_with fail
 rw[<-G];clear G;apply aL 7 [12,13,14,15,16,17,18] [ar _,ar _,ar _,(fun v w'=>Pk w' (w.heap.size+1) 1 v 1 [.int .u8 7]),ar _,ar _,(fun v w'=>dC w' v (aM id))] (by kernel_rfl) (by kernel_rfl) (by kernel_rfl) (by kernel_rfl);case hsteps=>
  refine⟨?_,?_,?_,?_,?_,?_,?_,trivial⟩;all_goals
   intro ev C f X hd;have F:=X 1 (by decide);clear X;simp only[sB]at F;simp only[sD]at hd;have c:=(aD f).1;have q0:=(p.ext f).cell q.1;have q1:=(p.ext f).cell q.2.1;simp only[dJ,DP,if_true];go_simp;first | exact⟨ae _ _,gX _ _ _ (p.ext f).lt⟩ | (go_at_call 104;(with_reducible refine(bQ id C aR aS).mono ?_);rintro e w2 ⟨Q,rfl,h1,h2⟩;exact⟨_,rfl,h2,h1⟩) | exact⟨DI _ _,by rw[ap];rfl⟩ | exact⟨DI _ _,rfl⟩
 case hmono=>exact⟨aB _,aB _,aB _,(fun _ _ _ h k=>Pk.ext h k),aB _,aB _,(fun _ _ _ h k=>dC.ext h k),trivial⟩
 case hend=>
  intro u C f hend;simp only[sE]at hend;simp only[sF,hend];have ag:Pk C (w.heap.size+1) 1 (u 15) 1 [.int .u8 7]:=(by first | ((repeat(first | exact hend | exact hend.2 | replace hend:=hend.1));done) | (repeat(first | exact hend | exact hend.1 | replace hend:=hend.2)));have aj:dC C (u 18) (aM id):=(by first | ((repeat(first | exact hend | exact hend.2 | replace hend:=hend.1));done) | (repeat(first | exact hend | exact hend.1 | replace hend:=hend.2)));obtain⟨aI,a0,aK,am,ah⟩:=dz aj (show 0 < 8 by decide);have al:u 18=.slice (some ⟨aI,a0,none⟩) 8 aK:=am;have m:Hid (eX w a C (u 15) 1 [7]):=aa ⟨p.ext f,ag,S.trans f⟩;obtain⟨bw,P⟩:=exq (u 15);rw[<-P]at m;rw[<-P,al];have aE:=aa ah;clear ag aj al am ah P hend f p ap S;obtain⟨bq,bg,rfl⟩:=m.form
  go_wp2_with (with_reducible refine ax ?_)
  refine au ?_;refine aV aO m.own aE rfl (aF _ _) (by decide) (by decide) (by decide) m.le rfl rfl ?_;intro a4 a8 hp g i;have h:eX w a a8 a4 (9) (7 :: aM id):=m.push hp g;obtain⟨br,bh,rfl⟩:=h.form;have I:=aa h;clear hp g i h m;have q2:=I.box.cell q.2.2.1
  go_wp2_with fail
  refine(bQ d _ aT aU).mono ?_;rintro e wx ⟨vx,rfl,ak,W⟩;obtain⟨bx,ox,cx,an,ai⟩:=dz ak (show 0 < 8 by decide);have aZ:vx=.slice (some ⟨bx,ox,none⟩) 8 cx:=an;clear an;subst aZ;have D:=aa (I.ext' W);have Rx:=aa ai;clear ak W ai q2 I
  go_wp2_with (with_reducible refine ax ?_)
  refine au ?_;refine aV aO D.own Rx rfl (aF _ _) (by decide) (by decide) (by decide) D.le rfl rfl ?_;intro a5 H hp g i;have h:eX w a H a5 (17) (7 :: (aM id++aM d)):=D.push hp g;obtain⟨bs,bi,rfl⟩:=h.form;have J:=aa h;clear hp g i h D;have q0:=J.box.cell q.1
  ·have ab:wi b 1 255=true:=ay.out;have bm:=bJ.1 ab;have bo:IntKind.u8.wrap b=b:=IntWalk.u8_in _ (by omega);clear ab;have HV:Hid (bL ⟨7,id,d,pl,sh,o,n,r,b⟩=7 :: (aM id++aM d)++[b]):=aa (by unfold bL fH;simp);have q8:=J.box.cell q.2.2.2.2.2.2.2.2;have E:=aa (J.ext' (ae H (.cells #[.int .u8 b] 5)));have aG:Hid ((H.alloc (.cells #[.int .u8 b] 5)).rangeAt H.heap.size 0 (ao .u8 [b])):=aa fun j x hx=>by rw[DY,D6];exact sX hx
   go_wp2_with (with_reducible refine ax ?_)
   refine au ?_;refine aV aO E.own aG rfl (aF _ _) (by decide) (by decide) (by decide) E.le rfl rfl ?_;intro a6 a9 hp g i;have h:eX w a a9 a6 (18) (7 :: (aM id++aM d)++[b]):=E.push hp g;obtain⟨bt,bj,rfl⟩:=h.form;have R:=aa h;clear hp g i h E
   go_wp2_with fail
   go_ret;refine⟨_,rfl,?_,R.ext⟩;rw[HV.out];exact R.rd rfl
theorem rX (v:DG) (l:Cp) (w:DF) (h:dH w v l) (Q:l.kind=4) (hn:bn l=true) (hz:bH l=true):
  DN DE 60 #[v] w fun e w'=>∃v',e=.returned v'/\Rd w' .u8 v' (bL l)/\az w w':=by
 obtain⟨eC,vp,vs,vb,L,rfl,J⟩:=h;obtain rfl:=J.eq;obtain⟨hid,cH,cG⟩:=dK hn;obtain⟨kd,id,F,pl,sh,fr,ct,bl,cd⟩:=l;obtain⟨p1,c1,e1,cx,dX⟩:=J.pl.form;obtain⟨p2,R,e2,dQ,dY⟩:=J.sh.rd.form;obtain⟨p3,c3,e3,cy,dZ⟩:=J.bl.form;have dn:Hid (Rd w .i64 vp pl):=aa J.pl;have bb:=aa J.sh;have ac:Hid (L.map cf=sh):=aa J.sl;have dh:Hid (bf w vb bl):=aa J.bl;simp only at e1 e2 e3 Q hid cH cx cy;subst e1 e2 e3;clear J hn;unfold DV at dX dY dZ;obtain⟨np,bW⟩:=exq pl.length;obtain⟨n,bX⟩:=exq L.length;obtain⟨nb,bV⟩:=exq bl.length;have em:=aa bW;have ba:=aa bX;have el:=aa bV;rw[<-bW]at dn cx⊢;rw[<-bX]at bb dQ⊢;rw[<-bV]at dh cy⊢;clear bW bX bV;have dl:=aa cG;have Hz:=aa hz;clear cG hz;subst Q;obtain⟨W0,bi⟩:=exq (w.alloc (.cells #[.int .i64 4,.int .i64 id,.int .i64 F,.slice p1 np c1,.slice p2 n R,.int .i64 fr,.int .i64 ct,.slice p3 nb c3,.int .i64 cd] 43));have b9:Hid (az w W0):=aa (by rw[bi];exact ae _ _);obtain⟨r,bP⟩:=exq (cL ⟨4,id,F,pl,sh,fr,ct,bl,cd⟩ (.slice p1 np c1) (.slice p2 n R) (.slice p3 nb c3));have HB:Hid (av W0 w.heap.size r):=aa (by rw[bi,bP];exact av.box w 43 (cs:=(cL ⟨4,id,F,pl,sh,fr,ct,bl,cd⟩ (.slice p1 np c1) (.slice p2 n R) (.slice p3 nb c3))) (fun h=>by cases h));have V:Hid (r[0]? =some (.int .i64 4)/\r[1]? =some (.int .i64 id)/\r[2]? =some (.int .i64 F)/\r[3]? =some (.slice p1 np c1)/\r[4]? =some (.slice p2 n R)/\r[5]? =some (.int .i64 fr)/\r[6]? =some (.int .i64 ct)/\r[7]? =some (.slice p3 nb c3)/\r[8]? =some (.int .i64 cd)):=aa (by rw[bP];exact⟨rfl,rfl,rfl,rfl,rfl,rfl,rfl,rfl,rfl⟩);show DN DE 60 #[.agg #[.int .i64 4,.int .i64 id,.int .i64 F,.slice p1 np c1,.slice p2 n R,.int .i64 fr,.int .i64 ct,.slice p3 nb c3,.int .i64 cd]] w _;obtain⟨dS,dT⟩:=hid;obtain⟨cC,dU⟩:=cH;have cY:IntKind.u8.wrap 4=4:=rfl;clear bP;go_enter Tryz.func60,Ih
 go_wp2_with fail
 rw[<-bi];clear bi;apply aL 7 [12,13,14,15,16,17,18] [ar _,ar _,ar _,(fun v w'=>Pk w' (w.heap.size+1) 1 v 1 [.int .u8 4]),ar _,ar _,(fun v w'=>dC w' v (aM id))] (by kernel_rfl) (by kernel_rfl) (by kernel_rfl) (by kernel_rfl);case hsteps=>
  refine⟨?_,?_,?_,?_,?_,?_,?_,trivial⟩;all_goals
   intro ev H B hb t;have e1:=hb 1 (by decide);clear hb;simp only[sB]at e1;simp only[sD]at t;have J:=(aD B).1;have q0:=(HB.ext B).cell V.1;have q1:=(HB.ext B).cell V.2.1;simp only[dJ,DP,if_true];go_simp;first | exact⟨ae _ _,gX _ _ _ (HB.ext B).lt⟩ | (go_at_call 104;(with_reducible refine(bQ id H dS dT).mono ?_);rintro e M ⟨v',rfl,h1,h2⟩;exact⟨_,rfl,h2,h1⟩) | exact⟨DI _ _,by rw[cY];rfl⟩ | exact⟨DI _ _,rfl⟩
 case hmono=>exact⟨aB _,aB _,aB _,(fun _ _ _ h k=>Pk.ext h k),aB _,aB _,(fun _ _ _ h k=>dC.ext h k),trivial⟩
 case hend=>
  intro u H B hend;simp only[sE]at hend;simp only[sF,hend];have cJ:Pk H (w.heap.size+1) 1 (u 15) 1 [.int .u8 4]:=(by first | ((repeat(first | exact hend | exact hend.2 | replace hend:=hend.1));done) | (repeat(first | exact hend | exact hend.1 | replace hend:=hend.2)));have cS:dC H (u 18) (aM id):=(by first | ((repeat(first | exact hend | exact hend.2 | replace hend:=hend.1));done) | (repeat(first | exact hend | exact hend.1 | replace hend:=hend.2)));obtain⟨dw,ea,dB,cW,cO⟩:=dz cS (show 0 < 8 by decide);have cV:u 18=.slice (some ⟨dw,ea,none⟩) 8 dB:=cW;have ab:Hid (eX w r H (u 15) 1 [4]):=aa ⟨HB.ext B,cJ,b9.trans B⟩;obtain⟨eZ,b0⟩:=exq (u 15);rw[<-b0]at ab;rw[<-b0,cV];have dt:=aa cO;clear cJ cS cV cW cO b0 hend B HB cY b9;obtain⟨eP,ew,rfl⟩:=ab.form
  go_wp2_with (with_reducible refine ax ?_)
  refine au ?_;refine aV aO ab.own dt rfl (aF _ _) (by decide) (by decide) (by decide) ab.le rfl rfl ?_;intro ed ei hp C Q;have h:eX w r ei ed (9) (4 :: aM id):=ab.push hp C;obtain⟨eR,ey,rfl⟩:=h.form;have bu:=aa h;clear hp C Q h ab;have K:=bu.box.cell V.2.2.1
  go_wp2_with fail
  refine(bQ F _ cC dU).mono ?_;rintro e wx ⟨vx,rfl,cT,cr⟩;obtain⟨dx,ox,dD,cX,cQ⟩:=dz cT (show 0 < 8 by decide);have d6:vx=.slice (some ⟨dx,ox,none⟩) 8 dD:=cX;clear cX;subst d6;have O:=aa (bu.ext' cr);have Rx:=aa cQ;clear cT cr cQ K bu
  go_wp2_with (with_reducible refine ax ?_)
  refine au ?_;refine aV aO O.own Rx rfl (aF _ _) (by decide) (by decide) (by decide) O.le rfl rfl ?_;intro ee bt hp C Q;have h:eX w r bt ee (17) (4 :: (aM id++aM F)):=O.push hp C;obtain⟨eS,ez,rfl⟩:=h.form;have bv:=aa h;clear hp C Q h O;have q0:=bv.box.cell V.1
  ·have aW:Hid ((1<=n/\n<=12)/\(∀s∈sh,gS s=false)/\∀s∈sh,fP s.1=false):=aa (by
    have h:(wi sh.length 1 12&& !sh.any gS)=true:=Hz.out;rw[Ek]at h;have h1:=bJ.1 h.1
    exact⟨by have:=ba.out;rw[<-ac.out,D2]at h1;omega,df h.2,df dl⟩)
   have eG:(n:Int)<=12:=by have:=aW.1.2;omega
   have eF:(0:Int)<=(n:Int):=by omega
   have HV:Hid (bL ⟨4,id,F,pl,sh,fr,ct,bl,cd⟩=4 :: (aM id++aM F)++[(n:Int)]++sh.flatMap tK):=aa (by unfold bL fH;simp[ba.out,<-ac.out])
   have dR:Hid (∀s∈sh,gS s=false/\dm s.2.2):=aa fun s hs=>⟨aW.2.1 s hs,by
    rw[<-ac.out]at hs;obtain⟨x,hx,rfl⟩:=List.mem_map.1 hs
    exact(bb.ok x hx).dg⟩
   have q4:=bv.box.cell V.2.2.2.2.1;have a6:=aa (bv.ext' (ae bt (.cells #[.int .u8 (n:Int)] 5)));have du:Hid ((bt.alloc (.cells #[.int .u8 (n:Int)] 5)).rangeAt bt.heap.size 0 (ao .u8 [(n:Int)])):=aa fun j x hx=>by rw[DY,D6];exact sX hx
   go_wp2_with (with_reducible refine ax ?_)
   refine au ?_;refine aV aO a6.own du rfl (aF _ _) (by decide) (by decide) (by decide) a6.le rfl rfl ?_;intro ef ej hp C Q;have h:eX w r ej ef 18 (4 :: (aM id++aM F)++[(n:Int)]):=a6.push hp C;obtain⟨eT,eA,rfl⟩:=h.form;have b6:=aa h;clear hp C Q h a6 q4 q0;have q4:=b6.box.cell V.2.2.2.2.1
   go_wp2_with fail
   clear q4;go_loopw [3,98] (fun o i wr=>∃(k N:Nat) (p:Option Addr) (c:Nat) (pre:List Int),k<=n/\i=.int .i64 k/\o=.slice p N c/\Hid (pre=4 :: (aM id++aM F)++[(n:Int)]++(sh.take k).flatMap tK)/\Hid (pre.length=N)/\Hid (eX w r wr (.slice p N c) N pre)) (fun _ i _=>n - (Ef i).toNat);case atStart=>exact⟨0,18,_,_,4 :: (aM id++aM F)++[(n:Int)],DZ _,rfl,rfl,aa (by rw[E4,List.flatMap_nil,Ew]),aa rfl,b6⟩
   case round=>
    obtain⟨k,N,p,c,pre,Q,rfl,rfl,bG,HN,U⟩:=hrel;by_cases dV:k < n
    ·have aU:k < L.length:=by rw[<-ba.out];exact dV
     have bm:k < sh.length:=by rw[<-ac.out,D2];exact aU
     have bU:=bb.ext U.ext;obtain⟨g,o,eB,d3,_,_,_,cA⟩:=bU.pos (by omega);injection d3 with dN dO dP;subst dN;have Z:=cA k aU;have aX:=bb.ok _ (aH s0 aU);have bo:=bU.ok _ (aH s0 aU);have cM:cf (L.getD k s0)=sh.getD k h0:=by rw[<-cR,ac.out]
     have bs:=aW.2.1 _ (aH h0 bm);have b1:=iL (aW.2.2 _ (aH h0 bm));have bM:=aa (fm h0 tK sh k bm)
     have ce:Hid (N<=18+12*339):=aa (by
      rw[<-HN.out,bG.out];have h9:=sI (sh.take k) (fun s hs=>dR s (List.mem_of_mem_take hs));have dI:(sh.take k).length<=12:=by rw[List.length_take];have:=aW.1.2;omega
      have eD:((sh.take k).length)*339<=12*339:=Nat.mul_le_mul_right _ dI;rw[DS];have:(4 :: (aM id++aM F)++[(n:Int)]).length=18:=rfl
      omega)
     rw[<-cM]at bs b1 bM;obtain⟨x,hx⟩:=exq (L.getD k s0);rw[<-hx]at Z bo aX bs b1 bM;clear hx cM cA dO dP bU;obtain⟨E,⟨u1,st⟩,u2,pa⟩:=x;obtain⟨d8,cZ⟩:0<=E/\E<=511:=b1;obtain⟨aZ,c0⟩:st.length=16/\pa.length<=10:=lV bs;obtain⟨g1,T,d1,bZ,_,_,cB,am,_⟩:=Rd.pos aX.st (by show 0 < st.length;omega);obtain⟨K,d2,cN,_,eH⟩:=bo.pa.form;simp only at bZ cN;rw[aZ]at bZ;subst bZ cN;obtain⟨m,hm⟩:=exq pa.length;have Hm:=aa hm;have eM:m<=10:=by rw[hm];exact c0
     rw[<-hm]at bo Z;have dd:Hid (eY w (.slice K m d2) pa):=aa (by rw[hm];exact aX.pa);have a7:Hid (dm pa):=aa aX.dg;have R1:Hid (∀M,az w M->M.rangeAt g1 T (ao .u8 st)):=aa fun M h2=>aJ am h2
     have cg:Hid (g1 < w.heap.size):=aa cB;have b5:=aa aZ;have aE:=aa (run_loadAt_mid (P:=DE) wr g (o+k*3) 100 _ _ Z Tryz.underlying100 rfl (by rw[bz];kernel_rfl));have cI:∀z∈([.int .i64 E,.slice (some ⟨g1,T,none⟩) 16 d1,.slice K m d2]:List DG),z.oneCell'=true:=eu ⟨_,_,_,rfl⟩ ⟨_,_,_,rfl⟩;obtain⟨cn,cp⟩:=av.fresh (cs:=[.int .i64 E,.slice (some ⟨g1,T,none⟩) 16 d1,.slice K m d2]) wr 100 fj rfl (fun q=>by cases q);have aG:=aa (aI (P:=DE) (cs:=[.int .i64 E,.slice (some ⟨g1,T,none⟩) 16 d1,.slice K m d2]) wr 100 fj rfl cI (ty:=100) (by kernel_rfl));have aq:=aa cn;have ca:=aa cp;have eJ:(0:Int)<=(k:Int):=by omega
     have eL:(k:Int) < (n:Int):=by omega
     clear Z bo aX cI cn cp hm aZ c0 bs aU bm am cB
     go_wp2_with first | refine ak rfl aE ?_ | (with_reducible refine aC (ty:=100) ?_)
     refine au ?_;refine ag rfl rfl aG ?_;obtain⟨W5,cu⟩:=exq ((wr.alloc (.cells fj 100)).setCells wr.heap.size 0 [.int .i64 E,.slice (some ⟨g1,T,none⟩) 16 d1,.slice K m d2]);obtain⟨D,hD⟩:=exq wr.heap.size;rw[<-cu]at aq ca⊢;rw[<-hD]at aq⊢;have a8:Hid ((∀j,(FE p N c).ownBlock=some j->j < D)/\D < W5.heap.size/\w.heap.size < D):=aa ⟨fun j X=>by rw[hD];exact(U.own.block j X).2,aq.lt,by rw[hD];exact U.box.lt⟩;have G:=aa (U.ext' ca);clear cu hD aG aE;have Hq:Hid (∀M,Kq (fun j=>(FE p N c).ownBlock=some j\/W5.heap.size<=j) W5 M->av M D [.int .i64 E,.slice (some ⟨g1,T,none⟩) 16 d1,.slice K m d2]/\M.rangeAt g1 T (ao .u8 st)):=aa fun M h2=>by
      refine⟨h2.box (fun q=> ?_) aq,fun j z hz=>h2.cell (fun q=> ?_) (R1 W5 G.ext j z hz)⟩
      ·rcases q with q | q
       ·have:=a8.1 D q;omega
       ·have:=a8.2.1;omega
      ·rcases q with q | q
       ·have:=(G.own.block g1 q).1;have:=cg.out;omega
       ·have:=cg.out;have:=G.le;omega
     have d7:IntKind.u8.wrap (m:Int)=(m:Int):=IntWalk.u8_in _ (by omega);have W:Hid (N+2<=DV/\(N+2)*1<=140737488355328/\N+2+16<=DV/\(N+2+16)*1<=140737488355328/\N+2+16+1<=DV/\(N+2+16+1)*1<=140737488355328):=aa (by have:=ce.out;unfold DV;omega);have ch:Hid ((ao .u8 (bN E)).length=2*1/\(ao .u8 st).length=16*1):=aa ⟨rfl,by rw[ints_length,b5.out]⟩
     go_wp2_with fail
     apply ay (Kq (fun j=>(FE p N c).ownBlock=some j\/W5.heap.size<=j)) (JL W5.heap.size N (.slice p N c) (w.heap.size+1) pre (bN E) st (m:Int)) 13 [102,103,104,105,106,107,108,109,110,111,112,113,114] [ar _,ar _,ar _,bK,bK,ar _,ar _,bK,ar _,ar _,ar _,ar _,bK] (fun w=>Kq.refl w) (fun a b c h k=>Kq.trans h k) (by kernel_rfl) (by kernel_rfl) (by kernel_rfl) (by kernel_rfl);case hsteps=>
      refine⟨?_,?_,?_,?_,?_,?_,?_,?_,?_,?_,?_,?_,?_,trivial⟩;all_goals
       intro d ev H B A aw aA Y hb t;replace aw:=aa aw;replace A:=aa A;replace aA:=aa aA;replace Y:=aa Y;have e3:=hb 3 (by decide);have e9:=hb 9 (by decide);clear hb;simp only[sB]at e3 e9;simp only[sG]at t;have hq:=Hq _ B;have es:=hq.1.cell (i:=0) (v:=.int .i64 E) rfl;have c1:=hq.1.cell (i:=1) (v:=.slice (some ⟨g1,T,none⟩) 16 d1) rfl;have R:=hq.1.cell (i:=2) (v:=.slice K m d2) rfl;rw[if_pos (rfl:DP _ _=true)];first
       | (obtain⟨cm,o9,c9,d5,d4⟩:=A.b (aw 3 (by kernel_rfl)) Y;(with_reducible refine dy (c:=c9) aO (A.out.a Y.out) d4 ch.out.1 (aF _ _) (by decide) W.out.1 W.out.2.1 (D0 A.out.bw A.out.le) ?_ ?_ ?_);exact(by first | ((repeat(first | exact t | exact t.2 | replace t:=t.1));done) | (repeat(first | exact t | exact t.1 | replace t:=t.2)));exact d5;exact fun v' w' z1 z2 z3=>(A.CN Y (aA 7 (by kernel_rfl)) z1 z2 z3).imp (fun y=>y) fun z=>⟨trivial,z⟩) | ((with_reducible refine dy (c:=d1) aO (A.out.c (aw.out 4 (by kernel_rfl)) Y.out).1 hq.2 ch.out.2 (aF _ _) (by decide) W.out.2.2.1 W.out.2.2.2.1 (D0 A.out.bw A.out.le) ?_ ?_ ?_);rfl;exact(by first | ((repeat(first | exact t | exact t.2 | replace t:=t.1));done) | (repeat(first | exact t | exact t.1 | replace t:=t.2)));exact fun v' w' z1 z2 z3=>(A.CO (aw 4 (by kernel_rfl)) Y z1 z2 z3).imp (fun y=>y) fun z=>⟨trivial,z⟩)
       | (go_simp;first | exact⟨Kq.refl _,rfl,A.same (by decide)⟩ | exact⟨Kq.refl _,by rw[d7];rfl,A.same (by decide)⟩ | (go_at_call 105;(with_reducible refine(eK E H d8 (by omega)).mono ?_);rintro e M ⟨cm,o9,c9,rfl,k1,k2⟩;exact⟨_,rfl,Kq.AI k2,trivial,A.call (aA 4 (by kernel_rfl)) (aA 7 (by kernel_rfl)) k2 ⟨cm,o9,c9,rfl,k1⟩⟩) | exact⟨Kq.AI (ae _ _),trivial,A.CF _⟩ | exact⟨Kq.AI (ae _ _),A.CF _⟩ | exact⟨DI _ _,rfl,HJ.same (by decide) A⟩)
     case hmono=>exact mR
     case hR0=>exact Kq.drew _
     case hend=>
      intro u H B hJ hend;simp only[sE]at hend;simp only[sF,hend];have hP:=hJ.f rfl;obtain⟨gg,cU,_,_,Z,_,d0⟩:=hJ.g rfl;obtain⟨v9,br⟩:=exq (u 109);rw[<-br]at hP;rw[<-br,cU]
      have b8:Hid (av H w.heap.size r):=aa (B.box (fun q=>by
       rcases q with q | q
       ·have:=(G.own.block _ q).1;omega
       ·have:=G.box.lt;omega) G.box)
      have cb:Hid (az w H):=aa (Below.trans G.ext (B.below G.ext.size (fun j q=>by
       rcases q with q | q
       ·have:=(G.own.block _ q).1;omega
       ·have:=G.ext.size;omega)))
      have O:Hid (eX w r H v9 (N+2+16) (pre++bN E++st)):=aa ⟨b8,by rw[aT,aT];exact hP,cb⟩;have bB:=aa (Hq _ B).1;have RG:Hid (H.rangeAt gg 0 (ao .u8 [(m:Int)])):=aa Z;have bD:Hid (∀j,v9.ownBlock=some j->j≠D):=aa fun j X q=>by
       have h9:=hJ.f rfl;subst q
       exact absurd X (by
        intro z;rcases hJ.k9 rfl j (by rw[<-br];exact z)with y | y
        ·have:=a8.1 j y;omega
        ·have:=a8.2.1;omega)
      clear B hJ hend hP cU Z d0 br b8 cb Hq G U aq
      go_wp2_with (with_reducible refine ax ?_)
      refine au ?_;refine aV aO O.own RG rfl (aF _ _) (by decide) W.2.2.2.2.1 W.2.2.2.2.2 O.le rfl rfl ?_;intro v7 w7 hp C bk;have h:eX w r w7 v7 (N+2+16+1) (pre++bN E++st++[(m:Int)]):=O.push hp C;have b7:=aa (bB.grown C (fun q=>bD D q rfl));have ek:Hid ((∀j,v7.ownBlock=some j->j≠D)):=aa fun j X q=>by
       rcases bk j X with y | y
       ·exact bD j y q
       ·have:=bB.lt;omega
      obtain⟨p7,ex,rfl⟩:=h.form;have bx:=aa h;clear hp C bk h O bB bD RG;have R:=b7.cell (i:=2) (v:=.slice K m d2) rfl;obtain⟨a3,bp⟩:=exq (pre++bN E++st++[(m:Int)]);rw[<-bp]at bx;have dp:=aa bp;obtain⟨I,bR⟩:=exq (N+2+16+1);rw[<-bR]at bx⊢;have db:Hid (a3.length=I):=aa (by rw[bp,bR];simp only[DS,HN.out,b5.out,List.length_singleton];rfl);have eE:I<=5000:=by have:=ce.out;omega
      have en:Hid (D < w7.heap.size):=aa b7.lt;clear bp bR W
      go_wp2_with fail
      clear R;go_loopw [3,119] (fun o i wr=>∃(j:Nat) (p8:Option Addr) (c8:Nat),j<=m/\i=.int .i64 j/\o=.slice p8 (I+j*32) c8/\Hid (eX w r wr (.slice p8 (I+j*32) c8) (I+j*32) (a3++(pa.take j).flatten))) (fun _ i _=>m - (Ef i).toNat);case atStart=>exact⟨0,_,_,DZ _,rfl,rfl,by rw[E4,List.flatten_nil,Ew];exact bx⟩
      case round=>
       obtain⟨j,p8,c8,X,rfl,rfl,HI⟩:=hrel;by_cases cD:j < m
       ·have bj:j < pa.length:=by rw[<-Hm.out];exact cD
        obtain⟨er,eO,et,bY,_,_,_,cP⟩:=eY.pos (ds:=pa) (bh.ext dd HI.ext) a7 (by omega);injection bY with bY cZ aZ;subst bY;clear cZ aZ;have am:=dW cP a7 (i:=j) bj;obtain⟨S,_⟩:=a7.get (i:=j) bj;have ci:Hid ((pa.take (j+1)).flatten=(pa.take j).flatten++pa.getD j []):=aa (by rw[aP [] pa j bj];simp);obtain⟨dg,cz⟩:=exq (pa.getD j []);rw[<-cz]at am S ci;have aE:=aa (bC (P:=DE) (ty:=52) am Tryz.underlying52 (by kernel_rfl) S);have cF:ao .u8 dg≠[]:=fun q=>by have:=congrArg List.length q;rw[ints_length,S]at this;cases this
        obtain⟨co,cq⟩:=av.fresh (cs:=ao .u8 dg) wr 52 zA (by rw[ints_length,S];rfl) cF;have aG:=aa (aI (P:=DE) (cs:=ao .u8 dg) wr 52 zA (by rw[ints_length,S];rfl) (aF _ _) (ty:=52) (by rw[ints_length,S];kernel_rfl));have bA:=aa co;have a5:=aa (HI.ext' cq);have dk:=aa S;have eI:(0:Int)<=(j:Int):=by omega
        have cC:(j:Int) < (m:Int):=by omega
        clear cP am S cF cz co cq bj
        go_wp2_with first | refine ak rfl aE ?_ | (with_reducible refine aC (ty:=52) ?_)
        refine au ?_;refine ag rfl rfl aG ?_;obtain⟨W8,cv⟩:=exq ((wr.alloc (.cells zA 52)).setCells wr.heap.size 0 (ao .u8 dg));obtain⟨X8,cw⟩:=exq wr.heap.size;rw[<-cv]at bA a5⊢;rw[<-cw]at bA⊢;clear cv cw aG aE
        go_wp2_with (with_reducible refine ax ?_)
        refine au ?_;refine aV aO a5.own bA.rg (by rw[ints_length,dk.out]) (aF _ _) (by decide) (by unfold DV;omega) (by omega) a5.le rfl rfl ?_;intro v10 eh hp C bk;have h:eX w r eh v10 (I+j*32+32) _:=a5.push hp C;have e2:I+j*32+32=I+(j+1)*32:=by omega
        rw[e2]at h;obtain⟨ec,dA,rfl⟩:=h.form;have c7:=aa h;clear hp C bk h e2
        go_wp2_with fail
        go_roundw;case rel=>exact⟨j+1,ec,dA,by omega,by go_num,rfl,aa (by rw[ci.out,<-Em];exact c7)⟩
        case measure=>simp[Ef];omega
       ·obtain rfl:j=m:=by omega
        have cK:pa.take j=pa:=DW (by rw[<-Hm.out];exact DH _);have cc:Hid (eX w r wr (.slice p8 (I+j*32) c8) (I+j*32) (a3++pa.flatten)):=aa (by have h:=HI.out;rw[cK]at h;exact h);have dj:Hid (pa.flatten.length=j*32):=aa (by rw[Hm.out];exact dL 32 pa (fun z hz=>(a7 z hz).1));clear cK cD X;obtain⟨N3,bS⟩:=exq (I+j*32);rw[<-bS]at cc⊢;have dc:Hid ((a3++pa.flatten).length=N3):=aa (by rw[DS,db.out,dj.out,bS]);clear bS
        go_wp2_with fail
        go_roundw
        case rel=>exact⟨k+1,N3,p8,c8,a3++pa.flatten,by omega,by go_num,rfl,aa (by
         rw[dp.out,bG.out,bM.out];show _=_++(_++tK (E,st,pa));unfold tK
         simp only[Em,Hm.out]),dc,cc⟩
        case measure=>simp[Ef];omega
     case hJ0=>exact JL.start (G.own.kept (fun _ _=>rfl) (DH _)) rfl G.le
    ·obtain rfl:k=n:=by omega
     have q0:=U.box.cell V.1;have h:=U.out;have e:pre=4 :: (aM id++aM F)++[(k:Int)]++sh.flatMap tK:=by rw[bG.out,DW (by rw[<-ac.out,D2,<-ba.out];exact DH _)]
     have de:Hid (Rd wr .u8 (.slice p N c) pre):=aa (h.rd HN);have He:=aa e;have HE:=aa h.ext;clear h e
     go_wp2_with fail
     go_ret;refine⟨_,rfl,?_,HE⟩;rw[HV.out,<-He.out];exact de
end Go.Proofs.Bl
