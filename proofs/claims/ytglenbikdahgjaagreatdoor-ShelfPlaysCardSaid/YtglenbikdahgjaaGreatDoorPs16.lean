/- Walk of shelf.Copy. -/
import Derived.Test.YtglenbikdahgjaaGreatDoorPs15
set_option maxRecDepth 100000
set_option maxHeartbeats 16000000
open Go renaming Value->CQ,World->CP
open Go.World renaming size_alloc->C4
open Nat renaming le_refl->CU
open Option.some renaming inj->Ei
namespace Go.Proofs.Bl
open Go Go.RowKit Go.Proofs
open Go.Proofs.Tryz renaming prog->CO,underlying84->D7
variable {b:Nat}
theorem sY (b:Nat) (N Q:Nat->Prop) (s:bL) (w:CP) (hS:gx N Q w b s) (a8:cH s):
  Calls CO 26 #[.pointer (some ⟨b,0,none⟩)] w fun e w'=>∃(j:Nat) (Q':Nat->Prop),e=.returned (.pointer (some ⟨j,0,none⟩))/\w.heap.size<=j/\j < w'.heap.size/\gx (fun i=>Q' i\/i < w.heap.size) Q' w' j s/\(∀i,Q' i->w.heap.size<=i/\i < w'.heap.size)/\au w w':=by
 obtain⟨m,sb,mp,F⟩:=hS;obtain⟨any,g,c,I,be⟩:=F.sn;have bI:=@run_makeMap CO;have hM:=bJ.new w;have T:=ae w (.map #[] 0);have bd:(w.alloc (.map #[] 0)).heap.size=w.heap.size+1:=C4 _ _;have n:=aa (And.intro F a8);have aV:=aa be;have aj:=aa (I.ext T);have bC:=F.bx.cell (i:=1) (v:=.pointer (some ⟨sb,0,none⟩)) rfl;have bG:=(F.bx.ext T).cell (i:=1) (v:=.pointer (some ⟨sb,0,none⟩)) rfl;have bE:=F.bx.lt;have O:=aa hM;have ad:=aa T;have R:=aa bd;obtain⟨B,hB⟩:=exq w.heap.size;clear F a8 I be hM T bd;go_enter Tryz.func26,Tryz.ntmps26
 go_wp2_with fail
 clear bC bG bI;rw[<-hB]at O R⊢;generalize w.alloc (.map #[] 0)=W1 at O ad R aj⊢;refine(qR sb any g c W1 aj).mono ?_;rintro e f ⟨X,rfl,hX,ap,aq⟩;have A:Hid (au w f):=aa (ad.trans aq);have aL:=aa (O.ext aq);have aG:=aa ap;have ai:Hid (B < X/\X < f.heap.size/\B=w.heap.size/\b < B):=aa ⟨by have:=R.out;omega,ap.lt,hB,by omega⟩;have K:=aa (aw.box (cs:=[.map (some B),.pointer (some ⟨X,0,none⟩)]) f 88 (fun h=>by cases h));have y:=aa (ae f (.cells ([.map (some B),.pointer (some ⟨X,0,none⟩)]:List CQ).toArray 88));have S:Hid ((f.alloc (.cells ([.map (some B),.pointer (some ⟨X,0,none⟩)]:List CQ).toArray 88)).heap.size=f.heap.size+1):=aa (C4 _ _);have W:=(n.1.ext A).bx.cell (i:=0) (v:=.map (some m)) rfl;have bD:=(n.1.ext (A.trans y)).bx.cell (i:=0) (v:=.map (some m)) rfl;have bF:=(n.1.ext A).bx.lt;clear hX ap aq O hB ad R aj bE
 go_wp2_with (with_reducible refine qP ?_)
 refine ax ?_;clear W bD bF;obtain⟨W3,a2⟩:=exq (f.alloc (.cells ([.map (some B),.pointer (some ⟨X,0,none⟩)]:List CQ).toArray 88));rw[<-a2]at K y S⊢;clear a2;have aN:=aa (n.1.ext (A.trans y));obtain⟨W4,bc,aA,E⟩:=aN.mt.range (P:=CO) D7;refine sW rfl bc ?_;obtain⟨r,hr⟩:=exq W3.heap.size;obtain⟨j,a4⟩:=exq f.heap.size;rw[<-hr]at aA⊢;rw[<-a4]at K⊢;have aO:=aa aA;have aH:Hid (au w W4):=aa ((A.trans y).trans E);have l:Hid (B=w.heap.size/\B<=j/\j≠r/\B<=r/\r≠B/\B≠X/\j≠B/\j≠X/\X≠r/\B < X):=aa (by have:=ai.out;have:=S.out;omega);have aP:Hid (eR (fun i=>(i=B\/i=X)\/i < B\/i=r) (fun i=>i=B\/i=X) W4 j B X [] (fN s [])):=aa (ye (K.ext E) (aL.ext (y.trans E)) (aG.ext (y.trans E)) aV (by have:=l.out;omega) (by have:=l.out;omega) (by have:=l.out;omega));have aM:Hid (∀i,(i=B\/i=X)->B<=i/\i < W4.heap.size/\i≠r):=aa fun i q=>by have h1:=E.size;have h2:=ai.out;have h3:=S.out;have h4:=l.out;rcases q with q | q<;>exact⟨by omega,by omega,by omega⟩
 have bp:Hid (m < B):=aa (by have:=n.1.mt.lt;have:=l.out;omega);clear bc aA E hr a4 K y S aL aG ai A aN aV
 go_wp2_with fail
 go_frame
 go_loopw [] (fun wr=>∃(D:List (Int × CQ)) (p:Nat->Prop) (ac:List (Int × CQ)),Hid (eF wr m r mp D)/\Hid (eR (fun i=>p i\/i < B\/i=r) p wr j B X ac (fN s D))/\Hid (∀i,p i->B<=i/\i < wr.heap.size/\i≠r)/\Hid (au w wr)) (fun wr=>mp.length - oW wr r);case atStart=>exact⟨[],_,[],aO,aP,aM,aH⟩
 case round=>
  obtain⟨D,p,ac,ah,aR,af,aJ⟩:=hrel;clear aO aP aM aH
  go_wp2_with (with_reducible refine sV ?_)
  refine ax ?_;refine sX ah rfl ?_ ?_
  ·intro a3 hlen;have HF:Hid (eR (fun i=>p i\/i < B\/i=r) p wr j B X ac s):=aa (yg n.1 ah a3 hlen aR);clear a3 hlen
   go_wp2_with fail
   go_ret;refine⟨_,p,rfl,by have:=l.out;omega,HF.bx.lt,⟨B,X,ac,HF.kept (Q2:=fun _=>False) (Kq.refl _) (fun _ q=>q.elim) fun i q=>.inl ?_⟩,fun i q=> ?_,aJ⟩
   ·rcases q with q | q
    ·exact .inl q
    ·exact .inr (.inl (by have:=l.out;omega))
   ·have:=af i q;have:=l.out;exact⟨by omega,by omega⟩
  ·rintro⟨x,v⟩ o hp aC V ay I a5;simp only at aC a5;obtain⟨st,J,bb⟩:=n.1.row (eO n.1.mt.nd hp);simp only at J;have aI:Hid (au w o):=aa (aJ.trans' (N:=w.heap.size) (ay.mono fun i _ q=>by have:=l.out;have q:i=r:=q;omega) (CU _));have bm:=aa V;have aQ:=aa (xc aR (fun i q=>(af i q).2.2) (by have:=l.out;omega) ay);have bl:Hid (∀i,p i->B<=i/\i < o.heap.size/\i≠r):=aa fun i q=>by rw[I];exact af i q
   have Y:=n.2.get J;have bi:Hid (∀f,Kq (fun _=>False) o f->Calls CO 48 #[v] f fun e w'=>∃v',e=.returned v'/\vt st o.heap.size v' w'/\au f w'):=aa fun f hk=>by
    have hE:=hk.ext (fun _ q=>q.elim);obtain⟨bg,C,ba⟩:=(n.1.ext (aI.trans hE)).row (eO n.1.mt.nd hp);simp only at C ba;obtain rfl:bg=st:=by rw[J]at C;exact(Ei C).symm
    refine(gU v bg f ba.BF (fun b t=>(Y.2.2 b t).2) (by have:=Y.2.1;omega) (fun b t=>by have:=(Y.2.2 b t).1;omega)).mono ?_;rintro e w' ⟨M,rfl,z,G,Z,k4⟩;exact⟨_,rfl,⟨f.heap.size,M,rfl,hE.size,z,G,Z,(z.block _ rfl).2⟩,k4⟩
   have bq:Hid (bn (fN s D) x=none):=aa (nH s aC);have bt:=aa J;have W:=aQ.bx.cell (i:=0) (v:=.map (some B)) rfl;have br:Hid (∀f,Kq (fun _=>False) o f->f.cell? ⟨j,0,none⟩=some (.map (some B))):=aa fun f hk=>hk.cell (fun q=>q) W
   have aU:Hid (r < o.heap.size/\B<=o.heap.size):=aa ⟨V.lt,by have:=l.out;have:=V.lt;omega⟩;have bs:=aa ah.seen;obtain⟨pv,cv,bK,_,_⟩:=bb.BF.form;subst bK;clear hp aC V ay I J bb Y W
   go_wp2_with fail
   clear a5;apply az (Kq (fun _=>False)) (ew (fun _=>True) [(6,30,vt st o.heap.size)]) 7 [24,25,26,27,28,29,30] [ar _,ar _,ar _,ar _,ar _,ar _,cR] (fun w=>Kq.refl w) (fun a b c h k=>Kq.trans h k) (by kernel_rfl) (by kernel_rfl) (by kernel_rfl) (by kernel_rfl);case hsteps=>
    refine⟨?_,?_,?_,?_,?_,?_,?_,trivial⟩;all_goals
     intro d ev w1 H L aS aT a7 t hd;replace aS:=aa aS;replace L:=aa L;replace aT:=aa aT;replace a7:=aa a7;have e3:=t 3 (by decide);have e4:=t 4 (by decide);have e5:=t 5 (by decide);clear t;simp only[sB]at e3 e4 e5;simp only[sG]at hd;have c0:=br _ H;rw[if_pos (rfl:Region.wanted _ _=true)];go_simp;first | exact⟨Kq.refl _,rfl,L.same rfl⟩ | (go_at_call 48;(with_reducible refine(bi.out w1 H).mono ?_);rintro e f ⟨v9,rfl,z,G⟩;exact⟨_,rfl,Kq.AI G,trivial,ew.set (a:=[]) (b:=[]) trivial rfl z trivial rfl⟩) | exact⟨Below.refl _ _,rfl,HJ.same (by decide) L⟩
   case hmono=>exact mR
   case hR0=>exact Kq.drew _
   case hend=>
    intro u w1 H hJ hend;simp only[sE]at hend;simp only[sF,hend];obtain⟨g9,M,aD,a6,z,G,Z,k4⟩:=hJ.2 rfl;have U:au o w1:=H.ext (fun _ q=>q.elim);obtain⟨W5,bQ,av,ak,bf,a1,a0⟩:=yf (P:=CO) D7 Tryz.underlying3 aQ bl U aU.1 aU.2 (st:=st) (v:=.slice (some ⟨g9,0,none⟩) st.length st.length) ⟨g9,M,rfl,a6,by rw[<-aD];exact z,G,Z,k4⟩ bq;have ag:Hid (eF W5 m r mp (D++[(x,.slice pv st.length cv)])):=aa ((bm.kept (Q:=fun _=>False) (Kq.AI U) (fun q=>q) (fun q=>q)).kept av (by have:=bp.out;omega) (by have:=l.out;omega));have bj:Hid (au w W5):=aa ((aI.trans U).trans' (N:=w.heap.size) (av.mono fun i _ q=>by have:=l.out;have q:i=B:=q;omega) (CU _));have bo:Hid (eR (fun i=>ak i\/i < B\/i=r) ak W5 j B X bf (fN s (D++[(x,.slice pv st.length cv)]))):=aa (by rw[qQ s D _ bt.out];exact a1);have bk:=aa a0;simp only[aD];clear H hend hJ aD z G Z k4 a6 U av a1 a0
    go_wp2_with fail
    go_roundw;case rel=>exact⟨_,ak,bf,ag,bo,bk,bj⟩
    case measure=>have C:=ag.seen;have e2:=ag.le;have e3:=bs.out;rw[List.length_append,List.length_singleton]at C e2;show mp.length - oW _ r < mp.length - oW _ r;rw[C,e3];omega
   case hJ0=>exact ew.start trivial
theorem gx.Ck {N:Nat->Prop} {w:CP} {m a:Nat} (e:aw w b [.map (some m),.pointer (some ⟨a,0,none⟩)]) (hm:bJ w m []) (c:aw w a [.bool false,.int .i64 0,.int .u64 0]) (h1:b≠m) (h2:b≠a) (d:m≠a):gx N (fun i=>i=m\/i=a) w b xC:=
 ⟨m,a,[],e,hm,⟨false,0,0,c,bV.zero⟩,rfl,fun _=>trivial,fun q=>q.elim h1 h2,.inl rfl,.inr rfl,d,fun p hp=>(by cases hp),fun k f=>by
  rcases f with rfl | rfl
  ·exact hm.lt
  ·exact c.lt,fun p hp=>(by cases hp)⟩
theorem ek.Ck {F:Nat->Prop} {w:CP} (a:aw w b [.slice none 0 0,.slice none 0 0]) (c:¬F b):ek F w b xC:=
 ⟨_,_,[],a,aY.nil _,fun x hx=>(by cases hx),rfl,aY.nil _,fun x hx=>(by cases hx),c⟩
theorem iE.CF {N:Nat->Prop} {w w':CP} {cs:List CQ} {l:BC} {vp vs vb:CQ} {L:List Sv} (h:iE w cs l vp vs vb L) (a:au w w') (b:∀i,N i->w.heap.size<=i):vv N w' (.agg (cL l vp vs vb).toArray) l:=
 ⟨vp,vs,vb,L,rfl,(cn.Ca h).kept fun k c _=>⟨fun q=>by have:=b k q;omega,a.block k c⟩⟩
def yC (Q:Nat->Prop) (pr:List Int × Bool) (w:CP) (e:Ending) (w':CP):Prop:=∃p n c,e=.returned (.tuple #[.slice p n c,.bool pr.2])/\(pr.2=true->Bu w' .u8 (.slice p n c) pr.1)/\Kq Q w w'
def Bp (b:Nat) (pr:List Int × Bool) (w:CP) (e:Ending) (w':CP):Prop:=∃p n c,e=.returned (.tuple #[.slice p n c,.bool pr.2])/\(pr.2=true->Bu w' .u8 (.slice p n c) pr.1)/\Kq (fun i=>i=b) w w'/\jn b w w'
end Go.Proofs.Bl
