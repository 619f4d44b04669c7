/- Walk of reader.rest. -/
import Derived.Test.YtglenbikdahgjaaGreatDoorPr14
set_option maxRecDepth 100000
set_option maxHeartbeats 16000000
open Bool renaming false_eq_true->Fh
open Go renaming Calls->DN,Value->DG,World->DF,bodyPost_ret->DK
open Go.Region renaming wanted->DP
open Go.RowKit.Below renaming refl->DI
open Go.World renaming block_lt_of_cell?->DM,cell?_alloc_new->D6,size_alloc->DO
open Int renaming eq_ofNat_of_zero_le->En,toNat_natCast->Eo
open List renaming mem_cons->Es,not_mem_nil->ED
open Nat renaming le_of_eq->E9
namespace Go.Proofs.Bl
open Go Go.RowKit Go.Proofs
open Go.Proofs.Tryz renaming ntmps95->Ig,prog->DE,underlying26->DQ
def cK (k i o f c d:Int):List DG:=[.int .i64 k,.int .i64 i,.int .i64 o,.slice none 0 0,.slice none 0 0,.int .i64 f,.int .i64 c,.slice none 0 0,.int .i64 d]
structure J5 (X Y:Nat) (s s1 s2:bB) (cs cs':List DG) (d:Nat->Bool) (u:Nat->DG) (w:DF):Prop where
 a:d 3=false->cM w X s
 c:d 3=true->d 5=false->cM w X s1
 e:d 5=true->cM w X s2
 g:d 8=false->av w Y cs
 h:d 8=true->av w Y cs'
section
variable {X Y:Nat} {s s1 s2:bB} {cs cs':List DG} {d:Nat->Bool} {u u':Nat->DG} {w w':DF}
theorem J5.start (h:cM w X s) (a:av w Y cs):J5 X Y s s1 s2 cs cs' (fun _=>false) u w:=⟨fun _=>h,fun q=>(by cases q),fun q=>(by cases q),fun _=>a,fun q=>(by cases q)⟩
theorem J5.same {i:Nat} (h:J5 X Y s s1 s2 cs cs' d u w) (f:(decide (i=3)||decide (i=5)||decide (i=8))=false):J5 X Y s s1 s2 cs cs' (bD d i) u' w:=by
 simp only[Bool.or_eq_false_iff,decide_eq_false_iff_not]at f;obtain⟨⟨h1,h2⟩,j⟩:=f;have a3:bD d i 3=d 3:=if_neg (fun e=>h1 e.symm);have a5:bD d i 5=d 5:=if_neg (fun e=>h2 e.symm);have b:bD d i 8=d 8:=if_neg (fun e=>j e.symm);exact⟨by rw[a3];exact h.a,by rw[a3,a5];exact h.c,by rw[a5];exact h.e,by rw[b];exact h.g,by rw[b];exact h.h⟩
theorem J5.one (h:J5 X Y s s1 s2 cs cs' d u w) (c:d 5=false) (b:X≠Y) (f:cM w' X s1) (a:Kq (fun k=>k=X) w w'):J5 X Y s s1 s2 cs cs' (bD d 3) u' w':=
 ⟨fun q=>(by cases q),fun _ _=>f,fun q=>(by have q:d 5=true:=q;rw[c]at q;cases q),fun q=>a.box (fun e=>b e.symm) (h.g q),fun q=>a.box (fun e=>b e.symm) (h.h q)⟩
theorem J5.two (h:J5 X Y s s1 s2 cs cs' d u w) (c:d 3=true) (b:X≠Y) (f:cM w' X s2) (a:Kq (fun k=>k=X) w w'):J5 X Y s s1 s2 cs cs' (bD d 5) u' w':=
 ⟨fun q=>(by have q:d 3=false:=q;rw[c]at q;cases q),fun _ q=>(by cases q),fun _=>f,fun q=>a.box (fun e=>b e.symm) (h.g q),fun q=>a.box (fun e=>b e.symm) (h.h q)⟩
theorem J5.set (h:J5 X Y s s1 s2 cs cs' d u w) (j:X < Y) {p:Nat} {v:DG} (b:av (w.setCell ⟨Y,p,none⟩ v) Y cs'):J5 X Y s s1 s2 cs cs' (bD d 8) u' (w.setCell ⟨Y,p,none⟩ v):=by
 have f:Kq (fun k=>k=Y) w (w.setCell ⟨Y,p,none⟩ v):=(Kq.refl w).setCell (Q:=fun k=>k=Y) ⟨Y,p,none⟩ rfl v;have key:∀ {s},cM w X s->cM (w.setCell ⟨Y,p,none⟩ v) X s:=fun h=>h.kept f (fun i l q=>by omega)
 exact⟨fun q=>key (h.a q),fun q g=>key (h.c q g),fun q=>key (h.e q),fun q=>(by cases q),fun _=>b⟩
end
def eW (k:Int):Prop:=∀(X Y:Nat) (i o:Int) (s:bB) (w:DF),cM w X s->av w Y (cK k i o 0 0 0)->X < Y->
  DN DE 95 #[.pointer (some ⟨X,0,none⟩),.pointer (some ⟨Y,0,none⟩)] w fun e w'=>e=.returned (.tuple #[])/\ug w' Y w.heap.size (ow k i o s).1/\cM w' X (ow k i o s).2/\Kq (fun k=>k=X\/k=Y) w w'
theorem zl:eW 1:=by
 intro X Y i o s w h D ac;have ad:=D.lt;have T:=ae w (.cells #[.pointer (some ⟨X,0,none⟩)] 155);have r:=T.trans (ae _ (.cells #[.pointer (some ⟨Y,0,none⟩)] 129));have G:(w.alloc (.cells #[.pointer (some ⟨X,0,none⟩)] 155)).heap.size=w.heap.size+1:=DO _ _;obtain⟨f,j⟩:=exq ((w.alloc (.cells #[.pointer (some ⟨X,0,none⟩)] 155)).alloc (.cells #[.pointer (some ⟨Y,0,none⟩)] 129));have aj:f.heap.size=w.heap.size+1+1:=by rw[j,DO,G]
 have ah:f.cell? ⟨w.heap.size,0,none⟩=some (.pointer (some ⟨X,0,none⟩)):=by
  rw[j];have h0:(w.alloc (.cells #[.pointer (some ⟨X,0,none⟩)] 155)).cell? ⟨w.heap.size,0,none⟩=some (.pointer (some ⟨X,0,none⟩)):=by rw[D6];rfl
  exact((aD (ae _ _)).1 _ _ (DM _ _ h0)).trans h0
 have m:f.cell? ⟨w.heap.size+1,0,none⟩=some (.pointer (some ⟨Y,0,none⟩)):=by rw[j,<-G,D6];rfl
 rw[<-j]at r;have am:=aa r;have J:=aa (D.ext r);have N:=aa (h.ext r);have l:Hid (f.heap.size=w.heap.size+1+1/\X < Y/\Y < w.heap.size):=aa ⟨aj,ac,ad⟩;have S:Hid (∀g,Kq (fun k=>k=X\/k=Y) f g->g.cell? ⟨w.heap.size,0,none⟩=some (.pointer (some ⟨X,0,none⟩))/\g.cell? ⟨w.heap.size+1,0,none⟩=some (.pointer (some ⟨Y,0,none⟩))):=aa fun g hk=>⟨hk.cell (by omega) ah,hk.cell (by omega) m⟩
 have ag:=J.cell (i:=0) (v:=.int .i64 1) rfl;rw[j]at ag;clear h D T r G aj ah ac ad;have ai:ow 1 i o s=(⟨1,i,o,[],[],0,0,(bI lX (bj 2 s).1.toNat (bj 2 s).2).1,0⟩,(bI lX (bj 2 s).1.toNat (bj 2 s).2).2):=rfl;rw[ai];clear ai;have L:Hid (∀g,cM g X s->DN DE 94 #[.pointer (some ⟨X,0,none⟩),.int .i64 2] g fun e w'=>e=.returned (.int .i64 (bj 2 s).1)/\cM w' X (bj 2 s).2/\Kq (fun k=>k=X) g w'):=aa fun g hr=>cP X 2 s g hr (by decide) (by decide)
 have E:=vQ (s:=s) N.Ct;obtain⟨cI,y⟩:=exq ((bj 2 s).1);obtain⟨s3,H⟩:=exq ((bj 2 s).2);rw[<-y]at E;rw[<-y,<-H]at L;simp only[<-y,<-H];obtain⟨n,rfl⟩:=En E.1;rw[Eo];have Hn:Hid (n<=65535):=aa (by omega);clear y H E;go_enter Tryz.func95,Ig
 go_wp2_with fail
 rw[<-j];clear j ag m;apply ay (Kq (fun k=>k=X)) (HJ 2 (fun w'=>cM w' X s) (fun w'=>cM w' X s3)) 4 [25,26,27,28] [ar _,ar _,ar _,ar _] (fun w=>Kq.refl w) (fun a b c h k=>Kq.trans h k) (by kernel_rfl) (by kernel_rfl) (by kernel_rfl) (by kernel_rfl);case hsteps=>
  refine⟨?_,?_,?_,?_,trivial⟩;all_goals
   intro d ev A z p P R F t hd;replace P:=aa P;replace p:=aa p;replace R:=aa R;replace F:=aa F;have e2:=t 2 (by decide);have e3:=t 3 (by decide);clear t;simp only[sB]at e2 e3;simp only[sG]at hd;have I:=S _ ((Kq.refl f).trans (z.mono fun _ _ q=>.inl q));have c0:=I.1;have c1:=I.2;clear I;rw[if_pos (rfl:DP _ _=true)];go_simp;first | exact⟨Kq.refl _,rfl,HJ.same (by decide) p⟩ | (go_at_call 94;(with_reducible refine(L.out A (HJ.get p.out F.out)).mono ?_);rintro e g ⟨rfl,k1,k2⟩;exact⟨_,rfl,k2,rfl,HJ.set k1⟩) | exact⟨DI _ _,rfl,HJ.same (by decide) p⟩
 case hmono=>exact mR
 case hR0=>exact Kq.drew _
 case hend=>
  intro u A z V hend;simp only[sE]at hend;simp only[sF,hend];have ap:=aa (HJ.CE V rfl);have K:=aa z;have al:=aa (K.box (by have:=l.out;omega) J);have C:Hid (Kq (fun k=>k=X\/k=Y) f A):=aa ((Kq.refl f).trans (K.mono fun _ _ q=>.inl q));have m:=S _ C;have O:=aa (pM X Y (w.heap.size+1) w.heap.size f.heap.size n s3 (cK 1 i o 0 0 0) A ap al (show 7 < 9 by decide) m.2 m.1 l.2.1 (by have:=l.out;omega) (by have:=l.out;omega) (by have:=l.out;omega) C.size Hn);clear z V hend m
  go_wp2_with fail
  refine O.mono ?_;rintro e w3 ⟨rfl,⟨v,M,U,Z⟩,ab,W⟩;have B:=aa U;have HM:=aa Z;have aq:=aa ab;have an:=aa W;clear U Z ab W O
  go_wp2_with fail
  go_end0
  have hle:w.heap.size<=f.heap.size:=by have:=l.out;omega
  refine⟨rfl,⟨_,_,v,[],B.box,aS.nil _,aS.nil _,fun x hx=>(by cases hx),rfl,M,B.Cy hle,B.CQ br hle,HM⟩,aq,?_⟩;have hA:Kq (fun k=>k=X\/k=Y\/f.heap.size<=k) w w3:=(Kq.AI am).trans ((C.mono fun _ _ q=>q.imp id .inl).trans an);exact hA.mono fun b t q=>by
   rcases q with q | q | q
   ·exact .inl q
   ·exact .inr q
   ·omega
 case hJ0=>exact HJ.start (N.kept (Q:=fun _=>False) (Kq.drew _) (fun _ _ q=>q))
theorem zm:eW 2:=by
 intro X Y i o s w h e l;have m:=e.lt;have j:=ae w (.cells #[.pointer (some ⟨X,0,none⟩)] 155);have c:=j.trans (ae _ (.cells #[.pointer (some ⟨Y,0,none⟩)] 129));have f:(w.alloc (.cells #[.pointer (some ⟨X,0,none⟩)] 155)).heap.size=w.heap.size+1:=DO _ _;obtain⟨b,a⟩:=exq ((w.alloc (.cells #[.pointer (some ⟨X,0,none⟩)] 155)).alloc (.cells #[.pointer (some ⟨Y,0,none⟩)] 129));have t:b.heap.size=w.heap.size+1+1:=by rw[a,DO,f]
 have q:b.cell? ⟨w.heap.size,0,none⟩=some (.pointer (some ⟨X,0,none⟩)):=by
  rw[a];have h0:(w.alloc (.cells #[.pointer (some ⟨X,0,none⟩)] 155)).cell? ⟨w.heap.size,0,none⟩=some (.pointer (some ⟨X,0,none⟩)):=by rw[D6];rfl
  exact((aD (ae _ _)).1 _ _ (DM _ _ h0)).trans h0
 have r:b.cell? ⟨w.heap.size+1,0,none⟩=some (.pointer (some ⟨Y,0,none⟩)):=by rw[a,<-f,D6];rfl
 rw[<-a]at c;have u:=aa c;have g:=aa (e.ext c);have x:=aa (h.ext c);have z:Hid (b.heap.size=w.heap.size+1+1/\X < Y/\Y < w.heap.size):=aa ⟨t,l,m⟩;have y:Hid (∀d,Kq (fun k=>k=X\/k=Y) b d->d.cell? ⟨w.heap.size,0,none⟩=some (.pointer (some ⟨X,0,none⟩))/\d.cell? ⟨w.heap.size+1,0,none⟩=some (.pointer (some ⟨Y,0,none⟩))):=aa fun d n=>⟨n.cell (by omega) q,n.cell (by omega) r⟩
 have p:=g.cell (i:=0) (v:=.int .i64 2) rfl;rw[a]at p;clear h e j c f t q l m;go_enter Tryz.func95,Ig
 go_wp2_with fail
 rw[<-a];clear a p r
 go_end0
 exact⟨rfl,⟨_,_,_,[],g,bZ.nil _ _ _ _ _ _ _ _⟩,x,Kq.AI u⟩
theorem zn:eW 3:=by
 intro X Y i o s w h C ac;have ad:=C.lt;have T:=ae w (.cells #[.pointer (some ⟨X,0,none⟩)] 155);have r:=T.trans (ae _ (.cells #[.pointer (some ⟨Y,0,none⟩)] 129));have F:(w.alloc (.cells #[.pointer (some ⟨X,0,none⟩)] 155)).heap.size=w.heap.size+1:=DO _ _;obtain⟨f,j⟩:=exq ((w.alloc (.cells #[.pointer (some ⟨X,0,none⟩)] 155)).alloc (.cells #[.pointer (some ⟨Y,0,none⟩)] 129));have aj:f.heap.size=w.heap.size+1+1:=by rw[j,DO,F]
 have ah:f.cell? ⟨w.heap.size,0,none⟩=some (.pointer (some ⟨X,0,none⟩)):=by
  rw[j];have h0:(w.alloc (.cells #[.pointer (some ⟨X,0,none⟩)] 155)).cell? ⟨w.heap.size,0,none⟩=some (.pointer (some ⟨X,0,none⟩)):=by rw[D6];rfl
  exact((aD (ae _ _)).1 _ _ (DM _ _ h0)).trans h0
 have m:f.cell? ⟨w.heap.size+1,0,none⟩=some (.pointer (some ⟨Y,0,none⟩)):=by rw[j,<-F,D6];rfl
 rw[<-j]at r;have am:=aa r;have I:=aa (C.ext r);have N:=aa (h.ext r);have l:Hid (f.heap.size=w.heap.size+1+1/\X < Y/\Y < w.heap.size):=aa ⟨aj,ac,ad⟩;have S:Hid (∀g,Kq (fun k=>k=X\/k=Y) f g->g.cell? ⟨w.heap.size,0,none⟩=some (.pointer (some ⟨X,0,none⟩))/\g.cell? ⟨w.heap.size+1,0,none⟩=some (.pointer (some ⟨Y,0,none⟩))):=aa fun g hk=>⟨hk.cell (by omega) ah,hk.cell (by omega) m⟩
 have ag:=I.cell (i:=0) (v:=.int .i64 3) rfl;rw[j]at ag;clear h C T r F aj ah ac ad;have ai:ow 3 i o s=(⟨3,i,o,(bI rf (bj 1 s).1.toNat (bj 1 s).2).1,[],0,0,[],0⟩,(bI rf (bj 1 s).1.toNat (bj 1 s).2).2):=rfl;rw[ai];clear ai;have L:Hid (∀g,cM g X s->DN DE 94 #[.pointer (some ⟨X,0,none⟩),.int .i64 1] g fun e w'=>e=.returned (.int .i64 (bj 1 s).1)/\cM w' X (bj 1 s).2/\Kq (fun k=>k=X) g w'):=aa fun g hr=>cP X 1 s g hr (by decide) (by decide)
 have D:=ri (s:=s) N.Ct;obtain⟨cI,y⟩:=exq ((bj 1 s).1);obtain⟨s3,G⟩:=exq ((bj 1 s).2);rw[<-y]at D;rw[<-y,<-G]at L;simp only[<-y,<-G];obtain⟨n,rfl⟩:=En D.1;rw[Eo];have Hn:Hid (n<=65535):=aa (by omega);clear y G D;go_enter Tryz.func95,Ig
 go_wp2_with fail
 rw[<-j];clear j ag m;apply ay (Kq (fun k=>k=X)) (HJ 2 (fun w'=>cM w' X s) (fun w'=>cM w' X s3)) 4 [30,31,32,33] [ar _,ar _,ar _,ar _] (fun w=>Kq.refl w) (fun a b c h k=>Kq.trans h k) (by kernel_rfl) (by kernel_rfl) (by kernel_rfl) (by kernel_rfl);case hsteps=>
  refine⟨?_,?_,?_,?_,trivial⟩;all_goals
   intro d ev A z p P R E t hd;replace P:=aa P;replace p:=aa p;replace R:=aa R;replace E:=aa E;have e2:=t 2 (by decide);have e3:=t 3 (by decide);clear t;simp only[sB]at e2 e3;simp only[sG]at hd;have H:=S _ ((Kq.refl f).trans (z.mono fun _ _ q=>.inl q));have c0:=H.1;have c1:=H.2;clear H;rw[if_pos (rfl:DP _ _=true)];go_simp;first | exact⟨Kq.refl _,rfl,HJ.same (by decide) p⟩ | (go_at_call 94;(with_reducible refine(L.out A (HJ.get p.out E.out)).mono ?_);rintro e g ⟨rfl,k1,k2⟩;exact⟨_,rfl,k2,rfl,HJ.set k1⟩) | exact⟨DI _ _,rfl,HJ.same (by decide) p⟩
 case hmono=>exact mR
 case hR0=>exact Kq.drew _
 case hend=>
  intro u A z V hend;simp only[sE]at hend;simp only[sF,hend];have ap:=aa (HJ.CE V rfl);have K:=aa z;have al:=aa (K.box (by have:=l.out;omega) I);have B:Hid (Kq (fun k=>k=X\/k=Y) f A):=aa ((Kq.refl f).trans (K.mono fun _ _ q=>.inl q));have m:=S _ B;have O:=aa (wD X Y (w.heap.size+1) w.heap.size f.heap.size n s3 (cK 3 i o 0 0 0) A ap al (show 3 < 9 by decide) m.2 m.1 l.2.1 (by have:=l.out;omega) (by have:=l.out;omega) (by have:=l.out;omega) B.size Hn);clear z V hend m
  go_wp2_with fail
  refine O.mono ?_;rintro e w3 ⟨rfl,⟨v,M,U,Z⟩,ab,W⟩;have J:=aa U;have HM:=aa Z;have aq:=aa ab;have an:=aa W;clear U Z ab W O
  go_wp2_with fail
  go_end0
  have hle:w.heap.size<=f.heap.size:=by have:=l.out;omega
  refine⟨rfl,⟨v,_,_,[],J.box,(by have h:=J.Cy hle;have hm:=HM.out;rw[List.map_id']at hm;subst hm;rw[qU]at h;exact h),aS.nil _,fun x hx=>(by cases hx),rfl,[],aS.nil _,fun x hx=>(by cases hx),rfl⟩,aq,?_⟩;have hA:Kq (fun k=>k=X\/k=Y\/f.heap.size<=k) w w3:=(Kq.AI am).trans ((B.mono fun _ _ q=>q.imp id .inl).trans an);exact hA.mono fun b t q=>by
   rcases q with q | q | q
   ·exact .inl q
   ·exact .inr q
   ·omega
 case hJ0=>exact HJ.start (N.kept (Q:=fun _=>False) (Kq.drew _) (fun _ _ q=>q))
theorem zo:eW 4:=by
 intro X Y i o s w h D ac;have ad:=D.lt;have T:=ae w (.cells #[.pointer (some ⟨X,0,none⟩)] 155);have r:=T.trans (ae _ (.cells #[.pointer (some ⟨Y,0,none⟩)] 129));have G:(w.alloc (.cells #[.pointer (some ⟨X,0,none⟩)] 155)).heap.size=w.heap.size+1:=DO _ _;obtain⟨f,j⟩:=exq ((w.alloc (.cells #[.pointer (some ⟨X,0,none⟩)] 155)).alloc (.cells #[.pointer (some ⟨Y,0,none⟩)] 129));have aj:f.heap.size=w.heap.size+1+1:=by rw[j,DO,G]
 have ah:f.cell? ⟨w.heap.size,0,none⟩=some (.pointer (some ⟨X,0,none⟩)):=by
  rw[j];have h0:(w.alloc (.cells #[.pointer (some ⟨X,0,none⟩)] 155)).cell? ⟨w.heap.size,0,none⟩=some (.pointer (some ⟨X,0,none⟩)):=by rw[D6];rfl
  exact((aD (ae _ _)).1 _ _ (DM _ _ h0)).trans h0
 have m:f.cell? ⟨w.heap.size+1,0,none⟩=some (.pointer (some ⟨Y,0,none⟩)):=by rw[j,<-G,D6];rfl
 rw[<-j]at r;have am:=aa r;have J:=aa (D.ext r);have N:=aa (h.ext r);have l:Hid (f.heap.size=w.heap.size+1+1/\X < Y/\Y < w.heap.size):=aa ⟨aj,ac,ad⟩;have S:Hid (∀g,Kq (fun k=>k=X\/k=Y) f g->g.cell? ⟨w.heap.size,0,none⟩=some (.pointer (some ⟨X,0,none⟩))/\g.cell? ⟨w.heap.size+1,0,none⟩=some (.pointer (some ⟨Y,0,none⟩))):=aa fun g hk=>⟨hk.cell (by omega) ah,hk.cell (by omega) m⟩
 have ag:=J.cell (i:=0) (v:=.int .i64 4) rfl;rw[j]at ag;clear h D T r G aj ah ac ad;have ai:ow 4 i o s=(⟨4,i,o,[],(bI rh (bj 1 s).1.toNat (bj 1 s).2).1,0,0,[],0⟩,(bI rh (bj 1 s).1.toNat (bj 1 s).2).2):=rfl;rw[ai];clear ai;have L:Hid (∀g,cM g X s->DN DE 94 #[.pointer (some ⟨X,0,none⟩),.int .i64 1] g fun e w'=>e=.returned (.int .i64 (bj 1 s).1)/\cM w' X (bj 1 s).2/\Kq (fun k=>k=X) g w'):=aa fun g hr=>cP X 1 s g hr (by decide) (by decide)
 have E:=ri (s:=s) N.Ct;obtain⟨cI,y⟩:=exq ((bj 1 s).1);obtain⟨s3,H⟩:=exq ((bj 1 s).2);rw[<-y]at E;rw[<-y,<-H]at L;simp only[<-y,<-H];obtain⟨n,rfl⟩:=En E.1;rw[Eo];have Hn:Hid (n<=65535):=aa (by omega);clear y H E;go_enter Tryz.func95,Ig
 go_wp2_with fail
 rw[<-j];clear j ag m;apply ay (Kq (fun k=>k=X)) (HJ 2 (fun w'=>cM w' X s) (fun w'=>cM w' X s3)) 4 [35,36,37,38] [ar _,ar _,ar _,ar _] (fun w=>Kq.refl w) (fun a b c h k=>Kq.trans h k) (by kernel_rfl) (by kernel_rfl) (by kernel_rfl) (by kernel_rfl);case hsteps=>
  refine⟨?_,?_,?_,?_,trivial⟩;all_goals
   intro d ev A z p P R F t hd;replace P:=aa P;replace p:=aa p;replace R:=aa R;replace F:=aa F;have e2:=t 2 (by decide);have e3:=t 3 (by decide);clear t;simp only[sB]at e2 e3;simp only[sG]at hd;have I:=S _ ((Kq.refl f).trans (z.mono fun _ _ q=>.inl q));have c0:=I.1;have c1:=I.2;clear I;rw[if_pos (rfl:DP _ _=true)];go_simp;first | exact⟨Kq.refl _,rfl,HJ.same (by decide) p⟩ | (go_at_call 94;(with_reducible refine(L.out A (HJ.get p.out F.out)).mono ?_);rintro e g ⟨rfl,k1,k2⟩;exact⟨_,rfl,k2,rfl,HJ.set k1⟩) | exact⟨DI _ _,rfl,HJ.same (by decide) p⟩
 case hmono=>exact mR
 case hR0=>exact Kq.drew _
 case hend=>
  intro u A z V hend;simp only[sE]at hend;simp only[sF,hend];have ap:=aa (HJ.CE V rfl);have K:=aa z;have al:=aa (K.box (by have:=l.out;omega) J);have C:Hid (Kq (fun k=>k=X\/k=Y) f A):=aa ((Kq.refl f).trans (K.mono fun _ _ q=>.inl q));have m:=S _ C;have O:=aa (wE X Y (w.heap.size+1) w.heap.size f.heap.size n s3 (cK 4 i o 0 0 0) A ap al (show 4 < 9 by decide) m.2 m.1 l.2.1 (by have:=l.out;omega) (by have:=l.out;omega) (by have:=l.out;omega) C.size Hn);clear z V hend m
  go_wp2_with fail
  refine O.mono ?_;rintro e w3 ⟨rfl,⟨v,M,U,Z⟩,ab,W⟩;have B:=aa U;have HM:=aa Z;have aq:=aa ab;have an:=aa W;clear U Z ab W O
  go_wp2_with fail
  go_end0
  have hle:w.heap.size<=f.heap.size:=by have:=l.out;omega
  refine⟨rfl,⟨_,v,_,M,B.box,aS.nil _,B.Cy hle,B.CQ aU hle,HM,[],aS.nil _,fun x hx=>(by cases hx),rfl⟩,aq,?_⟩;have hA:Kq (fun k=>k=X\/k=Y\/f.heap.size<=k) w w3:=(Kq.AI am).trans ((C.mono fun _ _ q=>q.imp id .inl).trans an);exact hA.mono fun b t q=>by
   rcases q with q | q | q
   ·exact .inl q
   ·exact .inr q
   ·omega
 case hJ0=>exact HJ.start (N.kept (Q:=fun _=>False) (Kq.drew _) (fun _ _ q=>q))
theorem zp:eW 5:=by
 intro X Y i o s w h G V;have W:=G.lt;have T:=ae w (.cells #[.pointer (some ⟨X,0,none⟩)] 155);have y:=T.trans (ae _ (.cells #[.pointer (some ⟨Y,0,none⟩)] 129));have L:(w.alloc (.cells #[.pointer (some ⟨X,0,none⟩)] 155)).heap.size=w.heap.size+1:=DO _ _;obtain⟨x,n⟩:=exq ((w.alloc (.cells #[.pointer (some ⟨X,0,none⟩)] 155)).alloc (.cells #[.pointer (some ⟨Y,0,none⟩)] 129));have r:x.heap.size=w.heap.size+1+1:=by rw[n,DO,L]
 have ac:x.cell? ⟨w.heap.size,0,none⟩=some (.pointer (some ⟨X,0,none⟩)):=by
  rw[n];have h0:(w.alloc (.cells #[.pointer (some ⟨X,0,none⟩)] 155)).cell? ⟨w.heap.size,0,none⟩=some (.pointer (some ⟨X,0,none⟩)):=by rw[D6];rfl
  exact((aD (ae _ _)).1 _ _ (DM _ _ h0)).trans h0
 have ad:x.cell? ⟨w.heap.size+1,0,none⟩=some (.pointer (some ⟨Y,0,none⟩)):=by rw[n,<-L,D6];rfl
 rw[<-n]at y;have ag:=aa y;have P:=aa (G.ext y);have aj:=aa (h.ext y);have t:Hid (x.heap.size=w.heap.size+1+1/\X < Y/\Y < w.heap.size):=aa ⟨r,V,W⟩;have Hq:Hid (∀j,Kq (fun k=>k=X\/k=Y) x j->j.cell? ⟨w.heap.size,0,none⟩=some (.pointer (some ⟨X,0,none⟩))/\j.cell? ⟨w.heap.size+1,0,none⟩=some (.pointer (some ⟨Y,0,none⟩))):=aa fun j Z=>⟨Z.cell (by omega) ac,Z.cell (by omega) ad⟩
 have ab:=P.cell (i:=0) (v:=.int .i64 5) rfl;rw[n]at ab;clear h G T y L r ac V W;have S:Hid (∀j,cM j X s->DN DE 94 #[.pointer (some ⟨X,0,none⟩),.int .i64 2] j fun e w'=>e=.returned (.int .i64 (bj 2 s).1)/\cM w' X (bj 2 s).2/\Kq (fun k=>k=X) j w'):=aa fun j K=>cP X 2 s j K (by decide) (by decide)
 have E:Hid (∀j,cM j X (bj 2 s).2->DN DE 94 #[.pointer (some ⟨X,0,none⟩),.int .i64 2] j fun e w'=>e=.returned (.int .i64 (bj 2 (bj 2 s).2).1)/\cM w' X (bj 2 (bj 2 s).2).2/\Kq (fun k=>k=X) j w'):=aa fun j K=>cP X 2 _ j K (by decide) (by decide)
 have af:ow 5 i o s=(⟨5,i,o,[],[],(bj 2 s).1,(bj 2 (bj 2 s).2).1,[],0⟩,(bj 2 (bj 2 s).2).2):=rfl;rw[af];obtain⟨f,J⟩:=exq ((bj 2 s).1);obtain⟨s1,r⟩:=exq ((bj 2 s).2);rw[<-r]at E;rw[<-J,<-r]at S;simp only[<-J,<-r];obtain⟨c,I⟩:=exq ((bj 2 s1).1);obtain⟨s2,M⟩:=exq ((bj 2 s1).2);rw[<-I,<-M]at E;simp only[<-I,<-M];clear af J r I M;go_enter Tryz.func95,Ig
 go_wp2_with fail
 rw[<-n];clear n ab ad;apply ay (Kq (fun k=>k=X\/k=Y)) (J5 X Y s s1 s2 (cK 5 i o 0 0 0) (cK 5 i o f 0 0)) 11 [40,41,42,43,44,45,46,47,48,49] [ar _,ar _,ar _,ar _,ar _,ar _,ar _,ar _,ar _,ar _,ar _] (fun w=>Kq.refl w) (fun a b c h k=>Kq.trans h k) (by kernel_rfl) (by kernel_rfl) (by kernel_rfl) (by kernel_rfl);case hsteps=>
  refine⟨?_,?_,?_,?_,?_,?_,?_,?_,?_,?_,?_,trivial⟩;all_goals
   intro d ev m C l B F z p hd;replace B:=aa B;replace l:=aa l;replace F:=aa F;replace z:=aa z;have e2:=p 2 (by decide);have e3:=p 3 (by decide);clear p;simp only[sB]at e2 e3;simp only[sG]at hd;have O:=Hq _ C;have c0:=O.1;have c1:=O.2;clear O;rw[if_pos (rfl:DP _ _=true)];first
   | (have p:=l.g z;have q5:=p.cell (i:=5) (v:=.int .i64 0) rfl;have f5:=p.fz (i:=5) (show 5 < 9 by decide);have U:=p.put (i:=5) (show 5 < 9 by decide) (.int .i64 f);go_simp;first | exact⟨(Kq.refl m).setCell (Q:=fun k=>k=X\/k=Y) ⟨Y,5,none⟩ (.inr rfl) _,l.set t.2.1 U⟩ | exact⟨(Kq.refl m).setCell (Q:=fun k=>k=X\/k=Y) ⟨Y,5,none⟩ (.inr rfl) _,rfl,l.set t.2.1 U⟩)
   | (go_simp;first | exact⟨Kq.refl _,rfl,l.same (by decide)⟩ | (go_at_call 94;(with_reducible refine(S.out m (l.out.a z.out)).mono ?_);rintro e j ⟨rfl,N,A⟩;exact⟨_,rfl,A.mono fun _ _ q=>.inl q,rfl,l.one (F 5 (by kernel_rfl)) (by have:=t.out;omega) N A⟩) | (go_at_call 94;(with_reducible refine(E.out m (l.out.c (B.out 3 (by kernel_rfl)) z.out)).mono ?_);rintro e j ⟨rfl,N,A⟩;exact⟨_,rfl,A.mono fun _ _ q=>.inl q,rfl,l.two (B 3 (by kernel_rfl)) (by have:=t.out;omega) N A⟩) | exact⟨DI _ _,rfl,HJ.same (by decide) l⟩)
 case hmono=>exact mR
 case hR0=>exact Kq.drew _
 case hend=>
  intro u m C H hend;simp only[sE]at hend;simp only[sF,hend];have ak:=aa (H.e rfl);have ah:=aa C;have D:=aa (H.h rfl);have ax:=D.cell (i:=6) (v:=.int .i64 0) rfl;have av:=D.fz (i:=6) (show 6 < 9 by decide);have HP:=aa (D.put (i:=6) (show 6 < 9 by decide) (.int .i64 c));have R:Hid (Kq (fun k=>k=Y) m (m.setCell ⟨Y,6,none⟩ (.int .i64 c))):=aa ((Kq.refl m).setCell (Q:=fun k=>k=Y) ⟨Y,6,none⟩ rfl _);clear C H hend
  go_wp2_with fail
  go_end0
  exact⟨rfl,⟨_,_,_,[],HP,bZ.nil _ _ _ _ _ _ _ _⟩,ak.kept R (fun i hi q=>by have:=t.out;omega),(Kq.AI ag).trans (ah.trans (R.mono fun _ _ q=>.inr q))⟩
 case hJ0=>exact J5.start (aj.kept (Q:=fun _=>False) (Kq.drew _) (fun _ _ q=>q)) (Kq.box (Q:=fun _=>False) (Kq.drew _) (fun q=>q) P)
theorem zq:eW 6:=by
 intro X Y i o s w h T aA;have aB:=T.lt;have ap:=ae w (.cells #[.pointer (some ⟨X,0,none⟩)] 155);have F:=ap.trans (ae _ (.cells #[.pointer (some ⟨Y,0,none⟩)] 129));have ac:(w.alloc (.cells #[.pointer (some ⟨X,0,none⟩)] 155)).heap.size=w.heap.size+1:=DO _ _;obtain⟨m,y⟩:=exq ((w.alloc (.cells #[.pointer (some ⟨X,0,none⟩)] 155)).alloc (.cells #[.pointer (some ⟨Y,0,none⟩)] 129));have A:m.heap.size=w.heap.size+1+1:=by rw[y,DO,ac]
 have aF:m.cell? ⟨w.heap.size,0,none⟩=some (.pointer (some ⟨X,0,none⟩)):=by
  rw[y];have h0:(w.alloc (.cells #[.pointer (some ⟨X,0,none⟩)] 155)).cell? ⟨w.heap.size,0,none⟩=some (.pointer (some ⟨X,0,none⟩)):=by rw[D6];rfl
  exact((aD (ae _ _)).1 _ _ (DM _ _ h0)).trans h0
 have C:m.cell? ⟨w.heap.size+1,0,none⟩=some (.pointer (some ⟨Y,0,none⟩)):=by rw[y,<-ac,D6];rfl
 rw[<-y]at F;have aK:=aa F;have ah:=aa (T.ext F);have al:=aa (h.ext F);have r:Hid (m.heap.size=w.heap.size+1+1/\X < Y/\Y < w.heap.size):=aa ⟨A,aA,aB⟩;have P:Hid (∀g,Kq (fun k=>k=X\/k=Y) m g->g.cell? ⟨w.heap.size,0,none⟩=some (.pointer (some ⟨X,0,none⟩))/\g.cell? ⟨w.heap.size+1,0,none⟩=some (.pointer (some ⟨Y,0,none⟩))):=aa fun g hk=>⟨hk.cell (by omega) aF,hk.cell (by omega) C⟩
 have aE:=ah.cell (i:=0) (v:=.int .i64 6) rfl;rw[y]at aE;clear h T ap F ac A aF aA aB;have aG:ow 6 i o s=(⟨6,i,o,[],[],(bj 2 s).1,0,(bI lX (bj 2 (bj 2 s).2).1.toNat (bj 2 (bj 2 s).2).2).1,0⟩,(bI lX (bj 2 (bj 2 s).2).1.toNat (bj 2 (bj 2 s).2).2).2):=rfl;rw[aG];have O:Hid (∀g,cM g X s->DN DE 94 #[.pointer (some ⟨X,0,none⟩),.int .i64 2] g fun e w'=>e=.returned (.int .i64 (bj 2 s).1)/\cM w' X (bj 2 s).2/\Kq (fun k=>k=X) g w'):=aa fun g hr=>cP X 2 s g hr (by decide) (by decide)
 obtain⟨f,W⟩:=exq ((bj 2 s).1);obtain⟨s1,A⟩:=exq ((bj 2 s).2);rw[<-W,<-A]at O;simp only[<-W,<-A];have aJ:Hid (bA s1.2):=aa (by rw[A];exact(gT (n:=2) al.Ct).2);clear aG W A;have ak:Hid (∀g,cM g X s1->DN DE 94 #[.pointer (some ⟨X,0,none⟩),.int .i64 2] g fun e w'=>e=.returned (.int .i64 (bj 2 s1).1)/\cM w' X (bj 2 s1).2/\Kq (fun k=>k=X) g w'):=aa fun g hr=>cP X 2 s1 g hr (by decide) (by decide)
 have Z:=vQ (s:=s1) aJ;obtain⟨cI,I⟩:=exq ((bj 2 s1).1);obtain⟨s3,ad⟩:=exq ((bj 2 s1).2);rw[<-I]at Z;rw[<-I,<-ad]at ak;simp only[<-I,<-ad];obtain⟨n,rfl⟩:=En Z.1;rw[Eo];have Hn:Hid (n<=65535):=aa (by omega);clear I ad Z;go_enter Tryz.func95,Ig
 go_wp2_with fail
 rw[<-y];clear y aE C;apply ay (Kq (fun k=>k=X)) (HJ 2 (fun w'=>cM w' X s) (fun w'=>cM w' X s1)) 5 [20,21,22,23,24] [ar _,ar _,ar _,ar _,ar _] (fun w=>Kq.refl w) (fun a b c h k=>Kq.trans h k) (by kernel_rfl) (by kernel_rfl) (by kernel_rfl) (by kernel_rfl);case hsteps=>
  refine⟨?_,?_,?_,?_,?_,trivial⟩;all_goals
   intro d ev j p l D E z t V;replace D:=aa D;replace l:=aa l;replace E:=aa E;replace z:=aa z;have R:=t 2 (by decide);have S:=t 3 (by decide);clear t;simp only[sB]at R S;simp only[sG]at V;have B:=P _ ((Kq.refl m).trans (p.mono fun _ _ q=>.inl q));have c0:=B.1;have c1:=B.2;clear B;rw[if_pos (rfl:DP _ _=true)];go_simp;first | exact⟨Kq.refl _,rfl,HJ.same (by decide) l⟩ | (go_at_call 94;(with_reducible refine(O.out j (HJ.get l.out z.out)).mono ?_);rintro e g ⟨rfl,k1,k2⟩;exact⟨_,rfl,k2,rfl,HJ.set k1⟩) | exact⟨DI _ _,rfl,HJ.same (by decide) l⟩
 case hmono=>exact mR
 case hR0=>exact Kq.drew _
 case hend=>
  intro u j p G hend;simp only[sE]at hend;simp only[sF,hend];have an:=aa (HJ.CE G rfl);have L:=aa p;have H:=aa (L.box (by have:=r.out;omega) ah);have aW:=H.cell (i:=5) (v:=.int .i64 0) rfl;have aV:=H.fz (i:=5) (show 5 < 9 by decide);have ai:Hid (av (j.setCell ⟨Y,5,none⟩ (.int .i64 f)) Y (cK 6 i o f 0 0)):=aa (H.put (i:=5) (show 5 < 9 by decide) (.int .i64 f));have U:Kq (fun k=>k=Y) j (j.setCell ⟨Y,5,none⟩ (.int .i64 f)):=(Kq.refl j).setCell (Q:=fun k=>k=Y) ⟨Y,5,none⟩ rfl _;have ao:=aa (an.kept U (fun i hi q=>by have:=r.out;omega));have N:Hid (Kq (fun k=>k=X\/k=Y) m (j.setCell ⟨Y,5,none⟩ (.int .i64 f))):=aa ((L.mono fun _ _ q=>.inl q).trans (U.mono fun _ _ q=>.inr q));clear p G hend U
  go_wp2_with fail
  obtain⟨W5,az⟩:=exq (j.setCell ⟨Y,5,none⟩ (.int .i64 f));rw[<-az]at ai ao N⊢;clear az aW aV an L H O;apply ay (Kq (fun k=>k=X)) (HJ 2 (fun w'=>cM w' X s1) (fun w'=>cM w' X s3)) 4 [25,26,27,28] [ar _,ar _,ar _,ar _] (fun w=>Kq.refl w) (fun a b c h k=>Kq.trans h k) (by kernel_rfl) (by kernel_rfl) (by kernel_rfl) (by kernel_rfl);case hsteps=>
   refine⟨?_,?_,?_,?_,trivial⟩;all_goals
    intro d ev j p l D E z t V;replace D:=aa D;replace l:=aa l;replace E:=aa E;replace z:=aa z;have R:=t 2 (by decide);have S:=t 3 (by decide);clear t;simp only[sB]at R S;simp only[sG]at V;have B:=P _ (N.trans (p.mono fun _ _ q=>.inl q));have c0:=B.1;have c1:=B.2;clear B;rw[if_pos (rfl:DP _ _=true)];go_simp;first | exact⟨Kq.refl _,rfl,HJ.same (by decide) l⟩ | (go_at_call 94;(with_reducible refine(ak.out j (HJ.get l.out z.out)).mono ?_);rintro e g ⟨rfl,k1,k2⟩;exact⟨_,rfl,k2,rfl,HJ.set k1⟩) | exact⟨DI _ _,rfl,HJ.same (by decide) l⟩
  case hmono=>exact mR
  case hR0=>exact Kq.drew _
  case hend=>
   intro u j p G hend;simp only[sE]at hend;simp only[sF,hend];have aN:=aa (HJ.CE G rfl);have aj:=aa p;have aI:=aa (aj.box (by have:=r.out;omega) ai);have K:Hid (Kq (fun k=>k=X\/k=Y) m j):=aa (N.trans (aj.mono fun _ _ q=>.inl q));have C:=P _ K;have am:=aa (pM X Y (w.heap.size+1) w.heap.size m.heap.size n s3 (cK 6 i o f 0 0) j aN aI (show 7 < 9 by decide) C.2 C.1 r.2.1 (by have:=r.out;omega) (by have:=r.out;omega) (by have:=r.out;omega) K.size Hn);clear p G hend C
   go_wp2_with fail
   refine am.mono ?_;rintro e w3 ⟨rfl,⟨v,M,hG,hM⟩,ax,au⟩;have J:=aa hG;have HM:=aa hM;have aO:=aa ax;have aL:=aa au;clear hG hM ax au am
   go_wp2_with fail
   go_end0
   have hle:w.heap.size<=m.heap.size:=by have:=r.out;omega
   refine⟨rfl,⟨_,_,v,[],J.box,aS.nil _,aS.nil _,fun x hx=>(by cases hx),rfl,M,J.Cy hle,J.CQ br hle,HM⟩,aO,?_⟩;have hA:Kq (fun k=>k=X\/k=Y\/m.heap.size<=k) w w3:=(Kq.AI aK).trans ((K.mono fun _ _ q=>q.imp id .inl).trans aL);exact hA.mono fun b t q=>by
    rcases q with q | q | q
    ·exact .inl q
    ·exact .inr q
    ·omega
  case hJ0=>exact HJ.start (ao.kept (Q:=fun _=>False) (Kq.drew _) (fun _ _ q=>q))
 case hJ0=>exact HJ.start (al.kept (Q:=fun _=>False) (Kq.drew _) (fun _ _ q=>q))
theorem zr:eW 7:=by
 intro X Y i o s w h x N;have O:=x.lt;have L:=ae w (.cells #[.pointer (some ⟨X,0,none⟩)] 155);have n:=L.trans (ae _ (.cells #[.pointer (some ⟨Y,0,none⟩)] 129));have B:(w.alloc (.cells #[.pointer (some ⟨X,0,none⟩)] 155)).heap.size=w.heap.size+1:=DO _ _;obtain⟨j,g⟩:=exq ((w.alloc (.cells #[.pointer (some ⟨X,0,none⟩)] 155)).alloc (.cells #[.pointer (some ⟨Y,0,none⟩)] 129));have l:j.heap.size=w.heap.size+1+1:=by rw[g,DO,B]
 have S:j.cell? ⟨w.heap.size,0,none⟩=some (.pointer (some ⟨X,0,none⟩)):=by
  rw[g];have h0:(w.alloc (.cells #[.pointer (some ⟨X,0,none⟩)] 155)).cell? ⟨w.heap.size,0,none⟩=some (.pointer (some ⟨X,0,none⟩)):=by rw[D6];rfl
  exact((aD (ae _ _)).1 _ _ (DM _ _ h0)).trans h0
 have T:j.cell? ⟨w.heap.size+1,0,none⟩=some (.pointer (some ⟨Y,0,none⟩)):=by rw[g,<-B,D6];rfl
 rw[<-g]at n;have V:=aa n;have D:=aa (x.ext n);have Z:=aa (h.ext n);have J:Hid (j.heap.size=w.heap.size+1+1/\X < Y/\Y < w.heap.size):=aa ⟨l,N,O⟩;have Hq:Hid (∀f,Kq (fun k=>k=X\/k=Y) j f->f.cell? ⟨w.heap.size,0,none⟩=some (.pointer (some ⟨X,0,none⟩))/\f.cell? ⟨w.heap.size+1,0,none⟩=some (.pointer (some ⟨Y,0,none⟩))):=aa fun f P=>⟨P.cell (by omega) S,P.cell (by omega) T⟩
 have R:=D.cell (i:=0) (v:=.int .i64 7) rfl;rw[g]at R;clear h x L n B l S N O;have G:Hid (∀f,cM f X s->DN DE 94 #[.pointer (some ⟨X,0,none⟩),.int .i64 1] f fun e w'=>e=.returned (.int .i64 (bj 1 s).1)/\cM w' X (bj 1 s).2/\Kq (fun k=>k=X) f w'):=aa fun f hr=>cP X 1 s f hr (by decide) (by decide)
 have U:ow 7 i o s=(⟨7,i,o,[],[],0,0,[],(bj 1 s).1⟩,(bj 1 s).2):=rfl;rw[U];obtain⟨K,z⟩:=exq ((bj 1 s).1);obtain⟨s1,l⟩:=exq ((bj 1 s).2);rw[<-z,<-l]at G;simp only[<-z,<-l];clear U z l;go_enter Tryz.func95,Ig
 go_wp2_with fail
 rw[<-g];clear g R T;apply ay (Kq (fun k=>k=X)) (HJ 2 (fun w'=>cM w' X s) (fun w'=>cM w' X s1)) 5 [50,51,52,53,54] [ar _,ar _,ar _,ar _,ar _] (fun w=>Kq.refl w) (fun a b c h k=>Kq.trans h k) (by kernel_rfl) (by kernel_rfl) (by kernel_rfl) (by kernel_rfl);case hsteps=>
  refine⟨?_,?_,?_,?_,?_,trivial⟩;all_goals
   intro d ev p r m H I A y hd;replace H:=aa H;replace m:=aa m;replace I:=aa I;replace A:=aa A;have e2:=y 2 (by decide);have e3:=y 3 (by decide);clear y;simp only[sB]at e2 e3;simp only[sG]at hd;have C:=Hq _ ((Kq.refl j).trans (r.mono fun _ _ q=>.inl q));have c0:=C.1;have c1:=C.2;clear C;rw[if_pos (rfl:DP _ _=true)];go_simp;first | exact⟨Kq.refl _,rfl,HJ.same (by decide) m⟩ | (go_at_call 94;(with_reducible refine(G.out p (HJ.get m.out A.out)).mono ?_);rintro e f ⟨rfl,k1,k2⟩;exact⟨_,rfl,k2,rfl,HJ.set k1⟩) | exact⟨DI _ _,rfl,HJ.same (by decide) m⟩
 case hmono=>exact mR
 case hR0=>exact Kq.drew _
 case hend=>
  intro u p r M hend;simp only[sE]at hend;simp only[sF,hend];have ab:=aa (HJ.CE M rfl);have E:=aa r;have t:=aa (E.box (by have:=J.out;omega) D);have ap:=t.cell (i:=8) (v:=.int .i64 0) rfl;have an:=t.fz (i:=8) (show 8 < 9 by decide);have W:=aa (t.put (i:=8) (show 8 < 9 by decide) (.int .i64 K));have F:Hid (Kq (fun k=>k=Y) p (p.setCell ⟨Y,8,none⟩ (.int .i64 K))):=aa ((Kq.refl p).setCell (Q:=fun k=>k=Y) ⟨Y,8,none⟩ rfl _);clear r M hend
  go_wp2_with fail
  go_end0
  exact⟨rfl,⟨_,_,_,[],W,bZ.nil _ _ _ _ _ _ _ _⟩,ab.kept F (fun i hi q=>by have:=J.out;omega),(Kq.AI V).trans ((E.mono fun _ _ q=>.inl q).trans (F.mono fun _ _ q=>.inr q))⟩
 case hJ0=>exact HJ.start (Z.kept (Q:=fun _=>False) (Kq.drew _) (fun _ _ q=>q))
theorem uD (k:Int) (b:1<=k/\k<=7):eW k:=by
 have a:k=1\/k=2\/k=3\/k=4\/k=5\/k=6\/k=7:=by omega
 rcases a with rfl | rfl | rfl | rfl | rfl | rfl | rfl
 ·exact zl
 ·exact zm
 ·exact zn
 ·exact zo
 ·exact zp
 ·exact zq
 ·exact zr
def rQ (s:bB):Nat × Cp:=if (bj 1 s).2.1=true then(2,dI)else if wi (bj 1 s).1 1 7=false then(7,dI)else cy (ow (bj 1 s).1 (bj 8 (bj 1 s).2).1 (bj 8 (bj 8 (bj 1 s).2).2).1 (bj 8 (bj 8 (bj 1 s).2).2).2)
theorem qd {b:List Int} (h:¬8000 < b.length):dM b=rQ (false,b):=by
 unfold dM rQ;rw[if_neg h];cases b with
 | nil=>rw[if_pos pE]
 | cons k r=>rw[nF];simp only[Fh,if_false];rw[sL]
def B7 (a:Nat->DG) (pr:Nat × Cp) (w:DF) (e:Ending) (w':DF):Prop:=∃v' vp vs vb L,e=.returned (.tuple #[v',a pr.1])/\v'=.agg (cL pr.2 vp vs vb).toArray/\bZ (fun k=>w.heap.size<=k) w' pr.2 vp vs vb L/\az w w'
theorem uE (v:DG) (b:List Int) (w:DF) (S:List Nat) (a:Nat->Addr) (hR:Rd w .u8 v b) (s:bA b) (hl:b.length<=9000) (he:kz S a w) (s1:1∈S) (s2:2∈S) (s3:3∈S) (s4:4∈S) (s7:7∈S) (s8:8∈S):
  DN DE 55 #[v] w fun e w'=>B7 (oX a) (dM b) w e w':=by
 obtain⟨p,c,cN,cf,ch⟩:=hR.form;subst cN;have He:=aa he;have HG:Hid (∀i,i∈S->¬(gE i=w.heap.size)):=aa fun i hi q=>by have h:=DM _ _ (he.cell i hi);have:gE i < w.heap.size:=h;omega
 obtain⟨pr,aT⟩:=exq (dM b);have a3:Hid (8000 < b.length->pr=(3,dI)):=aa fun h=>by rw[aT];unfold dM;rw[if_pos h]
 have a4:Hid (¬8000 < b.length->pr=rQ (false,b)):=aa fun h=>by rw[aT];exact qd h
 rw[<-aT];clear aT;have aG:=aa (av.box (cs:=zL.toList) w 26 (fun q=>by cases q));have a0:=aa (ae w (.cells zL 26))
 have Z:Hid (∀E,av E w.heap.size zL.toList->(Instr.storeAt 26 (.pointer (some ⟨w.heap.size,0,none⟩)) (.agg zL)).run DE E=.ok () (E.setCells w.heap.size 0 zL.toList)):=aa fun E h=>h.store (P:=DE) (cs':=zL.toList) rfl (fun c hc=>by
  simp only[Es,ED,or_false]at hc
  rcases hc with rfl | rfl | rfl | rfl | rfl | rfl | rfl | rfl | rfl<;>rfl) (ty:=26) (by kernel_rfl)
 obtain⟨n,hn⟩:=exq b.length;have Hn:=aa hn;have HR:=aa hR;have Hb:=aa s;rw[<-hn]at a3 a4 cf hl⊢;unfold maxLen at ch;clear he hR s hn;by_cases h8:8000 < n
 ·have cG:(8000:Int) < (n:Int):=by omega
  have HZ:Hid (Kq (fun k=>w.heap.size<=k) w (w.alloc (.cells zL 26))):=aa (Kq.AI a0);have D:=aa (a3 h8);go_enter Tryz.func55,Tryz.ntmps55
  go_wp2_with fail
  obtain⟨W0,cb⟩:=exq (w.alloc (.cells zL 26));rw[<-cb]at aG HZ⊢;clear cb;have A:W0.cell? ⟨6,0,none⟩=some (.iface 233 (.pointer (some (a 3)))):=(He.ext (HZ.ext (fun k q=>q))).cell 3 s3;have I:=aa A;clear A;apply ay (Kq (fun k=>k=w.heap.size)) (fun _ _ w'=>av w' w.heap.size zL.toList) 3 [10,11] [ar _,ar _,ar _] (fun w=>Kq.refl w) (fun a b c h k=>Kq.trans h k) (by kernel_rfl) (by kernel_rfl) (by kernel_rfl) (by kernel_rfl);case hsteps=>
   refine⟨?_,?_,?_,trivial⟩;all_goals
    intro d ev m r g x y C s f;replace x:=aa x;replace g:=aa g;replace y:=aa y;replace C:=aa C;have z:=s 2 (by decide);clear s;simp only[sB]at z;simp only[sG]at f;have cF:m.cell? ⟨6,0,none⟩=some (.iface 233 (.pointer (some (a 3)))):=r.cell (HG 3 s3) I;rw[if_pos (rfl:DP _ _=true)];first
    | ((with_reducible refine dw ?_ ?_ (Z.out m g.out) ?_ ?_);exact z;exact(by first | ((repeat(first | exact f | exact f.2 | replace f:=f.1));done) | (repeat(first | exact f | exact f.1 | replace f:=f.2)));exact(Kq.refl m).setCells (Q:=fun k=>k=w.heap.size) rfl 0 _;exact⟨rfl,g.set rfl⟩)
    | (go_simp;first | exact⟨Kq.refl _,rfl,g⟩ | exact⟨DI _ _,rfl,HJ.same (by decide) g⟩)
  case hmono=>exact mR
  case hR0=>exact Kq.drew _
  case hend=>
   intro u m r B hend;simp only[sE]at hend;simp only[sF,hend];have G:=aa B;have H:Hid (az w m):=aa ((HZ.trans (r.mono fun k _ q=>E9 q.symm)).ext fun k q=>q);have N:pr=(3,dI):=D.out;subst N;clear r B hend
   go_wp2_with fail
   exact DK (v:=.tuple #[.agg zL,.iface 233 (.pointer (some (a 3)))]) (aj rfl rfl (G.loadVar (P:=DE) DQ rfl (by kernel_rfl)) rfl) rfl ⟨_,_,_,_,_,rfl,rfl,bZ.nil _ _ _ _ _ _ _ _,H⟩
  case hJ0=>exact av.same aG rfl
 have cG:¬((8000:Int) < (n:Int)):=by omega
 have t:=aa (a4 h8);clear a3 a4 h8;have ck:(w.alloc (.cells zL 26)).heap.size=w.heap.size+1:=DO _ _;obtain⟨W1,ax⟩:=exq ((w.alloc (.cells zL 26)).alloc (.cells #[.slice p n c,.bool false] 157));have bG:Hid (av W1 w.heap.size zL.toList):=aa (by rw[ax];exact aG.ext (ae _ _));have a1:Hid (az w W1):=aa (by rw[ax];exact a0.trans (ae _ _));obtain⟨X,hX⟩:=exq (w.heap.size+1)
 have bR:Hid (av W1 X [.slice p n c,.bool false]):=aa (by
  have h:=av.box (cs:=[.slice p n c,.bool false]) (w.alloc (.cells zL 26)) 157 (fun q=>by cases q);rw[ck,<-hX]at h
  rw[ax];exact h)
 have bO:Hid (cM W1 X (false,b)):=aa ⟨⟨p,c,by rw[<-Hn.out];exact bR,by
  refine(aS.By (F:=fun k=>k < w.heap.size) HR (fun _ _ h=>h)).kept fun k R aR=>⟨by omega,a1.block k R⟩,by rw[<-Hn.out];exact cf,by unfold maxLen;exact ch⟩,Hb,by rw[<-Hn.out];exact hl⟩
 have a2:=aa (cP X 1 (false,b) W1 bO (by decide) (by decide));have bS:Hid (Kq (fun k=>w.heap.size<=k) w W1):=aa (Kq.AI a1);unfold rQ at t;obtain⟨k,R⟩:=exq ((bj 1 (false,b)).1);obtain⟨t1,bt⟩:=exq ((bj 1 (false,b)).2);rw[<-R,<-bt]at a2;simp only[<-R,<-bt]at t;have ce:w.heap.size < X:=by omega
 clear ck bR bO R bt aG a0;go_enter Tryz.func55,Tryz.ntmps55
 go_wp2_with fail
 rw[<-ax,<-hX];clear ax hX;refine a2.mono ?_;rintro e E ⟨rfl,b8,be⟩;have a5:=aa b8;have bT:Hid (Kq (fun k=>w.heap.size<=k) w E):=aa (bS.trans (be.mono fun k _ q=>by omega));have bH:=aa (be.box (by omega) bG);clear b8 be a2 bG bS a1;have cj:∀c∈cK k 0 0 0 0 0,c.oneCell'=true:=fun c hc=>by simp only[cK,Es,ED,or_false]at hc;rcases hc with rfl | rfl | rfl | rfl | rfl | rfl | rfl | rfl | rfl<;>rfl
 obtain⟨b2,b3⟩:=av.fresh (cs:=cK k 0 0 0 0 0) E 26 zL rfl (fun q=>by cases q);have b1:=aa (aI (P:=DE) (cs:=cK k 0 0 0 0 0) E 26 zL rfl cj (ty:=26) (by kernel_rfl));have ai:=aa b2;have al:=aa b3;clear b2 b3 cj
 go_wp2_with (with_reducible refine aC (ty:=26) ?_)
 refine au ?_;refine ag rfl rfl b1 ?_;obtain⟨W3,cc⟩:=exq ((E.alloc (.cells zL 26)).setCells E.heap.size 0 (cK k 0 0 0 0 0));obtain⟨Y,hY⟩:=exq E.heap.size;rw[<-cc]at ai al⊢;rw[<-hY]at ai⊢;have J:Hid (X < Y/\w.heap.size < X):=aa ⟨by rw[hY];exact a5.lt,ce⟩;have a6:=aa (a5.ext al);have aH:=aa (bH.ext al);have ab:Hid (Kq (fun k=>w.heap.size<=k) w W3):=aa (bT.trans (Kq.AI al));clear cc hY b1 a5 bH bT al ce;obtain⟨p3,c3,cl,_⟩:=a6.ex;have bB:=cl.cell (i:=1) rfl;have cm:=ai.cell (i:=0) (v:=.int .i64 k) rfl;clear cl;obtain⟨sh,bs⟩:=exq t1.1;rw[<-bs]at bB;rw[<-bs]at t;clear bs;cases sh with
 | true=>
  have D:Hid (pr=(2,dI)):=t;clear t cm
  go_wp2_with fail
  clear bB;have A:W3.cell? ⟨7,0,none⟩=some (.iface 233 (.pointer (some (a 2)))):=(He.ext (ab.ext (fun k q=>q))).cell 2 s2;have I:=aa A;clear A;apply ay (Kq (fun k=>k=w.heap.size)) (fun _ _ w'=>av w' w.heap.size zL.toList) 3 [23,24] [ar _,ar _,ar _] (fun w=>Kq.refl w) (fun a b c h k=>Kq.trans h k) (by kernel_rfl) (by kernel_rfl) (by kernel_rfl) (by kernel_rfl);case hsteps=>
   refine⟨?_,?_,?_,trivial⟩;all_goals
    intro d ev m r g x y C s f;replace x:=aa x;replace g:=aa g;replace y:=aa y;replace C:=aa C;have z:=s 2 (by decide);clear s;simp only[sB]at z;simp only[sG]at f;have cF:m.cell? ⟨7,0,none⟩=some (.iface 233 (.pointer (some (a 2)))):=r.cell (HG 2 s2) I;rw[if_pos (rfl:DP _ _=true)];first
    | ((with_reducible refine dw ?_ ?_ (Z.out m g.out) ?_ ?_);exact z;exact(by first | ((repeat(first | exact f | exact f.2 | replace f:=f.1));done) | (repeat(first | exact f | exact f.1 | replace f:=f.2)));exact(Kq.refl m).setCells (Q:=fun k=>k=w.heap.size) rfl 0 _;exact⟨rfl,g.set rfl⟩)
    | (go_simp;first | exact⟨Kq.refl _,rfl,g⟩ | exact⟨DI _ _,rfl,HJ.same (by decide) g⟩)
  case hmono=>exact mR
  case hR0=>exact Kq.drew _
  case hend=>
   intro u m r B hend;simp only[sE]at hend;simp only[sF,hend];have G:=aa B;have H:Hid (az w m):=aa ((ab.trans (r.mono fun k _ q=>E9 q.symm)).ext fun k q=>q);have N:pr=(2,dI):=D.out;subst N;clear r B hend
   go_wp2_with fail
   exact DK (v:=.tuple #[.agg zL,.iface 233 (.pointer (some (a 2)))]) (aj rfl rfl (G.loadVar (P:=DE) DQ rfl (by kernel_rfl)) rfl) rfl ⟨_,_,_,_,_,rfl,rfl,bZ.nil _ _ _ _ _ _ _ _,H⟩
  case hJ0=>exact av.same aH rfl
 | false=>
 simp only[Fh,if_false]at t
 go_wp2_with fail
 refine(bg _ _ _ _).mono ?_;rintro e c6 ⟨rfl,cO⟩;subst cO;obtain⟨qk,aU⟩:=exq (wi k 1 7);rw[<-aU];rw[<-aU]at t;have b0:=aa aU;clear aU bB cm;cases qk with
 | false=>
  have D:Hid (pr=(7,dI)):=t;clear t
  go_wp2_with fail
  have A:W3.cell? ⟨2,0,none⟩=some (.iface 233 (.pointer (some (a 7)))):=(He.ext (ab.ext (fun k q=>q))).cell 7 s7;have I:=aa A;clear A;apply ay (Kq (fun k=>k=w.heap.size)) (fun _ _ w'=>av w' w.heap.size zL.toList) 3 [30,31] [ar _,ar _,ar _] (fun w=>Kq.refl w) (fun a b c h k=>Kq.trans h k) (by kernel_rfl) (by kernel_rfl) (by kernel_rfl) (by kernel_rfl);case hsteps=>
   refine⟨?_,?_,?_,trivial⟩;all_goals
    intro d ev m r g x y C s f;replace x:=aa x;replace g:=aa g;replace y:=aa y;replace C:=aa C;have z:=s 2 (by decide);clear s;simp only[sB]at z;simp only[sG]at f;have cF:m.cell? ⟨2,0,none⟩=some (.iface 233 (.pointer (some (a 7)))):=r.cell (HG 7 s7) I;rw[if_pos (rfl:DP _ _=true)];first
    | ((with_reducible refine dw ?_ ?_ (Z.out m g.out) ?_ ?_);exact z;exact(by first | ((repeat(first | exact f | exact f.2 | replace f:=f.1));done) | (repeat(first | exact f | exact f.1 | replace f:=f.2)));exact(Kq.refl m).setCells (Q:=fun k=>k=w.heap.size) rfl 0 _;exact⟨rfl,g.set rfl⟩)
    | (go_simp;first | exact⟨Kq.refl _,rfl,g⟩ | exact⟨DI _ _,rfl,HJ.same (by decide) g⟩)
  case hmono=>exact mR
  case hR0=>exact Kq.drew _
  case hend=>
   intro u m r B hend;simp only[sE]at hend;simp only[sF,hend];have G:=aa B;have H:Hid (az w m):=aa ((ab.trans (r.mono fun k _ q=>E9 q.symm)).ext fun k q=>q);have N:pr=(7,dI):=D.out;subst N;clear r B hend
   go_wp2_with fail
   exact DK (v:=.tuple #[.agg zL,.iface 233 (.pointer (some (a 7)))]) (aj rfl rfl (G.loadVar (P:=DE) DQ rfl (by kernel_rfl)) rfl) rfl ⟨_,_,_,_,_,rfl,rfl,bZ.nil _ _ _ _ _ _ _ _,H⟩
  case hJ0=>exact av.same aH rfl
 | true=>
 have t:Hid (pr=cy (ow k (bj 8 t1).1 (bj 8 (bj 8 t1).2).1 (bj 8 (bj 8 t1).2).2)):=t;have cu:=aa (bJ.1 b0.symm);clear b0
 go_wp2_with fail
 refine(cP X 8 t1 W3 a6 (by decide) (by decide)).mono ?_;rintro e w4 ⟨rfl,b9,b4⟩;have a7:=aa b9;have bL:=aa b4;clear b9 b4;obtain⟨i,hi⟩:=exq ((bj 8 t1).1);obtain⟨t2,bu⟩:=exq ((bj 8 t1).2);rw[<-bu]at a7;simp only[<-hi,<-bu]at t;rw[<-hi];clear hi bu
 go_wp2_with fail
 refine(cP X 8 t2 w4 a7 (by decide) (by decide)).mono ?_;rintro e T ⟨rfl,ca,b5⟩;have a8:=aa ca;have aL:Hid (Kq (fun k=>k=X) W3 T):=aa (bL.trans b5);clear ca b5 a7 bL;obtain⟨o,ho⟩:=exq ((bj 8 t2).1);obtain⟨t3,bv⟩:=exq ((bj 8 t2).2);rw[<-bv]at a8;simp only[<-ho,<-bv]at t;rw[<-ho];clear ho bv;have aF:=aa (aL.box (by have:=J.out;omega) ai);have bU:Hid (Kq (fun k=>w.heap.size<=k) w T):=aa (ab.trans (aL.mono fun k _ q=>by have:=J.out;omega));have bI:=aa (aL.box (by have:=J.out;omega) aH);have aN:Hid (av (T.setCell ⟨Y,1,none⟩ (.int .i64 i)) Y (cK k i 0 0 0 0)):=aa (aF.put (i:=1) (show 1 < 9 by decide) (.int .i64 i));have cQ:=aF.cell (i:=1) (v:=.int .i64 0) rfl;have f51:=aF.fz (i:=1) (show 1 < 9 by decide);have cR:=aN.cell (i:=2) (v:=.int .i64 0) rfl;have f52:=aN.fz (i:=2) (show 2 < 9 by decide);have aX:Hid (av ((T.setCell ⟨Y,1,none⟩ (.int .i64 i)).setCell ⟨Y,2,none⟩ (.int .i64 o)) Y (cK k i o 0 0 0)):=aa (aN.put (i:=2) (show 2 < 9 by decide) (.int .i64 o));have an:Hid (Kq (fun k=>k=Y) T ((T.setCell ⟨Y,1,none⟩ (.int .i64 i)).setCell ⟨Y,2,none⟩ (.int .i64 o))):=aa (((Kq.refl T).setCell (Q:=fun k=>k=Y) ⟨Y,1,none⟩ rfl _).setCell ⟨Y,2,none⟩ rfl _);clear a6 aH ab ai aL
 go_wp2_with fail
 obtain⟨W6,cd⟩:=exq ((T.setCell ⟨Y,1,none⟩ (.int .i64 i)).setCell ⟨Y,2,none⟩ (.int .i64 o));rw[<-cd]at aX an⊢;clear cd cQ f51 cR f52 aN;have bP:=aa (a8.kept an (fun j hj q=>by have:=J.out;omega));have bV:Hid (Kq (fun k=>w.heap.size<=k) w W6):=aa (bU.trans (an.mono fun k _ q=>by have:=J.out;omega));have aY:=aa (an.box (by have:=J.out;omega) bI);clear a8 bU bI aF an;refine(uD k cu X Y i o t3 W6 bP aX J.1).mono ?_;rintro e w7 ⟨rfl,bh,bk,bf⟩;obtain⟨l,bo⟩:=exq ((ow k i o t3).1);obtain⟨t4,bw⟩:=exq ((ow k i o t3).2);have W:Hid (pr=cy (l,t4)):=aa (by rw[t.out,bo,bw]);rw[<-bo]at bh;rw[<-bw]at bk;have cr:=aa bk;have bM:=aa bh;have U:Hid (Kq (fun k=>w.heap.size<=k) w w7):=aa (bV.trans (bf.mono fun k _ q=>by have:=J.out;rcases q with q | q<;>omega));have aJ:=aa (bf.box (by have:=J.out;omega) aY);have bQ:Hid (w.heap.size < W6.heap.size):=aa aY.lt;clear bh bk bf bo bw t bP aX bV aY;obtain⟨p7,c7,bx,_,cg,cJ⟩:=cr.ex;have aV:=bx.cell (i:=1) rfl;have aD:=bx.cell (i:=0) rfl;obtain⟨sh,rest⟩:=t4;simp only at aV aD cg;unfold maxLen at cJ;obtain⟨nr,bq⟩:=exq rest.length;rw[<-bq]at aD cg;have bY:=aa bq;clear bx bq;cases sh with
 | true=>
  have D:Hid (pr=(2,dI)):=aa (by rw[W.out];rfl);clear W aD
  go_wp2_with fail
  clear aV;have A:w7.cell? ⟨7,0,none⟩=some (.iface 233 (.pointer (some (a 2)))):=(He.ext (U.ext (fun k q=>q))).cell 2 s2;have I:=aa A;clear A;apply ay (Kq (fun k=>k=w.heap.size)) (fun _ _ w'=>av w' w.heap.size zL.toList) 3 [45,46] [ar _,ar _,ar _] (fun w=>Kq.refl w) (fun a b c h k=>Kq.trans h k) (by kernel_rfl) (by kernel_rfl) (by kernel_rfl) (by kernel_rfl);case hsteps=>
   refine⟨?_,?_,?_,trivial⟩;all_goals
    intro d ev m r g x y C s f;replace x:=aa x;replace g:=aa g;replace y:=aa y;replace C:=aa C;have z:=s 2 (by decide);clear s;simp only[sB]at z;simp only[sG]at f;have cF:m.cell? ⟨7,0,none⟩=some (.iface 233 (.pointer (some (a 2)))):=r.cell (HG 2 s2) I;rw[if_pos (rfl:DP _ _=true)];first
    | ((with_reducible refine dw ?_ ?_ (Z.out m g.out) ?_ ?_);exact z;exact(by first | ((repeat(first | exact f | exact f.2 | replace f:=f.1));done) | (repeat(first | exact f | exact f.1 | replace f:=f.2)));exact(Kq.refl m).setCells (Q:=fun k=>k=w.heap.size) rfl 0 _;exact⟨rfl,g.set rfl⟩)
    | (go_simp;first | exact⟨Kq.refl _,rfl,g⟩ | exact⟨DI _ _,rfl,HJ.same (by decide) g⟩)
  case hmono=>exact mR
  case hR0=>exact Kq.drew _
  case hend=>
   intro u m r B hend;simp only[sE]at hend;simp only[sF,hend];have G:=aa B;have H:Hid (az w m):=aa ((U.trans (r.mono fun k _ q=>E9 q.symm)).ext fun k q=>q);have N:pr=(2,dI):=D.out;subst N;clear r B hend
   go_wp2_with fail
   exact DK (v:=.tuple #[.agg zL,.iface 233 (.pointer (some (a 2)))]) (aj rfl rfl (G.loadVar (P:=DE) DQ rfl (by kernel_rfl)) rfl) rfl ⟨_,_,_,_,_,rfl,rfl,bZ.nil _ _ _ _ _ _ _ _,H⟩
  case hJ0=>exact av.same aJ rfl
 | false=>
 by_cases h0:0 < nr
 ·have D:Hid (pr=(4,dI)):=aa (by
   rw[W.out];unfold cy;simp only[Fh,if_false];rw[if_pos (by rw[<-bY.out];exact h0)])
  have cE:(0:Int) < (nr:Int):=by omega
  clear W h0
  go_wp2_with fail
  clear aV aD;have A:w7.cell? ⟨5,0,none⟩=some (.iface 233 (.pointer (some (a 4)))):=(He.ext (U.ext (fun k q=>q))).cell 4 s4;have I:=aa A;clear A;apply ay (Kq (fun k=>k=w.heap.size)) (fun _ _ w'=>av w' w.heap.size zL.toList) 3 [54,55] [ar _,ar _,ar _] (fun w=>Kq.refl w) (fun a b c h k=>Kq.trans h k) (by kernel_rfl) (by kernel_rfl) (by kernel_rfl) (by kernel_rfl);case hsteps=>
   refine⟨?_,?_,?_,trivial⟩;all_goals
    intro d ev m r g x y C s f;replace x:=aa x;replace g:=aa g;replace y:=aa y;replace C:=aa C;have z:=s 2 (by decide);clear s;simp only[sB]at z;simp only[sG]at f;have cF:m.cell? ⟨5,0,none⟩=some (.iface 233 (.pointer (some (a 4)))):=r.cell (HG 4 s4) I;rw[if_pos (rfl:DP _ _=true)];first
    | ((with_reducible refine dw ?_ ?_ (Z.out m g.out) ?_ ?_);exact z;exact(by first | ((repeat(first | exact f | exact f.2 | replace f:=f.1));done) | (repeat(first | exact f | exact f.1 | replace f:=f.2)));exact(Kq.refl m).setCells (Q:=fun k=>k=w.heap.size) rfl 0 _;exact⟨rfl,g.set rfl⟩)
    | (go_simp;first | exact⟨Kq.refl _,rfl,g⟩ | exact⟨DI _ _,rfl,HJ.same (by decide) g⟩)
  case hmono=>exact mR
  case hR0=>exact Kq.drew _
  case hend=>
   intro u m r B hend;simp only[sE]at hend;simp only[sF,hend];have G:=aa B;have H:Hid (az w m):=aa ((U.trans (r.mono fun k _ q=>E9 q.symm)).ext fun k q=>q);have N:pr=(4,dI):=D.out;subst N;clear r B hend
   go_wp2_with fail
   exact DK (v:=.tuple #[.agg zL,.iface 233 (.pointer (some (a 4)))]) (aj rfl rfl (G.loadVar (P:=DE) DQ rfl (by kernel_rfl)) rfl) rfl ⟨_,_,_,_,_,rfl,rfl,bZ.nil _ _ _ _ _ _ _ _,H⟩
  case hJ0=>exact av.same aJ rfl
 have ao:Hid (pr=if aW l=0 then(0,l)else(aW l,dI)):=aa (by
  rw[W.out];unfold cy;simp only[Fh,if_false];rw[if_neg (by rw[<-bY.out];exact h0)])
 have cE:¬((0:Int) < (nr:Int)):=by omega
 obtain⟨vp,vs,vb,L,bc,V⟩:=bM.out;obtain⟨ap,ac,aq,_,_⟩:=V.pl.AT.form;obtain⟨bp,cW,cC,_,_⟩:=V.sh.AT.form;obtain⟨M,b7,cH,cI⟩:=V.bl;obtain⟨c1,c0,cq,_,_⟩:=b7.AT.form;have b6:dH w7 (.agg (cL l vp vs vb).toArray) l:=⟨_,vp,vs,vb,L,rfl,V.Cr⟩;have bN:=aa b6;have bF:=aa bc;have bK:=aa V;have cw:Hid (∀c∈cL l vp vs vb,c.oneCell'=true):=aa V.Cr.one;have bX:=aa (bc.load (P:=DE) DQ rfl (by kernel_rfl));clear W h0 bc V aq cC b7 cH cI cq b6 bM
 go_wp2_with refine ak rfl bX ?_
 refine(gW _ l w7 S a bN (He.ext (U.ext fun k q=>q)) s1 s3 s4 s7 s8).mono ?_;rintro e O ⟨rfl,ah⟩;have cV:=aa ah;have cn:=aa (bF.ext ah);have aK:=aa (aJ.ext ah);have bW:Hid (Kq (fun k=>w.heap.size<=k) w O):=aa (U.trans (Kq.AI ah));have co:Hid (bZ (fun k=>W6.heap.size<=k) O l vp vs vb L):=aa (bK.kept fun k R aR=>⟨R,ah.block k aR⟩);clear ah bF aJ U bK bX bN aD aV;obtain⟨K,hK⟩:=exq (aW l);rw[<-hK]at ao;rw[<-hK];clear hK;by_cases aw:K=0
 ·subst aw;rw[ft];have D:Hid (pr=(0,l)):=ao;have cv:=aa (cn.load (P:=DE) DQ rfl (by kernel_rfl));have cx:=aa (aK.store (P:=DE) (cs':=cL l vp vs vb) rfl cw (ty:=26) (by kernel_rfl));have aZ:=aa (aK.set (cs':=cL l vp vs vb) rfl);have aM:Hid (Kq (fun k=>k=w.heap.size) O (O.setCells w.heap.size 0 (cL l vp vs vb))):=aa ((Kq.refl O).setCells (Q:=fun k=>k=w.heap.size) rfl 0 _);clear ao
  go_wp2_with first | refine ak rfl cv ?_ | refine ag rfl rfl cx ?_
  refine DK (v:=.tuple #[.agg (cL l vp vs vb).toArray,.nilIface]) (aj rfl rfl (aZ.loadVar (P:=DE) DQ rfl (by kernel_rfl)) rfl) rfl ?_;rw[D.out];exact⟨_,vp,vs,vb,L,rfl,rfl,co.kept fun k R aR=>⟨by have:=bQ.out;omega,aM.block k aR (by have:=bQ.out;omega)⟩,(bW.trans (aM.mono fun k _ q=>E9 q.symm)).ext fun k q=>q⟩
 ·rw[dt a K aw];have D:Hid (pr=(K,dI)):=aa (by rw[ao.out,if_neg aw]);have cp:=aa aw;have cz:=aa (Z O aK);have aZ:=aa (aK.set (cs':=zL.toList) rfl);have aM:Hid (Kq (fun k=>k=w.heap.size) O (O.setCells w.heap.size 0 zL.toList)):=aa ((Kq.refl O).setCells (Q:=fun k=>k=w.heap.size) rfl 0 _);clear ao aw
  go_wp2_with refine ag rfl rfl cz ?_
  refine DK (v:=.tuple #[.agg zL,.iface 233 (.pointer (some (a K)))]) (aj rfl rfl (aZ.loadVar (P:=DE) DQ rfl (by kernel_rfl)) rfl) rfl ?_;rw[D.out];exact⟨_,_,_,_,_,by rw[dt a K cp.out];rfl,rfl,bZ.nil _ _ _ _ _ _ _ _,(bW.trans (aM.mono fun k _ q=>E9 q.symm)).ext fun k q=>q⟩
end Go.Proofs.Bl
