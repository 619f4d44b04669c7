/- Walk of reader.rest. -/
import Derived.Test.YtglenbikdahgjaaGreatDoorPs16
import Derived.Test.YtglenbikdahgjaaGreatDoorPs17
set_option maxRecDepth 100000
set_option maxHeartbeats 16000000
open And renaming intro->Dj
open Bool renaming false_eq_true->E3
open Go renaming Calls->CZ,Value->CQ,World->CP,bodyPost_ret->De
open Go.Region renaming wanted->C8
open Go.RowKit.Below renaming refl->CT
open Go.World renaming block_lt_of_cell?->CW,cell?_alloc_new->Df,size_alloc->C4
open Int renaming eq_ofNat_of_zero_le->DK,toNat_natCast->Dy
open List renaming mem_cons->DA,not_mem_nil->Eg
open Nat renaming le_of_eq->FN
namespace Go.Proofs.Bl
open Go Go.RowKit Go.Proofs
open Go.Proofs.Tryz renaming ntmps95->Gr,prog->CO,underlying26->C5
def cK (k i o f c d:Int):List CQ:=[.int .i64 k,.int .i64 i,.int .i64 o,.slice none 0 0,.slice none 0 0,.int .i64 f,.int .i64 c,.slice none 0 0,.int .i64 d]
structure J5 (X Y:Nat) (s s1 s2:bS) (cs cs':List CQ) (d:Nat->Bool) (u:Nat->CQ) (w:CP):Prop where
 a:d 3=false->ch w X s
 c:d 3=true->d 5=false->ch w X s1
 e:d 5=true->ch w X s2
 g:d 8=false->aw w Y cs
 h:d 8=true->aw w Y cs'
section
variable {X Y:Nat} {s s1 s2:bS} {cs cs':List CQ} {d:Nat->Bool} {u u':Nat->CQ} {w w':CP}
theorem J5.start (h:ch w X s) (a:aw w Y cs):J5 X Y s s1 s2 cs cs' (fun _=>false) u w:=⟨fun _=>h,fun q=>(by cases q),fun q=>(by cases q),fun _=>a,fun q=>(by cases q)⟩
theorem J5.same {i:Nat} (h:J5 X Y s s1 s2 cs cs' d u w) (f:(decide (i=3)||decide (i=5)||decide (i=8))=false):J5 X Y s s1 s2 cs cs' (bW d i) u' w:=by
 simp only[Bool.or_eq_false_iff,decide_eq_false_iff_not]at f;obtain⟨⟨h1,h2⟩,j⟩:=f;have a3:bW d i 3=d 3:=if_neg (fun e=>h1 e.symm);have a5:bW d i 5=d 5:=if_neg (fun e=>h2 e.symm);have b:bW d i 8=d 8:=if_neg (fun e=>j e.symm);exact⟨by rw[a3];exact h.a,by rw[a3,a5];exact h.c,by rw[a5];exact h.e,by rw[b];exact h.g,by rw[b];exact h.h⟩
theorem J5.one (h:J5 X Y s s1 s2 cs cs' d u w) (c:d 5=false) (b:X≠Y) (f:ch w' X s1) (a:Kq (fun k=>k=X) w w'):J5 X Y s s1 s2 cs cs' (bW d 3) u' w':=
 ⟨fun q=>(by cases q),fun _ _=>f,fun q=>(by have q:d 5=true:=q;rw[c]at q;cases q),fun q=>a.box (fun e=>b e.symm) (h.g q),fun q=>a.box (fun e=>b e.symm) (h.h q)⟩
theorem J5.two (h:J5 X Y s s1 s2 cs cs' d u w) (c:d 3=true) (b:X≠Y) (f:ch w' X s2) (a:Kq (fun k=>k=X) w w'):J5 X Y s s1 s2 cs cs' (bW d 5) u' w':=
 ⟨fun q=>(by have q:d 3=false:=q;rw[c]at q;cases q),fun _ q=>(by cases q),fun _=>f,fun q=>a.box (fun e=>b e.symm) (h.g q),fun q=>a.box (fun e=>b e.symm) (h.h q)⟩
theorem J5.set (h:J5 X Y s s1 s2 cs cs' d u w) (j:X < Y) {p:Nat} {v:CQ} (b:aw (w.setCell ⟨Y,p,none⟩ v) Y cs'):J5 X Y s s1 s2 cs cs' (bW d 8) u' (w.setCell ⟨Y,p,none⟩ v):=by
 have f:Kq (fun k=>k=Y) w (w.setCell ⟨Y,p,none⟩ v):=(Kq.refl w).setCell (Q:=fun k=>k=Y) ⟨Y,p,none⟩ rfl v;have key:∀ {s},ch w X s->ch (w.setCell ⟨Y,p,none⟩ v) X s:=fun h=>h.kept f (fun i l q=>by omega)
 exact⟨fun q=>key (h.a q),fun q g=>key (h.c q g),fun q=>key (h.e q),fun q=>(by cases q),fun _=>b⟩
end
def eP (k:Int):Prop:=∀(X Y:Nat) (i o:Int) (s:bS) (w:CP),ch w X s->aw w Y (cK k i o 0 0 0)->X < Y->
  CZ CO 95 #[.pointer (some ⟨X,0,none⟩),.pointer (some ⟨Y,0,none⟩)] w fun e w'=>e=.returned (.tuple #[])/\AD w' Y w.heap.size (nz k i o s).1/\ch w' X (nz k i o s).2/\Kq (fun k=>k=X\/k=Y) w w'
theorem yh:eP 1:=by
 intro X Y i o s w h D ac;have ad:=D.lt;have T:=ae w (.cells #[.pointer (some ⟨X,0,none⟩)] 155);have r:=T.trans (ae _ (.cells #[.pointer (some ⟨Y,0,none⟩)] 129));have G:(w.alloc (.cells #[.pointer (some ⟨X,0,none⟩)] 155)).heap.size=w.heap.size+1:=C4 _ _;obtain⟨f,j⟩:=exq ((w.alloc (.cells #[.pointer (some ⟨X,0,none⟩)] 155)).alloc (.cells #[.pointer (some ⟨Y,0,none⟩)] 129));have aj:f.heap.size=w.heap.size+1+1:=by rw[j,C4,G]
 have ah:f.cell? ⟨w.heap.size,0,none⟩=some (.pointer (some ⟨X,0,none⟩)):=by
  rw[j];have h0:(w.alloc (.cells #[.pointer (some ⟨X,0,none⟩)] 155)).cell? ⟨w.heap.size,0,none⟩=some (.pointer (some ⟨X,0,none⟩)):=by rw[Df];rfl
  exact((ay (ae _ _)).1 _ _ (CW _ _ h0)).trans h0
 have m:f.cell? ⟨w.heap.size+1,0,none⟩=some (.pointer (some ⟨Y,0,none⟩)):=by rw[j,<-G,Df];rfl
 rw[<-j]at r;have am:=aa r;have J:=aa (D.ext r);have N:=aa (h.ext r);have l:Hid (f.heap.size=w.heap.size+1+1/\X < Y/\Y < w.heap.size):=aa ⟨aj,ac,ad⟩;have S:Hid (∀g,Kq (fun k=>k=X\/k=Y) f g->g.cell? ⟨w.heap.size,0,none⟩=some (.pointer (some ⟨X,0,none⟩))/\g.cell? ⟨w.heap.size+1,0,none⟩=some (.pointer (some ⟨Y,0,none⟩))):=aa fun g hk=>⟨hk.cell (by omega) ah,hk.cell (by omega) m⟩
 have ag:=J.cell (i:=0) (v:=.int .i64 1) rfl;rw[j]at ag;clear h D T r G aj ah ac ad;have ai:nz 1 i o s=(⟨1,i,o,[],[],0,0,(du lH (aW 2 s).1.toNat (aW 2 s).2).1,0⟩,(du lH (aW 2 s).1.toNat (aW 2 s).2).2):=rfl;rw[ai];clear ai;have L:Hid (∀g,ch g X s->CZ CO 94 #[.pointer (some ⟨X,0,none⟩),.int .i64 2] g fun e w'=>e=.returned (.int .i64 (aW 2 s).1)/\ch w' X (aW 2 s).2/\Kq (fun k=>k=X) g w'):=aa fun g hr=>cj X 2 s g hr (by decide) (by decide)
 have E:=uK (s:=s) N.BJ;obtain⟨cI,y⟩:=exq ((aW 2 s).1);obtain⟨s3,H⟩:=exq ((aW 2 s).2);rw[<-y]at E;rw[<-y,<-H]at L;simp only[<-y,<-H];obtain⟨n,rfl⟩:=DK E.1;rw[Dy];have Hn:Hid (n<=65535):=aa (by omega);clear y H E;go_enter Tryz.func95,Gr
 go_wp2_with fail
 rw[<-j];clear j ag m;apply az (Kq (fun k=>k=X)) (HJ 2 (fun w'=>ch w' X s) (fun w'=>ch w' X s3)) 4 [25,26,27,28] [ar _,ar _,ar _,ar _] (fun w=>Kq.refl w) (fun a b c h k=>Kq.trans h k) (by kernel_rfl) (by kernel_rfl) (by kernel_rfl) (by kernel_rfl);case hsteps=>
  refine⟨?_,?_,?_,?_,trivial⟩;all_goals
   intro d ev A z p P R F t hd;replace P:=aa P;replace p:=aa p;replace R:=aa R;replace F:=aa F;have e2:=t 2 (by decide);have e3:=t 3 (by decide);clear t;simp only[sB]at e2 e3;simp only[sG]at hd;have I:=S _ ((Kq.refl f).trans (z.mono fun _ _ q=>.inl q));have c0:=I.1;have c1:=I.2;clear I;rw[if_pos (rfl:C8 _ _=true)];go_simp;first | exact⟨Kq.refl _,rfl,HJ.same (by decide) p⟩ | (go_at_call 94;(with_reducible refine(L.out A (HJ.get p.out F.out)).mono ?_);rintro e g ⟨rfl,k1,k2⟩;exact⟨_,rfl,k2,rfl,HJ.set k1⟩) | exact⟨CT _ _,rfl,HJ.same (by decide) p⟩
 case hmono=>exact mR
 case hR0=>exact Kq.drew _
 case hend=>
  intro u A z V hend;simp only[sE]at hend;simp only[sF,hend];have ap:=aa (HJ.B5 V rfl);have K:=aa z;have al:=aa (K.box (by have:=l.out;omega) J);have C:Hid (Kq (fun k=>k=X\/k=Y) f A):=aa ((Kq.refl f).trans (K.mono fun _ _ q=>.inl q));have m:=S _ C;have O:=aa (oE X Y (w.heap.size+1) w.heap.size f.heap.size n s3 (cK 1 i o 0 0 0) A ap al (show 7 < 9 by decide) m.2 m.1 l.2.1 (by have:=l.out;omega) (by have:=l.out;omega) (by have:=l.out;omega) C.size Hn);clear z V hend m
  go_wp2_with fail
  refine O.mono ?_;rintro e w3 ⟨rfl,⟨v,M,U,Z⟩,ab,W⟩;have B:=aa U;have HM:=aa Z;have aq:=aa ab;have an:=aa W;clear U Z ab W O
  go_wp2_with fail
  go_end0
  have hle:w.heap.size<=f.heap.size:=by have:=l.out;omega
  refine⟨rfl,⟨_,_,v,[],B.box,aY.nil _,aY.nil _,fun x hx=>(by cases hx),rfl,M,B.B4 hle,B.Ct bQ hle,HM⟩,aq,?_⟩;have hA:Kq (fun k=>k=X\/k=Y\/f.heap.size<=k) w w3:=(Kq.AI am).trans ((C.mono fun _ _ q=>q.imp id .inl).trans an);exact hA.mono fun b t q=>by
   rcases q with q | q | q
   ·exact .inl q
   ·exact .inr q
   ·omega
 case hJ0=>exact HJ.start (N.kept (Q:=fun _=>False) (Kq.drew _) (fun _ _ q=>q))
theorem yi:eP 2:=by
 intro X Y i o s w h e l;have m:=e.lt;have j:=ae w (.cells #[.pointer (some ⟨X,0,none⟩)] 155);have c:=j.trans (ae _ (.cells #[.pointer (some ⟨Y,0,none⟩)] 129));have f:(w.alloc (.cells #[.pointer (some ⟨X,0,none⟩)] 155)).heap.size=w.heap.size+1:=C4 _ _;obtain⟨b,a⟩:=exq ((w.alloc (.cells #[.pointer (some ⟨X,0,none⟩)] 155)).alloc (.cells #[.pointer (some ⟨Y,0,none⟩)] 129));have t:b.heap.size=w.heap.size+1+1:=by rw[a,C4,f]
 have q:b.cell? ⟨w.heap.size,0,none⟩=some (.pointer (some ⟨X,0,none⟩)):=by
  rw[a];have h0:(w.alloc (.cells #[.pointer (some ⟨X,0,none⟩)] 155)).cell? ⟨w.heap.size,0,none⟩=some (.pointer (some ⟨X,0,none⟩)):=by rw[Df];rfl
  exact((ay (ae _ _)).1 _ _ (CW _ _ h0)).trans h0
 have r:b.cell? ⟨w.heap.size+1,0,none⟩=some (.pointer (some ⟨Y,0,none⟩)):=by rw[a,<-f,Df];rfl
 rw[<-a]at c;have u:=aa c;have g:=aa (e.ext c);have x:=aa (h.ext c);have z:Hid (b.heap.size=w.heap.size+1+1/\X < Y/\Y < w.heap.size):=aa ⟨t,l,m⟩;have y:Hid (∀d,Kq (fun k=>k=X\/k=Y) b d->d.cell? ⟨w.heap.size,0,none⟩=some (.pointer (some ⟨X,0,none⟩))/\d.cell? ⟨w.heap.size+1,0,none⟩=some (.pointer (some ⟨Y,0,none⟩))):=aa fun d n=>⟨n.cell (by omega) q,n.cell (by omega) r⟩
 have p:=g.cell (i:=0) (v:=.int .i64 2) rfl;rw[a]at p;clear h e j c f t q l m;go_enter Tryz.func95,Gr
 go_wp2_with fail
 rw[<-a];clear a p r
 go_end0
 exact⟨rfl,⟨_,_,_,[],g,cn.nil _ _ _ _ _ _ _ _⟩,x,Kq.AI u⟩
theorem yj:eP 3:=by
 intro X Y i o s w h C ac;have ad:=C.lt;have T:=ae w (.cells #[.pointer (some ⟨X,0,none⟩)] 155);have r:=T.trans (ae _ (.cells #[.pointer (some ⟨Y,0,none⟩)] 129));have F:(w.alloc (.cells #[.pointer (some ⟨X,0,none⟩)] 155)).heap.size=w.heap.size+1:=C4 _ _;obtain⟨f,j⟩:=exq ((w.alloc (.cells #[.pointer (some ⟨X,0,none⟩)] 155)).alloc (.cells #[.pointer (some ⟨Y,0,none⟩)] 129));have aj:f.heap.size=w.heap.size+1+1:=by rw[j,C4,F]
 have ah:f.cell? ⟨w.heap.size,0,none⟩=some (.pointer (some ⟨X,0,none⟩)):=by
  rw[j];have h0:(w.alloc (.cells #[.pointer (some ⟨X,0,none⟩)] 155)).cell? ⟨w.heap.size,0,none⟩=some (.pointer (some ⟨X,0,none⟩)):=by rw[Df];rfl
  exact((ay (ae _ _)).1 _ _ (CW _ _ h0)).trans h0
 have m:f.cell? ⟨w.heap.size+1,0,none⟩=some (.pointer (some ⟨Y,0,none⟩)):=by rw[j,<-F,Df];rfl
 rw[<-j]at r;have am:=aa r;have I:=aa (C.ext r);have N:=aa (h.ext r);have l:Hid (f.heap.size=w.heap.size+1+1/\X < Y/\Y < w.heap.size):=aa ⟨aj,ac,ad⟩;have S:Hid (∀g,Kq (fun k=>k=X\/k=Y) f g->g.cell? ⟨w.heap.size,0,none⟩=some (.pointer (some ⟨X,0,none⟩))/\g.cell? ⟨w.heap.size+1,0,none⟩=some (.pointer (some ⟨Y,0,none⟩))):=aa fun g hk=>⟨hk.cell (by omega) ah,hk.cell (by omega) m⟩
 have ag:=I.cell (i:=0) (v:=.int .i64 3) rfl;rw[j]at ag;clear h C T r F aj ah ac ad;have ai:nz 3 i o s=(⟨3,i,o,(du qe (aW 1 s).1.toNat (aW 1 s).2).1,[],0,0,[],0⟩,(du qe (aW 1 s).1.toNat (aW 1 s).2).2):=rfl;rw[ai];clear ai;have L:Hid (∀g,ch g X s->CZ CO 94 #[.pointer (some ⟨X,0,none⟩),.int .i64 1] g fun e w'=>e=.returned (.int .i64 (aW 1 s).1)/\ch w' X (aW 1 s).2/\Kq (fun k=>k=X) g w'):=aa fun g hr=>cj X 1 s g hr (by decide) (by decide)
 have D:=qh (s:=s) N.BJ;obtain⟨cI,y⟩:=exq ((aW 1 s).1);obtain⟨s3,G⟩:=exq ((aW 1 s).2);rw[<-y]at D;rw[<-y,<-G]at L;simp only[<-y,<-G];obtain⟨n,rfl⟩:=DK D.1;rw[Dy];have Hn:Hid (n<=65535):=aa (by omega);clear y G D;go_enter Tryz.func95,Gr
 go_wp2_with fail
 rw[<-j];clear j ag m;apply az (Kq (fun k=>k=X)) (HJ 2 (fun w'=>ch w' X s) (fun w'=>ch w' X s3)) 4 [30,31,32,33] [ar _,ar _,ar _,ar _] (fun w=>Kq.refl w) (fun a b c h k=>Kq.trans h k) (by kernel_rfl) (by kernel_rfl) (by kernel_rfl) (by kernel_rfl);case hsteps=>
  refine⟨?_,?_,?_,?_,trivial⟩;all_goals
   intro d ev A z p P R E t hd;replace P:=aa P;replace p:=aa p;replace R:=aa R;replace E:=aa E;have e2:=t 2 (by decide);have e3:=t 3 (by decide);clear t;simp only[sB]at e2 e3;simp only[sG]at hd;have H:=S _ ((Kq.refl f).trans (z.mono fun _ _ q=>.inl q));have c0:=H.1;have c1:=H.2;clear H;rw[if_pos (rfl:C8 _ _=true)];go_simp;first | exact⟨Kq.refl _,rfl,HJ.same (by decide) p⟩ | (go_at_call 94;(with_reducible refine(L.out A (HJ.get p.out E.out)).mono ?_);rintro e g ⟨rfl,k1,k2⟩;exact⟨_,rfl,k2,rfl,HJ.set k1⟩) | exact⟨CT _ _,rfl,HJ.same (by decide) p⟩
 case hmono=>exact mR
 case hR0=>exact Kq.drew _
 case hend=>
  intro u A z V hend;simp only[sE]at hend;simp only[sF,hend];have ap:=aa (HJ.B5 V rfl);have K:=aa z;have al:=aa (K.box (by have:=l.out;omega) I);have B:Hid (Kq (fun k=>k=X\/k=Y) f A):=aa ((Kq.refl f).trans (K.mono fun _ _ q=>.inl q));have m:=S _ B;have O:=aa (uW X Y (w.heap.size+1) w.heap.size f.heap.size n s3 (cK 3 i o 0 0 0) A ap al (show 3 < 9 by decide) m.2 m.1 l.2.1 (by have:=l.out;omega) (by have:=l.out;omega) (by have:=l.out;omega) B.size Hn);clear z V hend m
  go_wp2_with fail
  refine O.mono ?_;rintro e w3 ⟨rfl,⟨v,M,U,Z⟩,ab,W⟩;have J:=aa U;have HM:=aa Z;have aq:=aa ab;have an:=aa W;clear U Z ab W O
  go_wp2_with fail
  go_end0
  have hle:w.heap.size<=f.heap.size:=by have:=l.out;omega
  refine⟨rfl,⟨v,_,_,[],J.box,(by have h:=J.B4 hle;have hm:=HM.out;rw[List.map_id']at hm;subst hm;rw[xM]at h;exact h),aY.nil _,fun x hx=>(by cases hx),rfl,[],aY.nil _,fun x hx=>(by cases hx),rfl⟩,aq,?_⟩;have hA:Kq (fun k=>k=X\/k=Y\/f.heap.size<=k) w w3:=(Kq.AI am).trans ((B.mono fun _ _ q=>q.imp id .inl).trans an);exact hA.mono fun b t q=>by
   rcases q with q | q | q
   ·exact .inl q
   ·exact .inr q
   ·omega
 case hJ0=>exact HJ.start (N.kept (Q:=fun _=>False) (Kq.drew _) (fun _ _ q=>q))
theorem yk:eP 4:=by
 intro X Y i o s w h D ac;have ad:=D.lt;have T:=ae w (.cells #[.pointer (some ⟨X,0,none⟩)] 155);have r:=T.trans (ae _ (.cells #[.pointer (some ⟨Y,0,none⟩)] 129));have G:(w.alloc (.cells #[.pointer (some ⟨X,0,none⟩)] 155)).heap.size=w.heap.size+1:=C4 _ _;obtain⟨f,j⟩:=exq ((w.alloc (.cells #[.pointer (some ⟨X,0,none⟩)] 155)).alloc (.cells #[.pointer (some ⟨Y,0,none⟩)] 129));have aj:f.heap.size=w.heap.size+1+1:=by rw[j,C4,G]
 have ah:f.cell? ⟨w.heap.size,0,none⟩=some (.pointer (some ⟨X,0,none⟩)):=by
  rw[j];have h0:(w.alloc (.cells #[.pointer (some ⟨X,0,none⟩)] 155)).cell? ⟨w.heap.size,0,none⟩=some (.pointer (some ⟨X,0,none⟩)):=by rw[Df];rfl
  exact((ay (ae _ _)).1 _ _ (CW _ _ h0)).trans h0
 have m:f.cell? ⟨w.heap.size+1,0,none⟩=some (.pointer (some ⟨Y,0,none⟩)):=by rw[j,<-G,Df];rfl
 rw[<-j]at r;have am:=aa r;have J:=aa (D.ext r);have N:=aa (h.ext r);have l:Hid (f.heap.size=w.heap.size+1+1/\X < Y/\Y < w.heap.size):=aa ⟨aj,ac,ad⟩;have S:Hid (∀g,Kq (fun k=>k=X\/k=Y) f g->g.cell? ⟨w.heap.size,0,none⟩=some (.pointer (some ⟨X,0,none⟩))/\g.cell? ⟨w.heap.size+1,0,none⟩=some (.pointer (some ⟨Y,0,none⟩))):=aa fun g hk=>⟨hk.cell (by omega) ah,hk.cell (by omega) m⟩
 have ag:=J.cell (i:=0) (v:=.int .i64 4) rfl;rw[j]at ag;clear h D T r G aj ah ac ad;have ai:nz 4 i o s=(⟨4,i,o,[],(du qg (aW 1 s).1.toNat (aW 1 s).2).1,0,0,[],0⟩,(du qg (aW 1 s).1.toNat (aW 1 s).2).2):=rfl;rw[ai];clear ai;have L:Hid (∀g,ch g X s->CZ CO 94 #[.pointer (some ⟨X,0,none⟩),.int .i64 1] g fun e w'=>e=.returned (.int .i64 (aW 1 s).1)/\ch w' X (aW 1 s).2/\Kq (fun k=>k=X) g w'):=aa fun g hr=>cj X 1 s g hr (by decide) (by decide)
 have E:=qh (s:=s) N.BJ;obtain⟨cI,y⟩:=exq ((aW 1 s).1);obtain⟨s3,H⟩:=exq ((aW 1 s).2);rw[<-y]at E;rw[<-y,<-H]at L;simp only[<-y,<-H];obtain⟨n,rfl⟩:=DK E.1;rw[Dy];have Hn:Hid (n<=65535):=aa (by omega);clear y H E;go_enter Tryz.func95,Gr
 go_wp2_with fail
 rw[<-j];clear j ag m;apply az (Kq (fun k=>k=X)) (HJ 2 (fun w'=>ch w' X s) (fun w'=>ch w' X s3)) 4 [35,36,37,38] [ar _,ar _,ar _,ar _] (fun w=>Kq.refl w) (fun a b c h k=>Kq.trans h k) (by kernel_rfl) (by kernel_rfl) (by kernel_rfl) (by kernel_rfl);case hsteps=>
  refine⟨?_,?_,?_,?_,trivial⟩;all_goals
   intro d ev A z p P R F t hd;replace P:=aa P;replace p:=aa p;replace R:=aa R;replace F:=aa F;have e2:=t 2 (by decide);have e3:=t 3 (by decide);clear t;simp only[sB]at e2 e3;simp only[sG]at hd;have I:=S _ ((Kq.refl f).trans (z.mono fun _ _ q=>.inl q));have c0:=I.1;have c1:=I.2;clear I;rw[if_pos (rfl:C8 _ _=true)];go_simp;first | exact⟨Kq.refl _,rfl,HJ.same (by decide) p⟩ | (go_at_call 94;(with_reducible refine(L.out A (HJ.get p.out F.out)).mono ?_);rintro e g ⟨rfl,k1,k2⟩;exact⟨_,rfl,k2,rfl,HJ.set k1⟩) | exact⟨CT _ _,rfl,HJ.same (by decide) p⟩
 case hmono=>exact mR
 case hR0=>exact Kq.drew _
 case hend=>
  intro u A z V hend;simp only[sE]at hend;simp only[sF,hend];have ap:=aa (HJ.B5 V rfl);have K:=aa z;have al:=aa (K.box (by have:=l.out;omega) J);have C:Hid (Kq (fun k=>k=X\/k=Y) f A):=aa ((Kq.refl f).trans (K.mono fun _ _ q=>.inl q));have m:=S _ C;have O:=aa (uX X Y (w.heap.size+1) w.heap.size f.heap.size n s3 (cK 4 i o 0 0 0) A ap al (show 4 < 9 by decide) m.2 m.1 l.2.1 (by have:=l.out;omega) (by have:=l.out;omega) (by have:=l.out;omega) C.size Hn);clear z V hend m
  go_wp2_with fail
  refine O.mono ?_;rintro e w3 ⟨rfl,⟨v,M,U,Z⟩,ab,W⟩;have B:=aa U;have HM:=aa Z;have aq:=aa ab;have an:=aa W;clear U Z ab W O
  go_wp2_with fail
  go_end0
  have hle:w.heap.size<=f.heap.size:=by have:=l.out;omega
  refine⟨rfl,⟨_,v,_,M,B.box,aY.nil _,B.B4 hle,B.Ct bD hle,HM,[],aY.nil _,fun x hx=>(by cases hx),rfl⟩,aq,?_⟩;have hA:Kq (fun k=>k=X\/k=Y\/f.heap.size<=k) w w3:=(Kq.AI am).trans ((C.mono fun _ _ q=>q.imp id .inl).trans an);exact hA.mono fun b t q=>by
   rcases q with q | q | q
   ·exact .inl q
   ·exact .inr q
   ·omega
 case hJ0=>exact HJ.start (N.kept (Q:=fun _=>False) (Kq.drew _) (fun _ _ q=>q))
theorem yl:eP 5:=by
 intro X Y i o s w h G V;have W:=G.lt;have T:=ae w (.cells #[.pointer (some ⟨X,0,none⟩)] 155);have y:=T.trans (ae _ (.cells #[.pointer (some ⟨Y,0,none⟩)] 129));have L:(w.alloc (.cells #[.pointer (some ⟨X,0,none⟩)] 155)).heap.size=w.heap.size+1:=C4 _ _;obtain⟨x,n⟩:=exq ((w.alloc (.cells #[.pointer (some ⟨X,0,none⟩)] 155)).alloc (.cells #[.pointer (some ⟨Y,0,none⟩)] 129));have r:x.heap.size=w.heap.size+1+1:=by rw[n,C4,L]
 have ac:x.cell? ⟨w.heap.size,0,none⟩=some (.pointer (some ⟨X,0,none⟩)):=by
  rw[n];have h0:(w.alloc (.cells #[.pointer (some ⟨X,0,none⟩)] 155)).cell? ⟨w.heap.size,0,none⟩=some (.pointer (some ⟨X,0,none⟩)):=by rw[Df];rfl
  exact((ay (ae _ _)).1 _ _ (CW _ _ h0)).trans h0
 have ad:x.cell? ⟨w.heap.size+1,0,none⟩=some (.pointer (some ⟨Y,0,none⟩)):=by rw[n,<-L,Df];rfl
 rw[<-n]at y;have ag:=aa y;have P:=aa (G.ext y);have aj:=aa (h.ext y);have t:Hid (x.heap.size=w.heap.size+1+1/\X < Y/\Y < w.heap.size):=aa ⟨r,V,W⟩;have Hq:Hid (∀j,Kq (fun k=>k=X\/k=Y) x j->j.cell? ⟨w.heap.size,0,none⟩=some (.pointer (some ⟨X,0,none⟩))/\j.cell? ⟨w.heap.size+1,0,none⟩=some (.pointer (some ⟨Y,0,none⟩))):=aa fun j Z=>⟨Z.cell (by omega) ac,Z.cell (by omega) ad⟩
 have ab:=P.cell (i:=0) (v:=.int .i64 5) rfl;rw[n]at ab;clear h G T y L r ac V W;have S:Hid (∀j,ch j X s->CZ CO 94 #[.pointer (some ⟨X,0,none⟩),.int .i64 2] j fun e w'=>e=.returned (.int .i64 (aW 2 s).1)/\ch w' X (aW 2 s).2/\Kq (fun k=>k=X) j w'):=aa fun j K=>cj X 2 s j K (by decide) (by decide)
 have E:Hid (∀j,ch j X (aW 2 s).2->CZ CO 94 #[.pointer (some ⟨X,0,none⟩),.int .i64 2] j fun e w'=>e=.returned (.int .i64 (aW 2 (aW 2 s).2).1)/\ch w' X (aW 2 (aW 2 s).2).2/\Kq (fun k=>k=X) j w'):=aa fun j K=>cj X 2 _ j K (by decide) (by decide)
 have af:nz 5 i o s=(⟨5,i,o,[],[],(aW 2 s).1,(aW 2 (aW 2 s).2).1,[],0⟩,(aW 2 (aW 2 s).2).2):=rfl;rw[af];obtain⟨f,J⟩:=exq ((aW 2 s).1);obtain⟨s1,r⟩:=exq ((aW 2 s).2);rw[<-r]at E;rw[<-J,<-r]at S;simp only[<-J,<-r];obtain⟨c,I⟩:=exq ((aW 2 s1).1);obtain⟨s2,M⟩:=exq ((aW 2 s1).2);rw[<-I,<-M]at E;simp only[<-I,<-M];clear af J r I M;go_enter Tryz.func95,Gr
 go_wp2_with fail
 rw[<-n];clear n ab ad;apply az (Kq (fun k=>k=X\/k=Y)) (J5 X Y s s1 s2 (cK 5 i o 0 0 0) (cK 5 i o f 0 0)) 11 [40,41,42,43,44,45,46,47,48,49] [ar _,ar _,ar _,ar _,ar _,ar _,ar _,ar _,ar _,ar _,ar _] (fun w=>Kq.refl w) (fun a b c h k=>Kq.trans h k) (by kernel_rfl) (by kernel_rfl) (by kernel_rfl) (by kernel_rfl);case hsteps=>
  refine⟨?_,?_,?_,?_,?_,?_,?_,?_,?_,?_,?_,trivial⟩;all_goals
   intro d ev m C l B F z p hd;replace B:=aa B;replace l:=aa l;replace F:=aa F;replace z:=aa z;have e2:=p 2 (by decide);have e3:=p 3 (by decide);clear p;simp only[sB]at e2 e3;simp only[sG]at hd;have O:=Hq _ C;have c0:=O.1;have c1:=O.2;clear O;rw[if_pos (rfl:C8 _ _=true)];first
   | (have p:=l.g z;have q5:=p.cell (i:=5) (v:=.int .i64 0) rfl;have f5:=p.fz (i:=5) (show 5 < 9 by decide);have U:=p.put (i:=5) (show 5 < 9 by decide) (.int .i64 f);go_simp;first | exact⟨(Kq.refl m).setCell (Q:=fun k=>k=X\/k=Y) ⟨Y,5,none⟩ (.inr rfl) _,l.set t.2.1 U⟩ | exact⟨(Kq.refl m).setCell (Q:=fun k=>k=X\/k=Y) ⟨Y,5,none⟩ (.inr rfl) _,rfl,l.set t.2.1 U⟩)
   | (go_simp;first | exact⟨Kq.refl _,rfl,l.same (by decide)⟩ | (go_at_call 94;(with_reducible refine(S.out m (l.out.a z.out)).mono ?_);rintro e j ⟨rfl,N,A⟩;exact⟨_,rfl,A.mono fun _ _ q=>.inl q,rfl,l.one (F 5 (by kernel_rfl)) (by have:=t.out;omega) N A⟩) | (go_at_call 94;(with_reducible refine(E.out m (l.out.c (B.out 3 (by kernel_rfl)) z.out)).mono ?_);rintro e j ⟨rfl,N,A⟩;exact⟨_,rfl,A.mono fun _ _ q=>.inl q,rfl,l.two (B 3 (by kernel_rfl)) (by have:=t.out;omega) N A⟩) | exact⟨CT _ _,rfl,HJ.same (by decide) l⟩)
 case hmono=>exact mR
 case hR0=>exact Kq.drew _
 case hend=>
  intro u m C H hend;simp only[sE]at hend;simp only[sF,hend];have ak:=aa (H.e rfl);have ah:=aa C;have D:=aa (H.h rfl);have ax:=D.cell (i:=6) (v:=.int .i64 0) rfl;have av:=D.fz (i:=6) (show 6 < 9 by decide);have HP:=aa (D.put (i:=6) (show 6 < 9 by decide) (.int .i64 c));have R:Hid (Kq (fun k=>k=Y) m (m.setCell ⟨Y,6,none⟩ (.int .i64 c))):=aa ((Kq.refl m).setCell (Q:=fun k=>k=Y) ⟨Y,6,none⟩ rfl _);clear C H hend
  go_wp2_with fail
  go_end0
  exact⟨rfl,⟨_,_,_,[],HP,cn.nil _ _ _ _ _ _ _ _⟩,ak.kept R (fun i hi q=>by have:=t.out;omega),(Kq.AI ag).trans (ah.trans (R.mono fun _ _ q=>.inr q))⟩
 case hJ0=>exact J5.start (aj.kept (Q:=fun _=>False) (Kq.drew _) (fun _ _ q=>q)) (Kq.box (Q:=fun _=>False) (Kq.drew _) (fun q=>q) P)
theorem ym:eP 6:=by
 intro X Y i o s w h T aB;have aC:=T.lt;have ap:=ae w (.cells #[.pointer (some ⟨X,0,none⟩)] 155);have F:=ap.trans (ae _ (.cells #[.pointer (some ⟨Y,0,none⟩)] 129));have ac:(w.alloc (.cells #[.pointer (some ⟨X,0,none⟩)] 155)).heap.size=w.heap.size+1:=C4 _ _;obtain⟨m,y⟩:=exq ((w.alloc (.cells #[.pointer (some ⟨X,0,none⟩)] 155)).alloc (.cells #[.pointer (some ⟨Y,0,none⟩)] 129));have A:m.heap.size=w.heap.size+1+1:=by rw[y,C4,ac]
 have aF:m.cell? ⟨w.heap.size,0,none⟩=some (.pointer (some ⟨X,0,none⟩)):=by
  rw[y];have h0:(w.alloc (.cells #[.pointer (some ⟨X,0,none⟩)] 155)).cell? ⟨w.heap.size,0,none⟩=some (.pointer (some ⟨X,0,none⟩)):=by rw[Df];rfl
  exact((ay (ae _ _)).1 _ _ (CW _ _ h0)).trans h0
 have C:m.cell? ⟨w.heap.size+1,0,none⟩=some (.pointer (some ⟨Y,0,none⟩)):=by rw[y,<-ac,Df];rfl
 rw[<-y]at F;have aK:=aa F;have ah:=aa (T.ext F);have al:=aa (h.ext F);have r:Hid (m.heap.size=w.heap.size+1+1/\X < Y/\Y < w.heap.size):=aa ⟨A,aB,aC⟩;have P:Hid (∀g,Kq (fun k=>k=X\/k=Y) m g->g.cell? ⟨w.heap.size,0,none⟩=some (.pointer (some ⟨X,0,none⟩))/\g.cell? ⟨w.heap.size+1,0,none⟩=some (.pointer (some ⟨Y,0,none⟩))):=aa fun g hk=>⟨hk.cell (by omega) aF,hk.cell (by omega) C⟩
 have aE:=ah.cell (i:=0) (v:=.int .i64 6) rfl;rw[y]at aE;clear h T ap F ac A aF aB aC;have aG:nz 6 i o s=(⟨6,i,o,[],[],(aW 2 s).1,0,(du lH (aW 2 (aW 2 s).2).1.toNat (aW 2 (aW 2 s).2).2).1,0⟩,(du lH (aW 2 (aW 2 s).2).1.toNat (aW 2 (aW 2 s).2).2).2):=rfl;rw[aG];have O:Hid (∀g,ch g X s->CZ CO 94 #[.pointer (some ⟨X,0,none⟩),.int .i64 2] g fun e w'=>e=.returned (.int .i64 (aW 2 s).1)/\ch w' X (aW 2 s).2/\Kq (fun k=>k=X) g w'):=aa fun g hr=>cj X 2 s g hr (by decide) (by decide)
 obtain⟨f,W⟩:=exq ((aW 2 s).1);obtain⟨s1,A⟩:=exq ((aW 2 s).2);rw[<-W,<-A]at O;simp only[<-W,<-A];have aJ:Hid (bI s1.2):=aa (by rw[A];exact(gS (n:=2) al.BJ).2);clear aG W A;have ak:Hid (∀g,ch g X s1->CZ CO 94 #[.pointer (some ⟨X,0,none⟩),.int .i64 2] g fun e w'=>e=.returned (.int .i64 (aW 2 s1).1)/\ch w' X (aW 2 s1).2/\Kq (fun k=>k=X) g w'):=aa fun g hr=>cj X 2 s1 g hr (by decide) (by decide)
 have Z:=uK (s:=s1) aJ;obtain⟨cI,I⟩:=exq ((aW 2 s1).1);obtain⟨s3,ad⟩:=exq ((aW 2 s1).2);rw[<-I]at Z;rw[<-I,<-ad]at ak;simp only[<-I,<-ad];obtain⟨n,rfl⟩:=DK Z.1;rw[Dy];have Hn:Hid (n<=65535):=aa (by omega);clear I ad Z;go_enter Tryz.func95,Gr
 go_wp2_with fail
 rw[<-y];clear y aE C;apply az (Kq (fun k=>k=X)) (HJ 2 (fun w'=>ch w' X s) (fun w'=>ch w' X s1)) 5 [20,21,22,23,24] [ar _,ar _,ar _,ar _,ar _] (fun w=>Kq.refl w) (fun a b c h k=>Kq.trans h k) (by kernel_rfl) (by kernel_rfl) (by kernel_rfl) (by kernel_rfl);case hsteps=>
  refine⟨?_,?_,?_,?_,?_,trivial⟩;all_goals
   intro d ev j p l D E z t V;replace D:=aa D;replace l:=aa l;replace E:=aa E;replace z:=aa z;have R:=t 2 (by decide);have S:=t 3 (by decide);clear t;simp only[sB]at R S;simp only[sG]at V;have B:=P _ ((Kq.refl m).trans (p.mono fun _ _ q=>.inl q));have c0:=B.1;have c1:=B.2;clear B;rw[if_pos (rfl:C8 _ _=true)];go_simp;first | exact⟨Kq.refl _,rfl,HJ.same (by decide) l⟩ | (go_at_call 94;(with_reducible refine(O.out j (HJ.get l.out z.out)).mono ?_);rintro e g ⟨rfl,k1,k2⟩;exact⟨_,rfl,k2,rfl,HJ.set k1⟩) | exact⟨CT _ _,rfl,HJ.same (by decide) l⟩
 case hmono=>exact mR
 case hR0=>exact Kq.drew _
 case hend=>
  intro u j p G hend;simp only[sE]at hend;simp only[sF,hend];have an:=aa (HJ.B5 G rfl);have L:=aa p;have H:=aa (L.box (by have:=r.out;omega) ah);have aV:=H.cell (i:=5) (v:=.int .i64 0) rfl;have aU:=H.fz (i:=5) (show 5 < 9 by decide);have ai:Hid (aw (j.setCell ⟨Y,5,none⟩ (.int .i64 f)) Y (cK 6 i o f 0 0)):=aa (H.put (i:=5) (show 5 < 9 by decide) (.int .i64 f));have U:Kq (fun k=>k=Y) j (j.setCell ⟨Y,5,none⟩ (.int .i64 f)):=(Kq.refl j).setCell (Q:=fun k=>k=Y) ⟨Y,5,none⟩ rfl _;have ao:=aa (an.kept U (fun i hi q=>by have:=r.out;omega));have N:Hid (Kq (fun k=>k=X\/k=Y) m (j.setCell ⟨Y,5,none⟩ (.int .i64 f))):=aa ((L.mono fun _ _ q=>.inl q).trans (U.mono fun _ _ q=>.inr q));clear p G hend U
  go_wp2_with fail
  obtain⟨W5,aA⟩:=exq (j.setCell ⟨Y,5,none⟩ (.int .i64 f));rw[<-aA]at ai ao N⊢;clear aA aV aU an L H O;apply az (Kq (fun k=>k=X)) (HJ 2 (fun w'=>ch w' X s1) (fun w'=>ch w' X s3)) 4 [25,26,27,28] [ar _,ar _,ar _,ar _] (fun w=>Kq.refl w) (fun a b c h k=>Kq.trans h k) (by kernel_rfl) (by kernel_rfl) (by kernel_rfl) (by kernel_rfl);case hsteps=>
   refine⟨?_,?_,?_,?_,trivial⟩;all_goals
    intro d ev j p l D E z t V;replace D:=aa D;replace l:=aa l;replace E:=aa E;replace z:=aa z;have R:=t 2 (by decide);have S:=t 3 (by decide);clear t;simp only[sB]at R S;simp only[sG]at V;have B:=P _ (N.trans (p.mono fun _ _ q=>.inl q));have c0:=B.1;have c1:=B.2;clear B;rw[if_pos (rfl:C8 _ _=true)];go_simp;first | exact⟨Kq.refl _,rfl,HJ.same (by decide) l⟩ | (go_at_call 94;(with_reducible refine(ak.out j (HJ.get l.out z.out)).mono ?_);rintro e g ⟨rfl,k1,k2⟩;exact⟨_,rfl,k2,rfl,HJ.set k1⟩) | exact⟨CT _ _,rfl,HJ.same (by decide) l⟩
  case hmono=>exact mR
  case hR0=>exact Kq.drew _
  case hend=>
   intro u j p G hend;simp only[sE]at hend;simp only[sF,hend];have aN:=aa (HJ.B5 G rfl);have aj:=aa p;have aI:=aa (aj.box (by have:=r.out;omega) ai);have K:Hid (Kq (fun k=>k=X\/k=Y) m j):=aa (N.trans (aj.mono fun _ _ q=>.inl q));have C:=P _ K;have am:=aa (oE X Y (w.heap.size+1) w.heap.size m.heap.size n s3 (cK 6 i o f 0 0) j aN aI (show 7 < 9 by decide) C.2 C.1 r.2.1 (by have:=r.out;omega) (by have:=r.out;omega) (by have:=r.out;omega) K.size Hn);clear p G hend C
   go_wp2_with fail
   refine am.mono ?_;rintro e w3 ⟨rfl,⟨v,M,hG,hM⟩,ax,au⟩;have J:=aa hG;have HM:=aa hM;have aO:=aa ax;have aL:=aa au;clear hG hM ax au am
   go_wp2_with fail
   go_end0
   have hle:w.heap.size<=m.heap.size:=by have:=r.out;omega
   refine⟨rfl,⟨_,_,v,[],J.box,aY.nil _,aY.nil _,fun x hx=>(by cases hx),rfl,M,J.B4 hle,J.Ct bQ hle,HM⟩,aO,?_⟩;have hA:Kq (fun k=>k=X\/k=Y\/m.heap.size<=k) w w3:=(Kq.AI aK).trans ((K.mono fun _ _ q=>q.imp id .inl).trans aL);exact hA.mono fun b t q=>by
    rcases q with q | q | q
    ·exact .inl q
    ·exact .inr q
    ·omega
  case hJ0=>exact HJ.start (ao.kept (Q:=fun _=>False) (Kq.drew _) (fun _ _ q=>q))
 case hJ0=>exact HJ.start (al.kept (Q:=fun _=>False) (Kq.drew _) (fun _ _ q=>q))
theorem yn:eP 7:=by
 intro X Y i o s w h x N;have O:=x.lt;have L:=ae w (.cells #[.pointer (some ⟨X,0,none⟩)] 155);have n:=L.trans (ae _ (.cells #[.pointer (some ⟨Y,0,none⟩)] 129));have B:(w.alloc (.cells #[.pointer (some ⟨X,0,none⟩)] 155)).heap.size=w.heap.size+1:=C4 _ _;obtain⟨j,g⟩:=exq ((w.alloc (.cells #[.pointer (some ⟨X,0,none⟩)] 155)).alloc (.cells #[.pointer (some ⟨Y,0,none⟩)] 129));have l:j.heap.size=w.heap.size+1+1:=by rw[g,C4,B]
 have S:j.cell? ⟨w.heap.size,0,none⟩=some (.pointer (some ⟨X,0,none⟩)):=by
  rw[g];have h0:(w.alloc (.cells #[.pointer (some ⟨X,0,none⟩)] 155)).cell? ⟨w.heap.size,0,none⟩=some (.pointer (some ⟨X,0,none⟩)):=by rw[Df];rfl
  exact((ay (ae _ _)).1 _ _ (CW _ _ h0)).trans h0
 have T:j.cell? ⟨w.heap.size+1,0,none⟩=some (.pointer (some ⟨Y,0,none⟩)):=by rw[g,<-B,Df];rfl
 rw[<-g]at n;have V:=aa n;have D:=aa (x.ext n);have Z:=aa (h.ext n);have J:Hid (j.heap.size=w.heap.size+1+1/\X < Y/\Y < w.heap.size):=aa ⟨l,N,O⟩;have Hq:Hid (∀f,Kq (fun k=>k=X\/k=Y) j f->f.cell? ⟨w.heap.size,0,none⟩=some (.pointer (some ⟨X,0,none⟩))/\f.cell? ⟨w.heap.size+1,0,none⟩=some (.pointer (some ⟨Y,0,none⟩))):=aa fun f P=>⟨P.cell (by omega) S,P.cell (by omega) T⟩
 have R:=D.cell (i:=0) (v:=.int .i64 7) rfl;rw[g]at R;clear h x L n B l S N O;have G:Hid (∀f,ch f X s->CZ CO 94 #[.pointer (some ⟨X,0,none⟩),.int .i64 1] f fun e w'=>e=.returned (.int .i64 (aW 1 s).1)/\ch w' X (aW 1 s).2/\Kq (fun k=>k=X) f w'):=aa fun f hr=>cj X 1 s f hr (by decide) (by decide)
 have U:nz 7 i o s=(⟨7,i,o,[],[],0,0,[],(aW 1 s).1⟩,(aW 1 s).2):=rfl;rw[U];obtain⟨K,z⟩:=exq ((aW 1 s).1);obtain⟨s1,l⟩:=exq ((aW 1 s).2);rw[<-z,<-l]at G;simp only[<-z,<-l];clear U z l;go_enter Tryz.func95,Gr
 go_wp2_with fail
 rw[<-g];clear g R T;apply az (Kq (fun k=>k=X)) (HJ 2 (fun w'=>ch w' X s) (fun w'=>ch w' X s1)) 5 [50,51,52,53,54] [ar _,ar _,ar _,ar _,ar _] (fun w=>Kq.refl w) (fun a b c h k=>Kq.trans h k) (by kernel_rfl) (by kernel_rfl) (by kernel_rfl) (by kernel_rfl);case hsteps=>
  refine⟨?_,?_,?_,?_,?_,trivial⟩;all_goals
   intro d ev p r m H I A y hd;replace H:=aa H;replace m:=aa m;replace I:=aa I;replace A:=aa A;have e2:=y 2 (by decide);have e3:=y 3 (by decide);clear y;simp only[sB]at e2 e3;simp only[sG]at hd;have C:=Hq _ ((Kq.refl j).trans (r.mono fun _ _ q=>.inl q));have c0:=C.1;have c1:=C.2;clear C;rw[if_pos (rfl:C8 _ _=true)];go_simp;first | exact⟨Kq.refl _,rfl,HJ.same (by decide) m⟩ | (go_at_call 94;(with_reducible refine(G.out p (HJ.get m.out A.out)).mono ?_);rintro e f ⟨rfl,k1,k2⟩;exact⟨_,rfl,k2,rfl,HJ.set k1⟩) | exact⟨CT _ _,rfl,HJ.same (by decide) m⟩
 case hmono=>exact mR
 case hR0=>exact Kq.drew _
 case hend=>
  intro u p r M hend;simp only[sE]at hend;simp only[sF,hend];have ab:=aa (HJ.B5 M rfl);have E:=aa r;have t:=aa (E.box (by have:=J.out;omega) D);have ap:=t.cell (i:=8) (v:=.int .i64 0) rfl;have an:=t.fz (i:=8) (show 8 < 9 by decide);have W:=aa (t.put (i:=8) (show 8 < 9 by decide) (.int .i64 K));have F:Hid (Kq (fun k=>k=Y) p (p.setCell ⟨Y,8,none⟩ (.int .i64 K))):=aa ((Kq.refl p).setCell (Q:=fun k=>k=Y) ⟨Y,8,none⟩ rfl _);clear r M hend
  go_wp2_with fail
  go_end0
  exact⟨rfl,⟨_,_,_,[],W,cn.nil _ _ _ _ _ _ _ _⟩,ab.kept F (fun i hi q=>by have:=J.out;omega),(Kq.AI V).trans ((E.mono fun _ _ q=>.inl q).trans (F.mono fun _ _ q=>.inr q))⟩
 case hJ0=>exact HJ.start (Z.kept (Q:=fun _=>False) (Kq.drew _) (fun _ _ q=>q))
theorem tg (k:Int) (b:1<=k/\k<=7):eP k:=by
 have a:k=1\/k=2\/k=3\/k=4\/k=5\/k=6\/k=7:=by omega
 rcases a with rfl | rfl | rfl | rfl | rfl | rfl | rfl
 ·exact yh
 ·exact yi
 ·exact yj
 ·exact yk
 ·exact yl
 ·exact ym
 ·exact yn
def xd (s:bS):Nat × BC:=if (aW 1 s).2.1=true then(2,dW)else if wi (aW 1 s).1 1 7=false then(7,dW)else ou (nz (aW 1 s).1 (aW 8 (aW 1 s).2).1 (aW 8 (aW 8 (aW 1 s).2).2).1 (aW 8 (aW 8 (aW 1 s).2).2).2)
theorem vE {b:List Int} (h:¬8000 < b.length):dE b=xd (false,b):=by
 unfold dE xd;rw[if_neg h];cases b with
 | nil=>rw[if_pos uJ]
 | cons k r=>rw[sg];simp only[E3,if_false];rw[wO]
def AW (a:Nat->CQ) (pr:Nat × BC) (w:CP) (e:Ending) (w':CP):Prop:=∃v' vp vs vb L,e=.returned (.tuple #[v',a pr.1])/\v'=.agg (cL pr.2 vp vs vb).toArray/\cn (fun k=>w.heap.size<=k) w' pr.2 vp vs vb L/\au w w'
theorem tj (v:CQ) (b:List Int) (w:CP) (S:List Nat) (a:Nat->Addr) (hR:Bu w .u8 v b) (s:bI b) (hl:b.length<=9000) (he:ix S a w) (s1:1∈S) (s2:2∈S) (s3:3∈S) (s4:4∈S) (s7:7∈S) (s8:8∈S):
  CZ CO 55 #[v] w fun e w'=>AW (nY a) (dE b) w e w':=by
 obtain⟨p,c,cO,cf,ci⟩:=hR.form;subst cO;have He:=aa he;have HG:Hid (∀i,i∈S->¬(gE i=w.heap.size)):=aa fun i hi q=>by have h:=CW _ _ (he.cell i hi);have:gE i < w.heap.size:=h;omega
 obtain⟨t,aV⟩:=exq (dE b);have a6:Hid (8000 < b.length->t=(3,dW)):=aa fun h=>by rw[aV];unfold dE;rw[if_pos h]
 have a7:Hid (¬8000 < b.length->t=xd (false,b)):=aa fun h=>by rw[aV];exact vE h
 rw[<-aV];clear aV;have aG:=aa (aw.box (cs:=zL.toList) w 26 (fun q=>by cases q));have a3:=aa (ae w (.cells zL 26))
 have ab:Hid (∀G,aw G w.heap.size zL.toList->(Instr.storeAt 26 (.pointer (some ⟨w.heap.size,0,none⟩)) (.agg zL)).run CO G=.ok () (G.setCells w.heap.size 0 zL.toList)):=aa fun G h=>h.store (P:=CO) (cs':=zL.toList) rfl (fun c hc=>by
  simp only[DA,Eg,or_false]at hc
  rcases hc with rfl | rfl | rfl | rfl | rfl | rfl | rfl | rfl | rfl<;>rfl) (ty:=26) (by kernel_rfl)
 obtain⟨n,hn⟩:=exq b.length;have Hn:=aa hn;have HR:=aa hR;have Hb:=aa s;rw[<-hn]at a6 a7 cf hl⊢;unfold maxLen at ci;clear he hR s hn;by_cases h8:8000 < n
 ·have cI:(8000:Int) < (n:Int):=by omega
  have HZ:Hid (Kq (fun k=>w.heap.size<=k) w (w.alloc (.cells zL 26))):=aa (Kq.AI a3);have E:=aa (a6 h8);go_enter Tryz.func55,Tryz.ntmps55
  go_wp2_with fail
  obtain⟨W0,cb⟩:=exq (w.alloc (.cells zL 26));rw[<-cb]at aG HZ⊢;clear cb;have B:W0.cell? ⟨6,0,none⟩=some (.iface 233 (.pointer (some (a 3)))):=(He.ext (HZ.ext (fun k q=>q))).cell 3 s3;have J:=aa B;clear B;apply az (Kq (fun k=>k=w.heap.size)) (fun _ _ w'=>aw w' w.heap.size zL.toList) 3 [10,11] [ar _,ar _,ar _] (fun w=>Kq.refl w) (fun a b c h k=>Kq.trans h k) (by kernel_rfl) (by kernel_rfl) (by kernel_rfl) (by kernel_rfl);case hsteps=>
   refine⟨?_,?_,?_,trivial⟩;all_goals
    intro d ev m r g y z D s f;replace y:=aa y;replace g:=aa g;replace z:=aa z;replace D:=aa D;have A:=s 2 (by decide);clear s;simp only[sB]at A;simp only[sG]at f;have cF:m.cell? ⟨6,0,none⟩=some (.iface 233 (.pointer (some (a 3)))):=r.cell (HG 3 s3) J;rw[if_pos (rfl:C8 _ _=true)];first
    | ((with_reducible refine dH ?_ ?_ (ab.out m g.out) ?_ ?_);exact A;exact(by first | ((repeat(first | exact f | exact f.2 | replace f:=f.1));done) | ((repeat(first | exact f | exact f.1 | replace f:=f.2));first | done | fail));exact(Kq.refl m).setCells (Q:=fun k=>k=w.heap.size) rfl 0 _;exact⟨rfl,g.set rfl⟩)
    | (go_simp;first | exact⟨Kq.refl _,rfl,g⟩ | exact⟨CT _ _,rfl,HJ.same (by decide) g⟩)
  case hmono=>exact mR
  case hR0=>exact Kq.drew _
  case hend=>
   intro u m r C hend;simp only[sE]at hend;simp only[sF,hend];have H:=aa C;have I:Hid (au w m):=aa ((HZ.trans (r.mono fun k _ q=>FN q.symm)).ext fun k q=>q);have O:t=(3,dW):=E.out;subst O;clear r C hend
   go_wp2_with fail
   exact De (v:=.tuple #[.agg zL,.iface 233 (.pointer (some (a 3)))]) (aI rfl rfl (H.loadVar (P:=CO) C5 rfl (by kernel_rfl)) rfl) rfl ⟨_,_,_,_,_,rfl,rfl,cn.nil _ _ _ _ _ _ _ _,I⟩
  case hJ0=>exact aw.same aG rfl
 have cI:¬((8000:Int) < (n:Int)):=by omega
 have x:=aa (a7 h8);clear a6 a7 h8;have cm:(w.alloc (.cells zL 26)).heap.size=w.heap.size+1:=C4 _ _;obtain⟨W1,ay⟩:=exq ((w.alloc (.cells zL 26)).alloc (.cells #[.slice p n c,.bool false] 157));have bH:Hid (aw W1 w.heap.size zL.toList):=aa (by rw[ay];exact aG.ext (ae _ _));have a4:Hid (au w W1):=aa (by rw[ay];exact a3.trans (ae _ _));obtain⟨X,hX⟩:=exq (w.heap.size+1)
 have bS:Hid (aw W1 X [.slice p n c,.bool false]):=aa (by
  have h:=aw.box (cs:=[.slice p n c,.bool false]) (w.alloc (.cells zL 26)) 157 (fun q=>by cases q);rw[cm,<-hX]at h
  rw[ay];exact h)
 have bP:Hid (ch W1 X (false,b)):=aa ⟨⟨p,c,by rw[<-Hn.out];exact bS,by
  refine(aY.By (F:=fun k=>k < w.heap.size) HR (fun _ _ h=>h)).kept fun k T aU=>⟨by omega,a4.block k T⟩,by rw[<-Hn.out];exact cf,by unfold maxLen;exact ci⟩,Hb,by rw[<-Hn.out];exact hl⟩
 have a5:=aa (cj X 1 (false,b) W1 bP (by decide) (by decide));have bT:Hid (Kq (fun k=>w.heap.size<=k) w W1):=aa (Kq.AI a4);unfold xd at x;obtain⟨k,T⟩:=exq ((aW 1 (false,b)).1);obtain⟨t1,bv⟩:=exq ((aW 1 (false,b)).2);rw[<-T,<-bv]at a5;simp only[<-T,<-bv]at x;have ce:w.heap.size < X:=by omega
 clear cm bS bP T bv aG a3;go_enter Tryz.func55,Tryz.ntmps55
 go_wp2_with fail
 rw[<-ay,<-hX];clear ay hX;refine a5.mono ?_;rintro e G ⟨rfl,b8,bh⟩;have a8:=aa b8;have bU:Hid (Kq (fun k=>w.heap.size<=k) w G):=aa (bT.trans (bh.mono fun k _ q=>by omega));have bJ:=aa (bh.box (by omega) bH);clear b8 bh a5 bH bT a4;have cl:∀c∈cK k 0 0 0 0 0,c.oneCell'=true:=fun c hc=>by simp only[cK,DA,Eg,or_false]at hc;rcases hc with rfl | rfl | rfl | rfl | rfl | rfl | rfl | rfl | rfl<;>rfl
 obtain⟨b2,b3⟩:=aw.fresh (cs:=cK k 0 0 0 0 0) G 26 zL rfl (fun q=>by cases q);have b1:=aa (aH (P:=CO) (cs:=cK k 0 0 0 0 0) G 26 zL rfl cl (ty:=26) (by kernel_rfl));have ai:=aa b2;have aj:=aa b3;clear b2 b3 cl
 go_wp2_with (with_reducible refine aC (ty:=26) ?_)
 refine ax ?_;refine ak rfl rfl b1 ?_;obtain⟨W3,cc⟩:=exq ((G.alloc (.cells zL 26)).setCells G.heap.size 0 (cK k 0 0 0 0 0));obtain⟨Y,hY⟩:=exq G.heap.size;rw[<-cc]at ai aj⊢;rw[<-hY]at ai⊢;have N:Hid (X < Y/\w.heap.size < X):=aa ⟨by rw[hY];exact a8.lt,ce⟩;have a9:=aa (a8.ext aj);have aJ:=aa (bJ.ext aj);have ad:Hid (Kq (fun k=>w.heap.size<=k) w W3):=aa (bU.trans (Kq.AI aj));clear cc hY b1 a8 bJ bU aj ce;obtain⟨p3,c3,co,_⟩:=a9.ex;have bC:=co.cell (i:=1) rfl;have cp:=ai.cell (i:=0) (v:=.int .i64 k) rfl;clear co;obtain⟨sh,bu⟩:=exq t1.1;rw[<-bu]at bC;rw[<-bu]at x;clear bu;cases sh with
 | true=>
  have E:Hid (t=(2,dW)):=x;clear x cp
  go_wp2_with fail
  clear bC;have B:W3.cell? ⟨7,0,none⟩=some (.iface 233 (.pointer (some (a 2)))):=(He.ext (ad.ext (fun k q=>q))).cell 2 s2;have J:=aa B;clear B;apply az (Kq (fun k=>k=w.heap.size)) (fun _ _ w'=>aw w' w.heap.size zL.toList) 3 [23,24] [ar _,ar _,ar _] (fun w=>Kq.refl w) (fun a b c h k=>Kq.trans h k) (by kernel_rfl) (by kernel_rfl) (by kernel_rfl) (by kernel_rfl);case hsteps=>
   refine⟨?_,?_,?_,trivial⟩;all_goals
    intro d ev m r g y z D s f;replace y:=aa y;replace g:=aa g;replace z:=aa z;replace D:=aa D;have A:=s 2 (by decide);clear s;simp only[sB]at A;simp only[sG]at f;have cF:m.cell? ⟨7,0,none⟩=some (.iface 233 (.pointer (some (a 2)))):=r.cell (HG 2 s2) J;rw[if_pos (rfl:C8 _ _=true)];first
    | ((with_reducible refine dH ?_ ?_ (ab.out m g.out) ?_ ?_);exact A;exact(by first | ((repeat(first | exact f | exact f.2 | replace f:=f.1));done) | ((repeat(first | exact f | exact f.1 | replace f:=f.2));first | done | fail));exact(Kq.refl m).setCells (Q:=fun k=>k=w.heap.size) rfl 0 _;exact⟨rfl,g.set rfl⟩)
    | (go_simp;first | exact⟨Kq.refl _,rfl,g⟩ | exact⟨CT _ _,rfl,HJ.same (by decide) g⟩)
  case hmono=>exact mR
  case hR0=>exact Kq.drew _
  case hend=>
   intro u m r C hend;simp only[sE]at hend;simp only[sF,hend];have H:=aa C;have I:Hid (au w m):=aa ((ad.trans (r.mono fun k _ q=>FN q.symm)).ext fun k q=>q);have O:t=(2,dW):=E.out;subst O;clear r C hend
   go_wp2_with fail
   exact De (v:=.tuple #[.agg zL,.iface 233 (.pointer (some (a 2)))]) (aI rfl rfl (H.loadVar (P:=CO) C5 rfl (by kernel_rfl)) rfl) rfl ⟨_,_,_,_,_,rfl,rfl,cn.nil _ _ _ _ _ _ _ _,I⟩
  case hJ0=>exact aw.same aJ rfl
 | false=>
 simp only[E3,if_false]at x
 go_wp2_with fail
 refine(aT _ _ _ _).mono ?_;rintro e c6 ⟨rfl,cP⟩;subst cP;obtain⟨qk,aX⟩:=exq (wi k 1 7);rw[<-aX];rw[<-aX]at x;have b0:=aa aX;clear aX bC cp;cases qk with
 | false=>
  have E:Hid (t=(7,dW)):=x;clear x
  go_wp2_with fail
  have B:W3.cell? ⟨2,0,none⟩=some (.iface 233 (.pointer (some (a 7)))):=(He.ext (ad.ext (fun k q=>q))).cell 7 s7;have J:=aa B;clear B;apply az (Kq (fun k=>k=w.heap.size)) (fun _ _ w'=>aw w' w.heap.size zL.toList) 3 [30,31] [ar _,ar _,ar _] (fun w=>Kq.refl w) (fun a b c h k=>Kq.trans h k) (by kernel_rfl) (by kernel_rfl) (by kernel_rfl) (by kernel_rfl);case hsteps=>
   refine⟨?_,?_,?_,trivial⟩;all_goals
    intro d ev m r g y z D s f;replace y:=aa y;replace g:=aa g;replace z:=aa z;replace D:=aa D;have A:=s 2 (by decide);clear s;simp only[sB]at A;simp only[sG]at f;have cF:m.cell? ⟨2,0,none⟩=some (.iface 233 (.pointer (some (a 7)))):=r.cell (HG 7 s7) J;rw[if_pos (rfl:C8 _ _=true)];first
    | ((with_reducible refine dH ?_ ?_ (ab.out m g.out) ?_ ?_);exact A;exact(by first | ((repeat(first | exact f | exact f.2 | replace f:=f.1));done) | ((repeat(first | exact f | exact f.1 | replace f:=f.2));first | done | fail));exact(Kq.refl m).setCells (Q:=fun k=>k=w.heap.size) rfl 0 _;exact⟨rfl,g.set rfl⟩)
    | (go_simp;first | exact⟨Kq.refl _,rfl,g⟩ | exact⟨CT _ _,rfl,HJ.same (by decide) g⟩)
  case hmono=>exact mR
  case hR0=>exact Kq.drew _
  case hend=>
   intro u m r C hend;simp only[sE]at hend;simp only[sF,hend];have H:=aa C;have I:Hid (au w m):=aa ((ad.trans (r.mono fun k _ q=>FN q.symm)).ext fun k q=>q);have O:t=(7,dW):=E.out;subst O;clear r C hend
   go_wp2_with fail
   exact De (v:=.tuple #[.agg zL,.iface 233 (.pointer (some (a 7)))]) (aI rfl rfl (H.loadVar (P:=CO) C5 rfl (by kernel_rfl)) rfl) rfl ⟨_,_,_,_,_,rfl,rfl,cn.nil _ _ _ _ _ _ _ _,I⟩
  case hJ0=>exact aw.same aJ rfl
 | true=>
 have x:Hid (t=ou (nz k (aW 8 t1).1 (aW 8 (aW 8 t1).2).1 (aW 8 (aW 8 t1).2).2)):=x;have cx:=aa (bj.1 b0.symm);clear b0
 go_wp2_with fail
 refine(cj X 8 t1 W3 a9 (by decide) (by decide)).mono ?_;rintro e w4 ⟨rfl,b9,b4⟩;have ba:=aa b9;have bM:=aa b4;clear b9 b4;obtain⟨i,hi⟩:=exq ((aW 8 t1).1);obtain⟨t2,bw⟩:=exq ((aW 8 t1).2);rw[<-bw]at ba;simp only[<-hi,<-bw]at x;rw[<-hi];clear hi bw
 go_wp2_with fail
 refine(cj X 8 t2 w4 ba (by decide) (by decide)).mono ?_;rintro e U ⟨rfl,ca,b5⟩;have bb:=aa ca;have aM:Hid (Kq (fun k=>k=X) W3 U):=aa (bM.trans b5);clear ca b5 ba bM;obtain⟨o,ho⟩:=exq ((aW 8 t2).1);obtain⟨t3,bx⟩:=exq ((aW 8 t2).2);rw[<-bx]at bb;simp only[<-ho,<-bx]at x;rw[<-ho];clear ho bx;have aF:=aa (aM.box (by have:=N.out;omega) ai);have bV:Hid (Kq (fun k=>w.heap.size<=k) w U):=aa (ad.trans (aM.mono fun k _ q=>by have:=N.out;omega));have bK:=aa (aM.box (by have:=N.out;omega) aJ);have aO:Hid (aw (U.setCell ⟨Y,1,none⟩ (.int .i64 i)) Y (cK k i 0 0 0 0)):=aa (aF.put (i:=1) (show 1 < 9 by decide) (.int .i64 i));have cQ:=aF.cell (i:=1) (v:=.int .i64 0) rfl;have f51:=aF.fz (i:=1) (show 1 < 9 by decide);have cR:=aO.cell (i:=2) (v:=.int .i64 0) rfl;have f52:=aO.fz (i:=2) (show 2 < 9 by decide);have a0:Hid (aw ((U.setCell ⟨Y,1,none⟩ (.int .i64 i)).setCell ⟨Y,2,none⟩ (.int .i64 o)) Y (cK k i o 0 0 0)):=aa (aO.put (i:=2) (show 2 < 9 by decide) (.int .i64 o));have am:Hid (Kq (fun k=>k=Y) U ((U.setCell ⟨Y,1,none⟩ (.int .i64 i)).setCell ⟨Y,2,none⟩ (.int .i64 o))):=aa (((Kq.refl U).setCell (Q:=fun k=>k=Y) ⟨Y,1,none⟩ rfl _).setCell ⟨Y,2,none⟩ rfl _);clear a9 aJ ad ai aM
 go_wp2_with fail
 obtain⟨W6,cd⟩:=exq ((U.setCell ⟨Y,1,none⟩ (.int .i64 i)).setCell ⟨Y,2,none⟩ (.int .i64 o));rw[<-cd]at a0 am⊢;clear cd cQ f51 cR f52 aO;have bQ:=aa (bb.kept am (fun j hj q=>by have:=N.out;omega));have bW:Hid (Kq (fun k=>w.heap.size<=k) w W6):=aa (bV.trans (am.mono fun k _ q=>by have:=N.out;omega));have a1:=aa (am.box (by have:=N.out;omega) bK);clear bb bV bK aF am;refine(tg k cx X Y i o t3 W6 bQ a0 N.1).mono ?_;rintro e w7 ⟨rfl,bk,bn,bi⟩;obtain⟨l,bq⟩:=exq ((nz k i o t3).1);obtain⟨t4,bz⟩:=exq ((nz k i o t3).2);have Z:Hid (t=ou (l,t4)):=aa (by rw[x.out,bq,bz]);rw[<-bq]at bk;rw[<-bz]at bn;have cv:=aa bn;have bN:=aa bk;have V:Hid (Kq (fun k=>w.heap.size<=k) w w7):=aa (bW.trans (bi.mono fun k _ q=>by have:=N.out;rcases q with q | q<;>omega));have aK:=aa (bi.box (by have:=N.out;omega) a1);have bR:Hid (w.heap.size < W6.heap.size):=aa a1.lt;clear bk bn bi bq bz x bQ a0 bW a1;obtain⟨p7,c7,bA,_,cg,cN⟩:=cv.ex;have aZ:=bA.cell (i:=1) rfl;have aD:=bA.cell (i:=0) rfl;obtain⟨sh,rest⟩:=t4;simp only at aZ aD cg;unfold maxLen at cN;obtain⟨nr,bs⟩:=exq rest.length;rw[<-bs]at aD cg;have bZ:=aa bs;clear bA bs;cases sh with
 | true=>
  have E:Hid (t=(2,dW)):=aa (by rw[Z.out];rfl);clear Z aD
  go_wp2_with fail
  clear aZ;have B:w7.cell? ⟨7,0,none⟩=some (.iface 233 (.pointer (some (a 2)))):=(He.ext (V.ext (fun k q=>q))).cell 2 s2;have J:=aa B;clear B;apply az (Kq (fun k=>k=w.heap.size)) (fun _ _ w'=>aw w' w.heap.size zL.toList) 3 [45,46] [ar _,ar _,ar _] (fun w=>Kq.refl w) (fun a b c h k=>Kq.trans h k) (by kernel_rfl) (by kernel_rfl) (by kernel_rfl) (by kernel_rfl);case hsteps=>
   refine⟨?_,?_,?_,trivial⟩;all_goals
    intro d ev m r g y z D s f;replace y:=aa y;replace g:=aa g;replace z:=aa z;replace D:=aa D;have A:=s 2 (by decide);clear s;simp only[sB]at A;simp only[sG]at f;have cF:m.cell? ⟨7,0,none⟩=some (.iface 233 (.pointer (some (a 2)))):=r.cell (HG 2 s2) J;rw[if_pos (rfl:C8 _ _=true)];first
    | ((with_reducible refine dH ?_ ?_ (ab.out m g.out) ?_ ?_);exact A;exact(by first | ((repeat(first | exact f | exact f.2 | replace f:=f.1));done) | ((repeat(first | exact f | exact f.1 | replace f:=f.2));first | done | fail));exact(Kq.refl m).setCells (Q:=fun k=>k=w.heap.size) rfl 0 _;exact⟨rfl,g.set rfl⟩)
    | (go_simp;first | exact⟨Kq.refl _,rfl,g⟩ | exact⟨CT _ _,rfl,HJ.same (by decide) g⟩)
  case hmono=>exact mR
  case hR0=>exact Kq.drew _
  case hend=>
   intro u m r C hend;simp only[sE]at hend;simp only[sF,hend];have H:=aa C;have I:Hid (au w m):=aa ((V.trans (r.mono fun k _ q=>FN q.symm)).ext fun k q=>q);have O:t=(2,dW):=E.out;subst O;clear r C hend
   go_wp2_with fail
   exact De (v:=.tuple #[.agg zL,.iface 233 (.pointer (some (a 2)))]) (aI rfl rfl (H.loadVar (P:=CO) C5 rfl (by kernel_rfl)) rfl) rfl ⟨_,_,_,_,_,rfl,rfl,cn.nil _ _ _ _ _ _ _ _,I⟩
  case hJ0=>exact aw.same aK rfl
 | false=>
 by_cases h0:0 < nr
 ·have E:Hid (t=(4,dW)):=aa (by
   rw[Z.out];unfold ou;simp only[E3,if_false];rw[if_pos (by rw[<-bZ.out];exact h0)])
  have cH:(0:Int) < (nr:Int):=by omega
  clear Z h0
  go_wp2_with fail
  clear aZ aD;have B:w7.cell? ⟨5,0,none⟩=some (.iface 233 (.pointer (some (a 4)))):=(He.ext (V.ext (fun k q=>q))).cell 4 s4;have J:=aa B;clear B;apply az (Kq (fun k=>k=w.heap.size)) (fun _ _ w'=>aw w' w.heap.size zL.toList) 3 [54,55] [ar _,ar _,ar _] (fun w=>Kq.refl w) (fun a b c h k=>Kq.trans h k) (by kernel_rfl) (by kernel_rfl) (by kernel_rfl) (by kernel_rfl);case hsteps=>
   refine⟨?_,?_,?_,trivial⟩;all_goals
    intro d ev m r g y z D s f;replace y:=aa y;replace g:=aa g;replace z:=aa z;replace D:=aa D;have A:=s 2 (by decide);clear s;simp only[sB]at A;simp only[sG]at f;have cF:m.cell? ⟨5,0,none⟩=some (.iface 233 (.pointer (some (a 4)))):=r.cell (HG 4 s4) J;rw[if_pos (rfl:C8 _ _=true)];first
    | ((with_reducible refine dH ?_ ?_ (ab.out m g.out) ?_ ?_);exact A;exact(by first | ((repeat(first | exact f | exact f.2 | replace f:=f.1));done) | ((repeat(first | exact f | exact f.1 | replace f:=f.2));first | done | fail));exact(Kq.refl m).setCells (Q:=fun k=>k=w.heap.size) rfl 0 _;exact⟨rfl,g.set rfl⟩)
    | (go_simp;first | exact⟨Kq.refl _,rfl,g⟩ | exact⟨CT _ _,rfl,HJ.same (by decide) g⟩)
  case hmono=>exact mR
  case hR0=>exact Kq.drew _
  case hend=>
   intro u m r C hend;simp only[sE]at hend;simp only[sF,hend];have H:=aa C;have I:Hid (au w m):=aa ((V.trans (r.mono fun k _ q=>FN q.symm)).ext fun k q=>q);have O:t=(4,dW):=E.out;subst O;clear r C hend
   go_wp2_with fail
   exact De (v:=.tuple #[.agg zL,.iface 233 (.pointer (some (a 4)))]) (aI rfl rfl (H.loadVar (P:=CO) C5 rfl (by kernel_rfl)) rfl) rfl ⟨_,_,_,_,_,rfl,rfl,cn.nil _ _ _ _ _ _ _ _,I⟩
  case hJ0=>exact aw.same aK rfl
 have an:Hid (t=if aR l=0 then(0,l)else(aR l,dW)):=aa (by
  rw[Z.out];unfold ou;simp only[E3,if_false];rw[if_neg (by rw[<-bZ.out];exact h0)])
 have cH:¬((0:Int) < (nr:Int)):=by omega
 obtain⟨vp,vs,vb,L,bf,W⟩:=bN.out;obtain⟨ap,ac,aq,_,_⟩:=W.pl.BD.form;obtain⟨bp,bc,cE,_,_⟩:=W.sh.BD.form;obtain⟨M,b7,cJ,cM⟩:=W.bl;obtain⟨c1,c0,cG,_,_⟩:=b7.BD.form;have b6:eg w7 (.agg (cL l vp vs vb).toArray) l:=⟨_,vp,vs,vb,L,rfl,W.BH⟩;have bO:=aa b6;have bG:=aa bf;have bL:=aa W;have cz:Hid (∀c∈cL l vp vs vb,c.oneCell'=true):=aa W.BH.one;have bY:=aa (bf.load (P:=CO) C5 rfl (by kernel_rfl));clear Z h0 bf W aq cE b7 cJ cM cG b6 bN
 go_wp2_with refine ao rfl bY ?_
 refine(fB _ l w7 S a bO (He.ext (V.ext fun k q=>q)) s1 s3 s4 s7 s8).mono ?_;rintro e R ⟨rfl,ah⟩;have cV:=aa ah;have cq:=aa (bG.ext ah);have aL:=aa (aK.ext ah);have bX:Hid (Kq (fun k=>w.heap.size<=k) w R):=aa (V.trans (Kq.AI ah));have cr:Hid (cn (fun k=>W6.heap.size<=k) R l vp vs vb L):=aa (bL.kept fun k T aU=>⟨T,ah.block k aU⟩);clear ah bG aK V bL bY bO aD aZ;obtain⟨K,hK⟩:=exq (aR l);rw[<-hK]at an;rw[<-hK];clear hK;by_cases av:K=0
 ·subst av;rw[ef];have E:Hid (t=(0,l)):=an;have cy:=aa (cq.load (P:=CO) C5 rfl (by kernel_rfl));have cA:=aa (aL.store (P:=CO) (cs':=cL l vp vs vb) rfl cz (ty:=26) (by kernel_rfl));have a2:=aa (aL.set (cs':=cL l vp vs vb) rfl);have aN:Hid (Kq (fun k=>k=w.heap.size) R (R.setCells w.heap.size 0 (cL l vp vs vb))):=aa ((Kq.refl R).setCells (Q:=fun k=>k=w.heap.size) rfl 0 _);clear an
  go_wp2_with first | refine ao rfl cy ?_ | refine ak rfl rfl cA ?_
  refine De (v:=.tuple #[.agg (cL l vp vs vb).toArray,.nilIface]) (aI rfl rfl (a2.loadVar (P:=CO) C5 rfl (by kernel_rfl)) rfl) rfl ?_;rw[E.out];exact⟨_,vp,vs,vb,L,rfl,rfl,cr.kept fun k T aU=>⟨by have:=bR.out;omega,aN.block k aU (by have:=bR.out;omega)⟩,(bX.trans (aN.mono fun k _ q=>FN q.symm)).ext fun k q=>q⟩
 ·rw[da a K av];have E:Hid (t=(K,dW)):=aa (by rw[an.out,if_neg av]);have ct:=aa av;have cB:=aa (ab R aL);have a2:=aa (aL.set (cs':=zL.toList) rfl);have aN:Hid (Kq (fun k=>k=w.heap.size) R (R.setCells w.heap.size 0 zL.toList)):=aa ((Kq.refl R).setCells (Q:=fun k=>k=w.heap.size) rfl 0 _);clear an av
  go_wp2_with refine ak rfl rfl cB ?_
  refine De (v:=.tuple #[.agg zL,.iface 233 (.pointer (some (a K)))]) (aI rfl rfl (a2.loadVar (P:=CO) C5 rfl (by kernel_rfl)) rfl) rfl ?_;rw[E.out];exact⟨_,_,_,_,_,by rw[da a K ct.out];rfl,rfl,cn.nil _ _ _ _ _ _ _ _,(bX.trans (aN.mono fun k _ q=>FN q.symm)).ext fun k q=>q⟩
def kR (s:bL) (bs:List Int):List Int × Bool:=if (dE bs).1=0 then(if (bC s (dE bs).2).2=true then(if aR (bC s (dE bs).2).1=0 then(bE (bC s (dE bs).2).1,true)else([],false))else([],false))else([],false)
theorem tl (b:Nat) (N Q:Nat->Prop) (s:bL) (v:CQ) (f:List Int) (w:CP) (S:List Nat) (a:Nat->Addr) (hS:gx N Q w b s) (aU:cH s) (aG:∀i,Q i->N i) (aI:∀i,N i->i < w.heap.size) (hR:Bu w .u8 v f) (aN:bI f) (aM:f.length<=9000) (hg:eZ w) (he:∀w',Kq Q w w'->ix S a w') (s1:1∈S) (s2:2∈S) (s3:3∈S) (s4:4∈S) (s7:7∈S) (s8:8∈S):
  CZ CO 28 #[.pointer (some ⟨b,0,none⟩),v] w fun e w'=>yC Q (kR s f) w e w':=by
 obtain⟨p,c,a4,_,_⟩:=hR.form;subst a4;have m:=aa (Dj hS (Dj aU (Dj aG aI)));have Y:=aa (Dj hR (Dj aN aM));have d:=aa (Dj hg (Dj he (Dj s1 (Dj s3 (Dj s4 (Dj s7 s8))))));have a2:=aa s2;obtain⟨nb,ai⟩:=exq f.length;have a1:=aa ai;rw[<-ai];have U:Hid (au w w):=aa (CT _ _);clear hS aU aG aI hR aN aM hg he s1 s2 s3 s4 s7 s8 ai;go_enter Tryz.func28,Tryz.ntmps28
 go_wp2_with fail
 refine(tj (.slice p nb c) f w S a (by rw[a1.out];exact Y.1.ext U) Y.2.1 Y.2.2 (d.2.1 _ (Kq.AI U)) d.2.2.1 a2 d.2.2.2.1 d.2.2.2.2.1 d.2.2.2.2.2.1 d.2.2.2.2.2.2).mono ?_;rintro e n ⟨v2,pp,ps,M,L,rfl,rfl,aD,aA⟩;have C:=aa aD;have am:Hid (au w n):=aa (U.trans aA);obtain⟨l,z⟩:=exq ((dE f).2);obtain⟨O,K⟩:=exq ((dE f).1);have R:Hid (¬O=0->kR s f=([],false)):=aa fun q=>by unfold kR;rw[if_neg (by rw[<-K];exact q)]
 have T:Hid (O=0->kR s f=if (bC s l).2=true then(if aR (bC s l).1=0 then(bE (bC s l).1,true)else([],false))else([],false)):=aa fun q=>by unfold kR;rw[if_pos (by rw[<-K];exact q),<-z]
 rw[<-z]at C⊢;rw[<-K];clear aD aA z K;obtain⟨J,ad⟩:=aw.fresh (cs:=cL l pp ps M) n 26 zL rfl (bR _ _ _ _);have y:=aa (aH (P:=CO) (cs:=cL l pp ps M) n 26 zL rfl C.BH.one (ty:=26) (by kernel_rfl))
 go_wp2_with (with_reducible refine aC (ty:=26) ?_)
 refine ax ?_;refine ak rfl rfl y ?_;obtain⟨E,aK⟩:=exq ((n.alloc (.cells zL 26)).setCells n.heap.size 0 (cL l pp ps M));obtain⟨D8,ab⟩:=exq n.heap.size;rw[<-aK]at J ad⊢;rw[<-ab]at J⊢;have al:=aa J;have W:=aa ad;have ba:=aa ab;clear J ad aK ab y;have j:Hid (au w E):=aa (am.trans W);have aq:Hid (cn (fun i=>w.heap.size<=i) E l pp ps M L):=aa (C.kept fun i hi z=>⟨hi,W.block i z⟩);clear C am W;have aQ:∀w',au w w'->Kq Q w w':=fun w' h=>Kq.AI h
 have a0:=aa aQ;clear aQ;by_cases B:O=0;case neg=>
  have g:=aa (R B);rw[da a O B];clear B R T
  go_wp2_with fail
  go_ret2;unfold yC;rw[g.out];exact⟨none,0,0,rfl,(fun q=>(by cases q)),a0 _ j⟩
 have o:=aa (T B);subst B;rw[ef];clear R T;have u:=aa (al.load (P:=CO) C5 rfl (by kernel_rfl))
 go_wp2_with (with_reducible refine aV (ty:=26) ?_)
 refine ax ?_;refine ao rfl u ?_;clear u
 go_wp2_with fail
 refine(oX b N Q s _ l E S a (m.1.ext j) m.2.1 m.2.2.1 (fun i q=>Nat.lt_of_lt_of_le (m.2.2.2 i q) j.size) ⟨_,_,_,_,rfl,aq.kept fun i hi _=>⟨fun q=>by have:=m.2.2.2 i q;omega,rfl⟩⟩ (d.1.ext j) (d.2.1 _ (Kq.AI j)) d.2.2.1 d.2.2.2.1 d.2.2.2.2.1 d.2.2.2.2.2.1 d.2.2.2.2.2.2).mono ?_;rintro e k ⟨ap,H,G,A,rfl,ae,aE⟩;have aF:Kq Q E k:=aE.1;have ar:Hid (Kq Q w k):=aa ((Kq.AI j).trans aF);have bb:Hid (∀w',Kq Q w w'->Kq Q w w'):=aa fun _ h=>h
 obtain⟨x,hx⟩:=exq ((bC s l).1);obtain⟨is,ah⟩:=exq ((bC s l).2);have bc:Hid (nh x/\(-1125899906842624<=x.id/\x.id<=1125899906842624)):=aa (by rw[hx];exact⟨rC m.2.1,wZ⟩);rw[<-hx,<-ah]at o;rw[<-hx]at ae⊢;rw[<-ah];have X:=aa ae;clear ae aE aF hx ah aq al;obtain⟨I,ac⟩:=aw.fresh (cs:=cL x ap H G) k 26 zL rfl (bR _ _ _ _);have y:=aa (aH (P:=CO) (cs:=cL x ap H G) k 26 zL rfl X.BH.one (ty:=26) (by kernel_rfl))
 go_wp2_with (with_reducible refine aC (ty:=26) ?_)
 refine ax ?_;refine ak rfl rfl y ?_;obtain⟨F,aL⟩:=exq ((k.alloc (.cells zL 26)).setCells k.heap.size 0 (cL x ap H G));obtain⟨a7,Z⟩:=exq k.heap.size;rw[<-aL]at I ac⊢;rw[<-Z]at I⊢;have aj:=aa I;have V:=aa ac;have a9:=aa Z;clear I ac aL Z y;have D:Hid (Kq Q w F):=aa (ar.trans (Kq.AI V));have ay:Hid (eg F (.agg (cL x ap H G).toArray) x):=aa (eg.ext ⟨_,_,_,_,_,rfl,X.BH⟩ V);clear X ar V j;cases is with
 | false=>
  have g:Hid (kR s f=([],false)):=aa (by rw[o.out];rfl);clear o
  go_wp2_with fail
  go_ret2;unfold yC;rw[g.out];exact⟨none,0,0,rfl,(fun q=>(by cases q)),D⟩
 | true=>
  have an:Hid (ix S a F):=aa (d.2.1 _ D);have r:Hid (kR s f=if aR x=0 then(bE x,true)else([],false)):=aa (by rw[o.out];rfl);clear o;have u:=aa (aj.load (P:=CO) C5 rfl (by kernel_rfl))
  go_wp2_with (with_reducible refine aV (ty:=26) ?_)
  refine ax ?_;refine ao rfl u ?_;clear u
  go_wp2_with fail
  refine(lW _ x F S a ay an d.2.2.1 d.2.2.2.1 d.2.2.2.2.1 d.2.2.2.2.2.1 d.2.2.2.2.2.2).mono ?_;rintro e w8 ⟨v8,rfl,ag,aB⟩;have av:Hid (Kq Q w w8):=aa (D.trans (Kq.AI aB));obtain⟨p8,c8,a3,_,_⟩:=ag.form;subst a3;have t:=aa ag;obtain⟨n8,aT⟩:=exq ((if aR x=0 then bE x else []).length);rw[<-aT]at t⊢;clear aB ag aT ay an aj D;obtain⟨ck,aO⟩:=exq (aR x);rw[<-aO]at t r⊢;clear aO;by_cases h0:ck=0
  ·have g:Hid (kR s f=(bE x,true)):=aa (by rw[r.out,if_pos h0]);rw[if_pos h0]at t;subst h0;rw[ef];clear r
   go_wp2_with fail
   go_quiet (fail)
   go_wp2_with fail
   go_ret2;unfold yC;rw[g.out];exact⟨_,_,_,rfl,fun _=>t.ext ((CT _ _).drewN _),av.trans (Kq.AI ((CT _ _).drewN _))⟩
  ·have g:Hid (kR s f=([],false)):=aa (by rw[r.out,if_neg h0]);rw[da a ck h0];clear r h0 t
   go_wp2_with fail
   go_quiet (fail)
   go_wp2_with fail
   go_ret2;unfold yC;rw[g.out];exact⟨_,_,_,rfl,(fun q=>(by cases q)),av.trans (Kq.AI ((CT _ _).drewN _))⟩
end Go.Proofs.Bl
