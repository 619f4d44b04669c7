/- Texts that stood apart, in one: LP1, LP2, LP3. -/
import Derived.Test.YtglenbikdahgjaaGreatDoorPs06
set_option maxRecDepth 100000
set_option maxHeartbeats 16000000
open And renaming intro->Dj
open Go renaming Calls->CZ,Value->CQ,World->CP,maxLen->Dc
open Go.Instr renaming build->FL
open Go.Region renaming wanted->C8
open Go.RowKit.Below renaming refl->CT
open Go.World renaming size_alloc->C4
open List renaming append_assoc->DH,append_nil->DV,getD_eq_getElem?_getD->CR,getElem?_map->DE,getElem?_set_self->Eb,length->Ej,length_append->C7,length_drop->C6,length_map->CY,length_singleton->D6,length_take->Da,map_append->D3
open Nat renaming le_refl->CU,le_trans->Dk,lt_of_lt_of_le->Dd,zero_le->C9
namespace Go.Proofs.Bl
open Go Go.RowKit Go.Proofs
open Go.Proofs.Tryz renaming prog->CO,underlying57->Er
variable {X n B o D s fi B':Nat} {y:List Int}
theorem qw (k:IntKind) (l:List Int) (n:Nat):(aj k l).take n=aj k (l.take n):=by simp[aj,List.map_take]
theorem qx (k:IntKind) (l:List Int) (n:Nat):(aj k l).drop n=aj k (l.drop n):=by simp[aj,List.map_drop]
theorem ch.pos {w:CP} {sh:Bool} {b:List Int} (h:ch w X (sh,b)) (h0:0 < b.length):∃g o c,aw w X [.slice (some ⟨g,o,none⟩) b.length c,.bool sh]/\w.rangeAt g o (aj .u8 b)/\g < X/\b.length<=c/\c<=Dc:=by
 obtain⟨p,c,h1,h2,i,j⟩:=h.ex;rcases h2 with ⟨_,a,_⟩ | ⟨g,o,m,a,r,s,k,l⟩
 ·simp only at a;omega
 ·simp only at a;injection a with e n f;subst e f;refine⟨g,o,c,h1,k,l (fun q=> ?_),i,j⟩;have d:=congrArg Ej q;rw[ints_length]at d;have d:b.length=0:=d;omega
theorem ch.next {w:CP} {g c:Nat} {b:List Int} (a:aw w X [.slice (some ⟨g,o+n,none⟩) (b.length - n) (c - n),.bool false]) (f:w.rangeAt g o (aj .u8 b)) (e:g < X) (j:n<=b.length) (h:b.length<=c) (hm:c<=Dc) (d:bI b) (i:b.length<=9000):ch w X (false,b.drop n):=by
 have h1:=cU f n;rw[qx]at h1;refine⟨⟨some ⟨g,o+n,none⟩,c - n,?_,?_,?_,?_⟩,d.drop n,?_⟩
 ·simp only[C6];exact a
 ·simp only[C6];exact .inr ⟨g,o+n,c - n,rfl,by omega,by omega,h1,fun _=>e⟩
 ·simp only[C6];omega
 ·omega
 ·simp only[C6];omega
theorem ch.Cv {w:CP} {p:Option Addr} {b:List Int} (a:aw w X [.slice p (b.length - n) 0,.bool false]) (c:b.length=n):ch w X (false,b.drop n):=by
 have e:b.drop n=[]:=List.drop_of_length_le (by omega);rw[e];rw[c,Nat.sub_self]at a;exact⟨⟨p,0,a,.inl ⟨⟨p,rfl⟩,rfl,rfl⟩,CU _,C9 _⟩,bI.nil,C9 _⟩
theorem ch.stop {w w':CP} {sh:Bool} {b:List Int} (h:ch w X (sh,b)) (k:Kq (fun i=>i=X) w w') (d:∀v,aw w X [v,.bool sh]->aw w' X [v,.bool true]):ch w' X (true,b):=by
 obtain⟨p,c,h1,h2,a⟩:=h.ex;exact⟨⟨p,c,d _ h1,h2.kept fun i e f=>⟨e,k.block i f (fun q=>by omega)⟩,a⟩,h.BJ,h.le⟩
theorem xW {b:List Int} (h:n<=b.length):eh n (false,b)=(b.take n,(false,b.drop n)):=if_pos ⟨rfl,h⟩
theorem xX {sh:Bool} {b:List Int} (h:¬(sh=false/\n<=b.length)):eh n (sh,b)=([],(true,b)):=if_neg h
theorem dD.nil (w:CP):dD w (.slice none 0 0) []:=⟨none,0,rfl,Bu.nil _ _⟩
theorem zw (n:Int) (h0:0<=n) (h1:n < 2^63):IntKind.i64.wrap n=n:=by rw[IntKind.wrap_i64];omega
theorem AB {n c:Int} (h0:0<=n) (h1:n<=2199023255552) (a:0<=c/\c<=255):bits .or .i64 (n*256) c=n*256+c:=
 bits_join .i64 63 (by decide) zw 8 (n*256) c (by omega) (by omega) (by omega) a.1 (by omega) (by omega)
theorem iH (X n:Nat) (s:bS) (w:CP) (h:ch w X s) (h1:1<=n) (hn:n<=9000):
  CZ CO 136 #[.pointer (some ⟨X,0,none⟩),.int .i64 n] w fun e w'=>∃u,e=.returned u/\dD w' u (eh n s).1/\(∀k,u.ownBlock=some k->w.heap.size<=k/\k < w'.heap.size)/\ch w' X (eh n s).2/\Kq (fun k=>k=X) w w'/\((eh n s).1=[]->u=.slice none 0 0):=by
 obtain⟨sh,b⟩:=s;have U:=aa h;have hle:=h.le;simp only at hle;by_cases t:sh=false/\n<=b.length
 ·obtain⟨rfl,H⟩:=t;rw[xW H];obtain⟨g,o,c,d,I,hg,B,C⟩:=h.pos (by omega);have x:=aa d;have z:=d.cell (i:=0) rfl;have T:=d.cell (i:=1) rfl;have Y:=aa I;have R:Bu w .u8 (.slice (some ⟨g,o,none⟩) n c) (b.take n):=by refine .inr ⟨g,o,c,by rw[Da,Nat.min_eq_left H],by rw[Da];omega,C,?_⟩;have:=dM I n;rwa[qw]at this
  have V:Hid (bI b):=aa h.BJ;have L:=aa (eD _ (b.take n) w R (by rw[Da];omega));have Hf:Hid (aw w X [.slice (some ⟨g,o,none⟩) b.length c,.bool false]):=x;have O:∀v:CQ,Hid (b.take n=[]->v=.slice none 0 0):=fun v=>aa fun q=>by have h2:=congrArg Ej q;rw[Da]at h2;simp only[List.length_nil]at h2;omega
  obtain⟨m,hm⟩:=exq b.length;have y:=aa hm;rw[<-hm]at B z H hle;unfold Dc at C;have ae:¬((m:Int) < (n:Int)):=by omega
  have ah:=x.lt;clear h d I R hm;go_enter Tryz.func136,Tryz.ntmps136
  go_wp2_with fail
  refine L.mono ?_;rintro e A ⟨u,rfl,S,G⟩;have E:=aa G;have l:=aa S;have D:=aa (x.ext G);have hf:=D.fz (i:=0) (show 0 < 2 by decide);replace z:=D.cell (i:=0) rfl;rw[<-y.out]at z;clear S G L T;have P:Hid (∀K,Kq (fun k=>k=X) A K->dD K u (b.take n)):=aa fun K ab=>by obtain⟨p9,Z,ad,_,_⟩:=(aX.AS l).form;subst ad;refine⟨p9,Z,rfl,ab.BD (aX.AS l) fun k a=> ?_⟩;have:=(l.lt k a).1;omega
  have f:Hid (∀v,Kq (fun k=>k=X) A (A.setCell ⟨X,0,none⟩ v)):=aa fun v=>(Kq.refl A).setCell (Q:=fun k=>k=X) ⟨X,0,none⟩ rfl v
  have M:Hid (∀v,aw (A.setCell ⟨X,0,none⟩ v) X [v,.bool false]):=aa fun v=>D.put (i:=0) (show 0 < 2 by decide) v
  by_cases ai:c - n=0
  ·have W:Hid (b.length=n):=aa (by rw[<-y.out];omega)
   go_wp2_with fail
   go_ret;exact⟨_,rfl,P _ (f _),fun k a=>⟨(l.lt k a).1,Dd (l.lt k a).2 (f _).size⟩,ch.Cv (by rw[<-y.out];exact M _) W,(Kq.AI E).trans (f _),(O _).out⟩
  ·have r:Hid (b.length<=c/\n<=b.length/\c<=Dc/\b.length<=9000/\g < X):=aa (by unfold Dc;rw[<-y.out];omega)
   go_wp2_with fail
   go_ret;refine⟨_,rfl,P _ (f _),fun k a=>⟨(l.lt k a).1,Dd (l.lt k a).2 (f _).size⟩,ch.next (by rw[<-y.out];exact M _) (fun j v J=>(f _).cell (fun q=>by have:=r.2.2.2.2;omega) (aL Y E j v J)) r.2.2.2.2 r.2.1 r.1 r.2.2.1 V r.2.2.2.1,(Kq.AI E).trans (f _),(O _).out⟩
 ·rw[xX t];obtain⟨p,c,d,_,B,C⟩:=h.ex;have x:=aa d;have z:=d.cell (i:=0) rfl;have T:=d.cell (i:=1) rfl;have hf:=d.fz (i:=1) (show 1 < 2 by decide);have F:Hid (Kq (fun k=>k=X) w (w.setCell ⟨X,1,none⟩ (.bool true))):=aa ((Kq.refl w).setCell (Q:=fun k=>k=X) ⟨X,1,none⟩ rfl _);have N:=aa (U.stop F fun v J=>J.put (i:=1) (show 1 < 2 by decide) (.bool true));unfold Dc at C;simp only at B;obtain⟨m,hm⟩:=exq b.length;rw[<-hm]at t B z hle;clear h d x hm;cases sh
  ·have ae:(m:Int) < (n:Int):=by
    have:¬n<=m:=fun q=>t ⟨rfl,q⟩
    omega
   clear t;go_enter Tryz.func136,Tryz.ntmps136
   go_wp2_with fail
   go_ret;exact⟨_,rfl,dD.nil _,fun k a=>(by cases a),N,F,by first | rfl | exact fun _=>rfl⟩
  ·clear t;go_enter Tryz.func136,Tryz.ntmps136
   go_wp2_with fail
   go_ret;exact⟨_,rfl,dD.nil _,fun k a=>(by cases a),N,F,by first | rfl | exact fun _=>rfl⟩
theorem lM (X n:Nat) (s:bS) (w:CP) (h:ch w X s) (h1:1<=n) (c:n<=9000):
  CZ CO 136 #[.pointer (some ⟨X,0,none⟩),.int .i64 n] w fun e w'=>∃a,e=.returned a/\dD w' a (eh n s).1/\(∀k,a.ownBlock=some k->w.heap.size<=k)/\ch w' X (eh n s).2/\Kq (fun k=>k=X) w w':=
 (iH X n s w h h1 c).mono fun _ _ ⟨a,g0,g1,g2,g3,g4,_⟩=>⟨a,g0,g1,fun k b=>(g2 k b).1,g3,g4⟩
theorem cj (X n:Nat) (s:bS) (w:CP) (h:ch w X s) (h1:1<=n) (J:n<=9000):
  CZ CO 94 #[.pointer (some ⟨X,0,none⟩),.int .i64 n] w fun e w'=>e=.returned (.int .i64 (aW n s).1)/\ch w' X (aW n s).2/\Kq (fun k=>k=X) w w':=by
 have b:=aa (lM X n s w h h1 J);have j:=aa (gS (n:=n) h.BJ).1
 have l:Hid ((eh n s).1.length<=9000):=aa (by
  unfold eh;split
  ·rw[Da];have:=h.le;omega
  ·exact C9 _)
 clear h;unfold aW;obtain⟨y,hy⟩:=exq ((eh n s).1);obtain⟨s2,D⟩:=exq ((eh n s).2);rw[<-hy]at b j l⊢;rw[<-D]at b⊢;clear hy D;go_enter Tryz.func94,Tryz.ntmps94
 go_wp2_with fail
 refine b.mono ?_;rintro e R ⟨v',rfl,⟨p,c,rfl,v⟩,_,A,u⟩;have g:=aa v;have G:=aa A;have F:=aa u;obtain⟨m,hm⟩:=exq y.length;have o:=aa hm;have Z:m<=9000:=by rw[hm];exact l
 rw[<-hm]at g⊢;clear v A u hm
 go_wp2_with fail
 go_loopw [5,12] (fun a i wr=>∃(k:Nat) (z:Int),k<=m/\a=.int .i64 z/\Hid (z=fR (y.take k))/\0<=z/\z<=562949953421567/\i=.int .i64 k/\wr=R) (fun _ i _=>m - (intOf i).toNat);case atStart=>exact⟨0,0,C9 _,rfl,aa rfl,by decide,by decide,rfl,rfl⟩
 case round=>
  obtain⟨k,z,U,rfl,t,ac,ad,rfl,Q⟩:=hrel;subst Q;by_cases C:k < m
  ·have d:k < y.length:=by rw[<-o.out];exact C
   obtain⟨S,o1,T,N,_,_,_,_,B⟩:=Bu.pos g (by omega);injection N with K L M;subst K;have I:=B k d;have hx:=j.get k;have r:Hid (y.take (k+1)=y.take k++[y.getD k 0]):=aa (aF 0 y k d);obtain⟨x,E⟩:=exq (y.getD k 0);rw[<-E]at I hx r;obtain⟨q,f⟩:=exq (min z 2199023255552);have H:=aa f;have O:0<=q:=by omega
   have P:q<=2199023255552:=by omega
   have ab:=AB O P hx;have Y:min z 2199023255552=q:=f.symm;obtain⟨x0,x1⟩:=hx;have V:(0:Int)<=(k:Int):=by omega
   have W:(k:Int) < (m:Int):=by omega
   clear B L M E d f
   go_wp2_with fail
   go_roundw
   case rel=>exact⟨k+1,q*256+x,by omega,rfl,aa (by
    rw[r.out];unfold fR xB;rw[List.foldl_append,H.out,t.out];rfl),by omega,by omega,by go_num,trivial⟩
   case measure=>simp[intOf];omega
  ·obtain rfl:k=m:=by omega
   obtain rfl:z=fR y:=by rw[t.out,List.take_of_length_le (by rw[<-o.out];exact CU _)]
   clear C
   go_wp2_with fail
   go_ret;exact⟨rfl,G,F⟩
theorem zi:kv CO 22 27 (.slice none 0 0) 1 24:=⟨Tryz.underlying22,by kernel_rfl,rfl,by decide⟩
theorem zj:kv CO 23 3 (.int .i64 0) 1 8:=⟨Tryz.underlying23,by kernel_rfl,rfl,by decide⟩
theorem sy (X Y z A B:Nat) (f:bS) (cs:List CQ) (o:CQ) (M:List Bv) (w:CP) (hC:C0 cB 1 ju B X Y 7 cs o M f w) (h0:w.cell? ⟨z,0,none⟩=some (.pointer (some ⟨Y,0,none⟩))) (h1:w.cell? ⟨A,0,none⟩=some (.pointer (some ⟨X,0,none⟩))) (aj:X < Y) (hY:Y < B) (n0:z < B/\z≠X) (n1:A < B/\A≠X) (hM:M.length<=100000):
  CZ CO 138 #[.pointer (some ⟨z,0,none⟩),.pointer (some ⟨A,0,none⟩)] w fun e w'=>e=.returned (.tuple #[])/\∃j y,y.2=(eh 16 f).1/\GP cB 1 ju B w' Y 7 (cs.set 7 j) j (M++[y])/\ch w' X (eh 16 f).2/\Kq (fun k=>k=X\/k=Y\/B<=k) w w':=by
 obtain⟨r,S⟩:∃r:Bv->Prop,r=fun y=>y.2=(eh 16 f).1:=⟨_,rfl⟩
 have K:=aa S;have hB:B<=w.heap.size:=hC.2.2;have E:Hid (X < B/\¬(X=Y)/\¬(B<=Y)/\¬(Y=X)):=aa (by omega);have Z:Hid (∀g,C0 cB 1 ju B X Y 7 cs o M f g->CZ CO 136 #[.pointer (some ⟨X,0,none⟩),.int .i64 16] g fun e w'=>∃j,e=.returned j/\C1 cB 1 ju B X Y 7 cs o M r (eh 16 f).2 j w'/\Kq (fun k=>k=X\/B<=k) g w'):=aa fun g F=>by refine(lM X 16 f g F.1 (by decide) (by decide)).mono ?_;rintro e w' ⟨j,rfl,g1,g2,g3,g4⟩;refine⟨j,rfl,F.c1 bQ (y:=(j,(eh 16 f).1)) g4 E.2.2.2 (fun b s q=>by have:=E.1;omega) g3 (by rw[K.out]) (uL g1) rfl (xT g1) ⟨?_,(gS F.1.BJ).1⟩,g4.mono fun k _ G=>.inl G⟩;obtain⟨p,c,hf,hr⟩:=g1;exact aY.By hr fun b s _=>g2 b s
 have W:=aa hC;have U:=hC.2.1.cell;obtain⟨m,hm⟩:=exq M.length;have N:Hid (M.length+1<=Dc/\(M.length+1)*24<=140737488355328):=aa (by unfold Dc;omega);have Hq:Hid ((∀g,Kq (fun k=>k=X\/B<=k) w g->g.cell? ⟨z,0,none⟩=some (.pointer (some ⟨Y,0,none⟩))/\g.cell? ⟨A,0,none⟩=some (.pointer (some ⟨X,0,none⟩))/\g.cell? ⟨Y,7,none⟩=some o)):=aa fun g h=>⟨h.cell (by omega) h0,h.cell (by omega) h1,h.cell (by omega) U⟩
 clear S hC U hm hM n0 n1 hB;go_enter Tryz.func138,Tryz.ntmps138;apply az (Kq (fun k=>k=X\/B<=k)) (jk 6 7 8 8 9 10 (C0 cB 1 ju B X Y 7 cs o M f) (C1 cB 1 ju B X Y 7 cs o M r (eh 16 f).2) (C2 cB 1 ju B X Y 7 cs o M r (eh 16 f).2) (C3 cB 1 ju B X Y 7 cs o M r (eh 16 f).2)) 11 [2,3,4,5,6,7,8,9,10,11,12] [ar _,ar _,ar _,ar _,ar _,ar _,cR,cR,cR,ar _,ar _] (fun w=>Kq.refl w) (fun a b c h k=>Kq.trans h k) (by kernel_rfl) (by kernel_rfl) (by kernel_rfl) (by kernel_rfl);case hsteps=>
  refine⟨?_,?_,?_,?_,?_,?_,?_,?_,?_,?_,?_,trivial⟩;all_goals
   intro d ev V C l n x t s i;replace n:=aa n;replace l:=aa l;replace x:=aa x;replace t:=aa t;have e0:=s 0 (by decide);have e1:=s 1 (by decide);clear s;simp only[sB]at e0 e1;simp only[sG]at i;have D:=Hq _ C;have c0:=D.1;have c1:=D.2.1;have c7:=D.2.2;clear D;rw[if_pos (rfl:C8 _ _=true)];first
   | ((with_reducible refine dx (v:=ev 8) zi (by decide) ?_ (l.out.b (n.out 6 (by kernel_rfl)) t.out).size ?_);rfl;exact⟨Kq.AI (ae _ _),trivial,jk.BS (by decide) (n 6 (by kernel_rfl)) (x 8 (by kernel_rfl)) ((l.b (n 6 (by kernel_rfl)) t).c2 bQ _)⟩) | ((with_reducible refine jR zi bQ E.out.1 aj (l.out.c (n.out 7 (by kernel_rfl)) t.out) ?_ ?_ N.out.1 N.out.2 ?_);rfl;exact(by first | ((repeat(first | exact i | exact i.2 | replace i:=i.1));done) | ((repeat(first | exact i | exact i.1 | replace i:=i.2));first | done | fail));exact fun j w' H I=>⟨H,trivial,jk.app (by decide) (n 6 (by kernel_rfl)) (n 7 (by kernel_rfl)) I⟩)
   | (go_simp;first | exact⟨Kq.refl _,rfl,l.same (by decide)⟩ | (go_at_call 136;(with_reducible refine(Z.out V (l.out.a t.out)).mono ?_);rintro e g ⟨v9,rfl,H,I⟩;exact⟨_,rfl,I,trivial,jk.call (by decide) (x 7 (by kernel_rfl)) (x 8 (by kernel_rfl)) H⟩) | exact⟨CT _ _,rfl,HJ.same (by decide) l⟩)
 case hmono=>exact mR
 case hR0=>exact Kq.drew _
 case hend=>
  intro u V C R hend;simp only[sE]at hend;simp only[sF,hend];obtain⟨y,p,c,hu,hp,aq,av,P,T⟩:=R.d rfl;have J:=aa P;have L:=aa T;have HK:=aa C;have O:=aa hp;rw[hu]at J L;simp only[hu];clear P T C hend R hu hp
  go_wp2_with fail
  go_end0
  rw[K.out]at O;exact⟨rfl,_,y,O,J,L,(HK.mono fun k _ G=>G.imp id .inr).setCell ⟨Y,7,none⟩ (.inr (.inl rfl)) _⟩
 case hJ0=>exact jk.start (by have h:=W.out;exact⟨h.1.kept (Q:=fun _=>False) (Kq.drew _) (fun _ _ q=>q),h.2.1.kept (Q:=fun _=>False) bQ (Kq.drew _) (fun q=>q) (fun _ _ q=>q),h.2.2⟩)
theorem sA (X Y x z B:Nat) (f:bS) (cs:List CQ) (n:CQ) (M:List Int) (w:CP) (hC:C0 cI 1 jL B X Y 3 cs n M f w) (h0:w.cell? ⟨x,0,none⟩=some (.pointer (some ⟨Y,0,none⟩))) (h1:w.cell? ⟨z,0,none⟩=some (.pointer (some ⟨X,0,none⟩))) (aj:X < Y) (hY:Y < B) (n0:x < B/\x≠X) (n1:z < B/\z≠X) (hM:M.length<=100000):
  CZ CO 139 #[.pointer (some ⟨x,0,none⟩),.pointer (some ⟨z,0,none⟩)] w fun e w'=>e=.returned (.tuple #[])/\∃s y,y=(aW 2 f).1/\GP cI 1 jL B w' Y 3 (cs.set 3 s) s (M++[y])/\ch w' X (aW 2 f).2/\Kq (fun k=>k=X\/k=Y\/B<=k) w w':=by
 obtain⟨o,R⟩:∃o:Int->Prop,o=fun y=>y=(aW 2 f).1:=⟨_,rfl⟩
 have J:=aa R;have hB:B<=w.heap.size:=hC.2.2;have E:Hid (X < B/\¬(X=Y)/\¬(B<=Y)/\¬(Y=X)):=aa (by omega);have Z:Hid (∀g,C0 cI 1 jL B X Y 3 cs n M f g->CZ CO 94 #[.pointer (some ⟨X,0,none⟩),.int .i64 2] g fun e w'=>∃s,e=.returned s/\C1 cI 1 jL B X Y 3 cs n M o (aW 2 f).2 s w'/\Kq (fun k=>k=X\/B<=k) g w'):=aa fun g U=>by refine(cj X 2 f g U.1 (by decide) (by decide)).mono ?_;rintro e w' ⟨rfl,g3,g4⟩;exact⟨_,rfl,U.c1 cD (y:=(aW 2 f).1) g4 E.2.2.2 (fun b A q=>by have:=E.1;omega) g3 (by rw[J.out]) rfl rfl (xU _) trivial,g4.mono fun k _ F=>.inl F⟩
 have W:=aa hC;have T:=hC.2.1.cell;obtain⟨m,hm⟩:=exq M.length;have L:Hid (M.length+1<=Dc/\(M.length+1)*8<=140737488355328):=aa (by unfold Dc;omega);have Hq:Hid ((∀g,Kq (fun k=>k=X\/B<=k) w g->g.cell? ⟨x,0,none⟩=some (.pointer (some ⟨Y,0,none⟩))/\g.cell? ⟨z,0,none⟩=some (.pointer (some ⟨X,0,none⟩))/\g.cell? ⟨Y,3,none⟩=some n)):=aa fun g h=>⟨h.cell (by omega) h0,h.cell (by omega) h1,h.cell (by omega) T⟩
 clear R hC T hm hM n0 n1 hB;go_enter Tryz.func139,Tryz.ntmps139;apply az (Kq (fun k=>k=X\/B<=k)) (jk 6 7 8 8 9 10 (C0 cI 1 jL B X Y 3 cs n M f) (C1 cI 1 jL B X Y 3 cs n M o (aW 2 f).2) (C2 cI 1 jL B X Y 3 cs n M o (aW 2 f).2) (C3 cI 1 jL B X Y 3 cs n M o (aW 2 f).2)) 11 [2,3,4,5,6,7,8,9,10,11,12] [ar _,ar _,ar _,ar _,ar _,ar _,cR,cR,cR,ar _,ar _] (fun w=>Kq.refl w) (fun a b c h k=>Kq.trans h k) (by kernel_rfl) (by kernel_rfl) (by kernel_rfl) (by kernel_rfl);case hsteps=>
  refine⟨?_,?_,?_,?_,?_,?_,?_,?_,?_,?_,?_,trivial⟩;all_goals
   intro d ev V C j l t r A i;replace l:=aa l;replace j:=aa j;replace t:=aa t;replace r:=aa r;have e0:=A 0 (by decide);have e1:=A 1 (by decide);clear A;simp only[sB]at e0 e1;simp only[sG]at i;have D:=Hq _ C;have c0:=D.1;have c1:=D.2.1;have c7:=D.2.2;clear D;rw[if_pos (rfl:C8 _ _=true)];first
   | ((with_reducible refine dx (v:=ev 8) zj (by decide) ?_ (j.out.b (l.out 6 (by kernel_rfl)) r.out).size ?_);rfl;exact⟨Kq.AI (ae _ _),trivial,jk.BS (by decide) (l 6 (by kernel_rfl)) (t 8 (by kernel_rfl)) ((j.b (l 6 (by kernel_rfl)) r).c2 cD _)⟩) | ((with_reducible refine jR zj cD E.out.1 aj (j.out.c (l.out 7 (by kernel_rfl)) r.out) ?_ ?_ L.out.1 L.out.2 ?_);rfl;exact(by first | ((repeat(first | exact i | exact i.2 | replace i:=i.1));done) | ((repeat(first | exact i | exact i.1 | replace i:=i.2));first | done | fail));exact fun s w' G H=>⟨G,trivial,jk.app (by decide) (l 6 (by kernel_rfl)) (l 7 (by kernel_rfl)) H⟩)
   | (go_simp;first | exact⟨Kq.refl _,rfl,j.same (by decide)⟩ | (go_at_call 94;(with_reducible refine(Z.out V (j.out.a r.out)).mono ?_);rintro e g ⟨v9,rfl,G,H⟩;exact⟨_,rfl,H,trivial,jk.call (by decide) (t 7 (by kernel_rfl)) (t 8 (by kernel_rfl)) G⟩) | exact⟨CT _ _,rfl,HJ.same (by decide) j⟩)
 case hmono=>exact mR
 case hR0=>exact Kq.drew _
 case hend=>
  intro u V C P hend;simp only[sE]at hend;simp only[sF,hend];obtain⟨y,p,c,hu,hp,ap,aq,O,S⟩:=P.d rfl;have I:=aa O;have K:=aa S;have HK:=aa C;have N:=aa hp;rw[hu]at I K;simp only[hu];clear O S C hend P hu hp
  go_wp2_with fail
  go_end0
  rw[J.out]at N;exact⟨rfl,_,y,N,I,K,(HK.mono fun k _ F=>F.imp id .inr).setCell ⟨Y,3,none⟩ (.inr (.inl rfl)) _⟩
 case hJ0=>exact jk.start (by have h:=W.out;exact⟨h.1.kept (Q:=fun _=>False) (Kq.drew _) (fun _ _ q=>q),h.2.1.kept (Q:=fun _=>False) cD (Kq.drew _) (fun q=>q) (fun _ _ q=>q),h.2.2⟩)
theorem sC (I:Nat->bS->CP->Prop) (X g j n:Nat) (hI:∀k s w,I k s w->ch w X s) (x:n<=100000)
  (o:∀k s w,k < n->s.1=false->I k s w->CZ CO 138 #[.pointer (some ⟨g,0,none⟩),.pointer (some ⟨j,0,none⟩)] w fun e w'=>e=.returned (.tuple #[])/\∃d,I (k+1) d w') (s0:bS) (w:CP) (h:I 0 s0 w):
  CZ CO 137 #[.pointer (some ⟨X,0,none⟩),.int .i64 n,.func (.func 138) #[] #[.pointer (some ⟨g,0,none⟩),.pointer (some ⟨j,0,none⟩)]] w fun e w'=>e=.returned (.tuple #[])/\kY I n w':=by
 have r:=aa hI;have t:=aa o;have H:=aa h;clear hI o h;go_enter Tryz.func137,Tryz.ntmps137
 go_wp2_with fail
 go_loopw [6] (fun i wr=>∃(k:Nat) (s:bS),k<=n/\i=.int .i64 k/\Hid (I k s wr)) (fun i _=>n - (intOf i).toNat);case atStart=>exact⟨0,s0,C9 _,rfl,H⟩
 case round=>
  obtain⟨k,s,u,rfl,a⟩:=hrel;obtain⟨p,c,l,_⟩:=(r k s wr a).ex;have q:=l.cell (i:=1) rfl;clear l;obtain⟨sh,b⟩:=exq s.1;rw[<-b]at q;have f:=aa b;clear b;by_cases m:k < n
  ·have v:(k:Int) < (n:Int):=by omega
   cases sh
   ·go_wp2_with fail
    refine(t k s wr m f.symm a).mono ?_;rintro e y ⟨rfl,d,h2⟩;have H2:=aa h2;clear h2 q
    go_wp2_with fail
    go_roundw;case rel=>exact⟨k+1,d,by omega,by go_num,H2⟩
    case measure=>simp[intOf];omega
   ·go_wp2_with fail
    go_end0
    exact⟨rfl,⟨k,s,u,a,.inr f.symm⟩⟩
  ·obtain rfl:k=n:=by omega
   clear m;have v:¬((k:Int) < (k:Int)):=by omega
   go_wp2_with fail
   go_end0
   exact⟨rfl,⟨k,s,CU _,a,.inl rfl⟩⟩
theorem sH (I:Nat->bS->CP->Prop) (X g j n:Nat) (hI:∀k s w,I k s w->ch w X s) (x:n<=100000)
  (o:∀k s w,k < n->s.1=false->I k s w->CZ CO 139 #[.pointer (some ⟨g,0,none⟩),.pointer (some ⟨j,0,none⟩)] w fun e w'=>e=.returned (.tuple #[])/\∃d,I (k+1) d w') (s0:bS) (w:CP) (h:I 0 s0 w):
  CZ CO 137 #[.pointer (some ⟨X,0,none⟩),.int .i64 n,.func (.func 139) #[] #[.pointer (some ⟨g,0,none⟩),.pointer (some ⟨j,0,none⟩)]] w fun e w'=>e=.returned (.tuple #[])/\kY I n w':=by
 have r:=aa hI;have t:=aa o;have H:=aa h;clear hI o h;go_enter Tryz.func137,Tryz.ntmps137
 go_wp2_with fail
 go_loopw [6] (fun i wr=>∃(k:Nat) (s:bS),k<=n/\i=.int .i64 k/\Hid (I k s wr)) (fun i _=>n - (intOf i).toNat);case atStart=>exact⟨0,s0,C9 _,rfl,H⟩
 case round=>
  obtain⟨k,s,u,rfl,a⟩:=hrel;obtain⟨p,c,l,_⟩:=(r k s wr a).ex;have q:=l.cell (i:=1) rfl;clear l;obtain⟨sh,b⟩:=exq s.1;rw[<-b]at q;have f:=aa b;clear b;by_cases m:k < n
  ·have v:(k:Int) < (n:Int):=by omega
   cases sh
   ·go_wp2_with fail
    refine(t k s wr m f.symm a).mono ?_;rintro e y ⟨rfl,d,h2⟩;have H2:=aa h2;clear h2 q
    go_wp2_with fail
    go_roundw;case rel=>exact⟨k+1,d,by omega,by go_num,H2⟩
    case measure=>simp[intOf];omega
   ·go_wp2_with fail
    go_end0
    exact⟨rfl,⟨k,s,u,a,.inr f.symm⟩⟩
  ·obtain rfl:k=n:=by omega
   clear m;have v:¬((k:Int) < (k:Int)):=by omega
   go_wp2_with fail
   go_end0
   exact⟨rfl,⟨k,s,CU _,a,.inl rfl⟩⟩
theorem sI (I:Nat->bS->CP->Prop) (X g j n:Nat) (hI:∀k s w,I k s w->ch w X s) (x:n<=100000)
  (o:∀k s w,k < n->s.1=false->I k s w->CZ CO 153 #[.pointer (some ⟨g,0,none⟩),.pointer (some ⟨j,0,none⟩)] w fun e w'=>e=.returned (.tuple #[])/\∃d,I (k+1) d w') (s0:bS) (w:CP) (h:I 0 s0 w):
  CZ CO 137 #[.pointer (some ⟨X,0,none⟩),.int .i64 n,.func (.func 153) #[] #[.pointer (some ⟨g,0,none⟩),.pointer (some ⟨j,0,none⟩)]] w fun e w'=>e=.returned (.tuple #[])/\kY I n w':=by
 have r:=aa hI;have t:=aa o;have H:=aa h;clear hI o h;go_enter Tryz.func137,Tryz.ntmps137
 go_wp2_with fail
 go_loopw [6] (fun i wr=>∃(k:Nat) (s:bS),k<=n/\i=.int .i64 k/\Hid (I k s wr)) (fun i _=>n - (intOf i).toNat);case atStart=>exact⟨0,s0,C9 _,rfl,H⟩
 case round=>
  obtain⟨k,s,u,rfl,a⟩:=hrel;obtain⟨p,c,l,_⟩:=(r k s wr a).ex;have q:=l.cell (i:=1) rfl;clear l;obtain⟨sh,b⟩:=exq s.1;rw[<-b]at q;have f:=aa b;clear b;by_cases m:k < n
  ·have v:(k:Int) < (n:Int):=by omega
   cases sh
   ·go_wp2_with fail
    refine(t k s wr m f.symm a).mono ?_;rintro e y ⟨rfl,d,h2⟩;have H2:=aa h2;clear h2 q
    go_wp2_with fail
    go_roundw;case rel=>exact⟨k+1,d,by omega,by go_num,H2⟩
    case measure=>simp[intOf];omega
   ·go_wp2_with fail
    go_end0
    exact⟨rfl,⟨k,s,u,a,.inr f.symm⟩⟩
  ·obtain rfl:k=n:=by omega
   clear m;have v:¬((k:Int) < (k:Int)):=by omega
   go_wp2_with fail
   go_end0
   exact⟨rfl,⟨k,s,CU _,a,.inl rfl⟩⟩
theorem qy {R:CP->CP->Prop} (h:∀w,R w w) {P:Program} {a:Nat->CQ} {w:CP} {φ :CQ->CP->Prop} {d:Option Tmp} {l ty:TypeId} {pp:String} {e:Array Edge} {g:Option (Nat × Bool)} {i j:Nat} {x y:Operand} {b c v:CQ} (hx:bh a x=b) (hy:bh a y=c) (f:(FL ty #[(i,b),(j,c)]).run P w=.ok v w) (k: φ v w):
  eo R P w φ ((execOp (bh a) ⟨d,.build ty #[(i,x),(j,y)],l,pp,e,g⟩).run P w):=by
 unfold execOp;simp only[hx,hy,List.map_toArray,List.map_cons,List.map_nil,Sem.run_bind,Sem.run_pure,f,Result.andThen_ok];exact⟨h _,k⟩
def P0 (B X D:Nat) (cs:List CQ) (vr:CQ) (M:List (List Int)) (s:bS) (g o:Nat) (y:List Int) (w:CP):Prop:=C0 (aj .u8) 32 jL B X D 2 cs vr M s w/\w.rangeAt g o (aj .u8 y)
theorem P0.r {cs:List CQ} {a:CQ} {M:List (List Int)} {s:bS} {g:Nat} {w:CP} (h:P0 B X D cs a M s g o y w):w.rangeAt g o (aj .u8 y):=h.2
theorem P0.c {cs:List CQ} {a:CQ} {M:List (List Int)} {s:bS} {g:Nat} {w:CP} (h:P0 B X D cs a M s g o y w):C0 (aj .u8) 32 jL B X D 2 cs a M s w:=h.1
theorem wR {s:bS} (h:(eh 32 s).1=[]):kG s=([],(eh 32 s).2):=by unfold kG;rw[if_pos h]
theorem wS {s:bS} (h:(eh 32 s).1≠[]):kG s=([(eh 32 s).1],(eh 32 s).2):=by unfold kG;rw[if_neg h]
theorem xD {s:bS} (h:(eh n s).1≠[]):(eh n s).1.length=n:=by
 unfold eh at h⊢;split
 ·next h2=>simp only[Da];omega
 ·next h2=>rw[if_neg h2]at h;exact absurd rfl h
theorem sJ (l:List CQ):(Value.agg l.toArray).cells=l.toArray:=rfl
structure JS (z:List CQ) (X W:Nat) (s s1 s2:bS) (p:Int) (st:List Int) (d:Nat->Bool) (u:Nat->CQ) (w:CP):Prop where
 le:W<=w.heap.size
 hX:X < W
 a:d 1=false->ch w X s
 b:d 1=true->u 5=.int .i64 p
 c:d 1=true->d 3=false->ch w X s1
 e:d 3=true->ch w X s2/\dD w (u 7) st/\∀k,(u 7).ownBlock=some k->W<=k/\k < w.heap.size
 f:d 5=true->∃D,u 3=.pointer (some ⟨D,0,none⟩)/\aw w D z/\W<=D/\(d 3=true->(u 7).ownBlock≠some D)
 g:d 4=true->d 3=true/\u 8=.agg #[.int .i64 p,u 7,.slice none 0 0]
section
variable {z:List CQ} {X W:Nat} {s s1 s2:bS} {p:Int} {st:List Int} {d:Nat->Bool} {u:Nat->CQ} {w w':CP}
theorem JS.start (h:ch w X s) (hw:W<=w.heap.size) (a:X < W):JS z X W s s1 s2 p st (fun _=>false) u w:=⟨hw,a,fun _=>h,fun q=>(by cases q),fun q=>(by cases q),fun q=>(by cases q),fun q=>(by cases q),fun q=>(by cases q)⟩
theorem JS.same {i t:Nat} {v:CQ} (h:JS z X W s s1 s2 p st d u w) (l:(decide (i=1)||decide (i=3)||decide (i=4)||decide (i=5)||decide (t=5)||decide (t=7)||decide (t=3)||decide (t=8))=false):JS z X W s s1 s2 p st (bW d i) (bH (some t) u v) w:=by
 simp only[Bool.or_eq_false_iff,decide_eq_false_iff_not]at l;obtain⟨⟨⟨⟨⟨⟨⟨h1,h2⟩,q⟩,r⟩,x⟩,y⟩,A⟩,B⟩:=l;have j:bW d i 1=d 1:=if_neg (fun e=>h1 e.symm);have a3:bW d i 3=d 3:=if_neg (fun e=>h2 e.symm);have a4:bW d i 4=d 4:=if_neg (fun e=>q e.symm);have a5:bW d i 5=d 5:=if_neg (fun e=>r e.symm);have n:bH (some t) u v 5=u 5:=if_neg (fun e=>x e.symm);have k:bH (some t) u v 7=u 7:=if_neg (fun e=>y e.symm);have m:bH (some t) u v 3=u 3:=if_neg (fun e=>A e.symm);have o:bH (some t) u v 8=u 8:=if_neg (fun e=>B e.symm);exact⟨h.le,h.hX,by rw[j];exact h.a,by rw[j,n];exact h.b,by rw[j,a3];exact h.c,by rw[a3,k];exact h.e,by rw[a5,m,a3,k];exact h.f,by rw[a4,a3,o,k];exact h.g⟩
theorem JS.num (h:JS z X W s s1 s2 p st d u w) (b:d 3=false) (c:d 4=false) (j:ch w' X s1) (a:Kq (fun k=>k=X) w w'):JS z X W s s1 s2 p st (bW d 1) (bH (some 5) u (.int .i64 p)) w':=by
 refine⟨Dk h.le a.size,h.hX,fun q=>(by cases q),fun _=>rfl,fun _ _=>j,fun q=> ?_,fun q=> ?_,fun q=> ?_⟩
 ·have:d 3=true:=q;rw[b]at this;cases this
 ·obtain⟨D,h1,h2,g,i⟩:=h.f q;exact⟨D,h1,a.box (fun e=>by have:=h.hX;omega) h2,g,i⟩
 ·have:d 4=true:=q;rw[c]at this;cases this
theorem JS.take {v:CQ} (h:JS z X W s s1 s2 p st d u w) (m:d 4=false) (n:ch w' X s2) (o:dD w' v st) (a:∀k,v.ownBlock=some k->w.heap.size<=k/\k < w'.heap.size) (g:Kq (fun k=>k=X) w w') (h1:d 1=true):JS z X W s s1 s2 p st (bW d 3) (bH (some 7) u v) w':=by
 refine⟨Dk h.le g.size,h.hX,fun q=> ?_,h.b,fun _ q=>(by cases q),fun _=>⟨n,o,fun k i=>⟨Dk h.le (a k i).1,(a k i).2⟩⟩,fun q=> ?_,fun q=> ?_⟩
 ·have:d 1=false:=q;rw[h1]at this;cases this
 ·obtain⟨D,j,c,l,r⟩:=h.f q;exact⟨D,j,g.box (fun e=>by have:=h.hX;omega) c,l,fun _ q=>by have:=(a D q).1;have:=c.lt;omega⟩
 ·have:d 4=true:=q;rw[m]at this;cases this
theorem JS.BS (h:JS z X W s s1 s2 p st d u w) (g:d 3=true) {v:CQ} (i:v=.agg #[.int .i64 p,u 7,.slice none 0 0]):JS z X W s s1 s2 p st (bW d 4) (bH (some 8) u v) w:=
 ⟨h.le,h.hX,h.a,h.b,h.c,h.e,h.f,fun _=>⟨g,i⟩⟩
theorem JS.make (h:JS z X W s s1 s2 p st d u w) (e:TypeId) (n:z≠[]):JS z X W s s1 s2 p st (bW d 5) (bH (some 3) u (.pointer (some ⟨w.heap.size,0,none⟩))) (w.alloc (.cells z.toArray e)):=by
 have f:=ae w (.cells z.toArray e);have t:w.heap.size < (w.alloc (.cells z.toArray e)).heap.size:=by rw[C4];omega
 refine⟨Dk h.le f.size,h.hX,fun q=>(h.a q).ext f,h.b,fun q o=>(h.c q o).ext f,fun q=> ?_,fun _=>⟨w.heap.size,rfl,aw.box w e n,h.le,fun q r=> ?_⟩,h.g⟩
 ·obtain⟨l,m,i⟩:=h.e q;exact⟨l.ext f,m.ext f,fun k j=>⟨(i k j).1,by have:=(i k j).2;omega⟩⟩
 ·have:=((h.e q).2.2 _ r).2;omega
end
theorem sK (X D O B:Nat) (x:bS) (cs:List CQ) (i:CQ) (M:List (List Int)) (w:CP) (hC:C0 (aj .u8) 32 jL B X D 2 (cs.set 2 i) i M x w) (h1:w.cell? ⟨O,0,none⟩=some (.pointer (some ⟨X,0,none⟩))) (aA:X < D) (hY:D < B) (_:O < B/\O≠X) (hM:M.length<=100000):
  CZ CO 153 #[.pointer (some ⟨O,0,none⟩),.pointer (some ⟨D,0,none⟩)] w fun e w'=>e=.returned (.tuple #[])/\(∃I,GP (aj .u8) 32 jL B w' D 2 (cs.set 2 I) I (M++(kG x).1))/\ch w' X (kG x).2/\Kq (fun k=>k=X\/k=D\/B<=k) w w':=by
 have K:=aa (iH X 32 x w hC.1 (by decide) (by decide));have V:=aa hC;have A:Hid (X < B/\¬(X=D)/\¬(B<=D)/\¬(D=X)):=aa (by omega);have Hm:Hid (M.length+1<=Dc/\(M.length+1)*32<=140737488355328):=aa (by unfold Dc;omega);have an:=aa (gS (n:=32) hC.1.BJ).1;have ay:B<=w.heap.size:=hC.2.2;clear hC;by_cases hy:(eh 32 x).1=[]
 ·rw[wR hy];have Hy:=aa hy;clear hy;go_enter Tryz.func153,Tryz.ntmps153
  go_wp2_with fail
  refine K.mono ?_;rintro e T ⟨I,rfl,_,_,l,t,H⟩;obtain rfl:=H Hy;have Z:=aa l;have J:=aa t;clear l t H
  go_wp2_with fail
  go_end0
  refine⟨rfl,⟨i,?_⟩,Z,J.mono fun k _ G=>.inl G⟩;rw[DV];exact V.2.1.kept cD J A.2.2.2 (fun b E q=>by have:=A.1;omega)
 ·rw[wS hy];have S:=xD hy;obtain⟨y,al⟩:=exq ((eh 32 x).1);obtain⟨s2,ak⟩:=exq ((eh 32 x).2);rw[<-al]at K S an⊢;rw[<-ak]at K⊢;have L:=aa S;clear hy al ak S;go_enter Tryz.func153,Tryz.ntmps153
  go_wp2_with fail
  refine K.mono ?_;rintro e T ⟨I,rfl,⟨p,c,R,ah⟩,H,l,t,_⟩;obtain⟨g,o,c2,F,_,aB,aC,ai,_⟩:=Bu.pos ah (by rw[L.out];decide);rw[L.out]at R F;rw[R]at F;injection F with F _ aD;subst F aD R;have hg:=H g rfl;have Z:=aa l;have J:=aa t;have ap:=aa ai;have W:Hid (C0 (aj .u8) 32 jL B X D 2 (cs.set 2 i) i M s2 T):=aa ⟨l,V.2.1.kept cD t A.2.2.2 (fun b E q=>by have:=A.1;omega),Dk ay t.size⟩;have ad:=W.2.1.cell;have Hq:Hid (∀U,Kq (fun k=>k=X\/B<=k) T U->U.cell? ⟨D,2,none⟩=some i):=aa fun U h=>h.cell (by have:=A.out;omega) ad
  unfold Dc at aB;clear ah H l t ai ad hg aC
  go_wp2_with fail
  apply az (Kq (fun k=>k=X\/B<=k)) (jk 4 5 6 11 12 13 (P0 B X D (cs.set 2 i) i M s2 g o y) (C1 (aj .u8) 32 jL B X D 2 (cs.set 2 i) i M (fun z=>z=y) s2) (C2 (aj .u8) 32 jL B X D 2 (cs.set 2 i) i M (fun z=>z=y) s2) (C3 (aj .u8) 32 jL B X D 2 (cs.set 2 i) i M (fun z=>z=y) s2)) 8 [7,8,9,10,11,12,13,14] [ar _,ar _,ar _,ar _,cR,cR,cR,ar _] (fun w=>Kq.refl w) (fun a b c h k=>Kq.trans h k) (by kernel_rfl) (by kernel_rfl) (by kernel_rfl) (by kernel_rfl);case hsteps=>
   refine⟨?_,?_,?_,?_,?_,?_,?_,?_,trivial⟩;all_goals
    intro d ev w1 N j m C s E f;replace m:=aa m;replace j:=aa j;replace C:=aa C;replace s:=aa s;have e1:=E 1 (by decide);have e2:=E 2 (by decide);clear E;simp only[sB]at e1 e2;simp only[sG]at f;have c7:=Hq _ N;rw[if_pos (rfl:C8 _ _=true)];first
    | ((with_reducible refine jc (v:=.agg (aj .u8 y).toArray) (fun w=>Kq.refl w) ?_ (aZ (P:=CO) (ty:=54) (j.out.a s.out).r Tryz.underlying54 (by kernel_rfl) L.out) ?_);exact(by first | ((repeat(first | exact f | exact f.2 | replace f:=f.1));done) | ((repeat(first | exact f | exact f.1 | replace f:=f.2));first | done | fail));exact⟨trivial,jk.call (by decide) (C 5 (by kernel_rfl)) (C 6 (by kernel_rfl)) (C0.c1 (y:=y) (Q:=fun _=>False) cD (j.a s).c (Kq.refl _) (fun q=>q) (fun _ _ q=>q) (j.a s).c.1 rfl (sJ _) (by rw[ints_length,L.out]) (aE _ _) trivial)⟩) | ((with_reducible refine dx (v:=ev 11) kb (by decide) ?_ (j.out.b (m.out 4 (by kernel_rfl)) s.out).size ?_);rfl;exact⟨Kq.AI (ae _ _),trivial,jk.BS (by decide) (m 4 (by kernel_rfl)) (C 6 (by kernel_rfl)) ((j.b (m 4 (by kernel_rfl)) s).c2 cD _)⟩) | ((with_reducible refine jR kb cD A.out.1 aA (j.out.c (m.out 5 (by kernel_rfl)) s.out) ?_ ?_ Hm.out.1 Hm.out.2 ?_);rfl;exact(by first | ((repeat(first | exact f | exact f.2 | replace f:=f.1));done) | ((repeat(first | exact f | exact f.1 | replace f:=f.2));first | done | fail));exact fun I w' k1 k2=>⟨k1,trivial,jk.app (by decide) (m 4 (by kernel_rfl)) (m 5 (by kernel_rfl)) k2⟩)
    | (go_simp;first | exact⟨Kq.refl _,rfl,j.same (by decide)⟩ | exact⟨CT _ _,rfl,HJ.same (by decide) j⟩)
  case hmono=>exact mR
  case hR0=>exact Kq.drew _
  case hend=>
   intro u w1 N hJ hend;simp only[sE]at hend;simp only[sF,hend];obtain⟨y',p9,c9,hu,hp,aO,aP,hG,l⟩:=hJ.d rfl;subst hp;have Y:=aa hG;have ab:=aa l;have am:=aa N;rw[hu]at Y ab;simp only[hu];clear hG l N hend hJ hu
   go_wp2_with fail
   go_end0
   refine⟨rfl,⟨.slice p9 (M.length+1) c9,?_⟩,ab,((J.mono fun k _ G=>.inl G).trans (am.mono fun k _ G=>G.imp id .inr)).setCell ⟨D,2,none⟩ (.inr (.inl rfl)) _⟩;have h:=Y.out;rw[List.set_set]at h;exact h
  case hJ0=>exact jk.start (by have h:=W.out;exact⟨⟨h.1.kept (Q:=fun _=>False) (Kq.drew _) (fun _ _ q=>q),h.2.1.kept (Q:=fun _=>False) cD (Kq.drew _) (fun q=>q) (fun _ _ q=>q),h.2.2⟩,ap⟩)
theorem qz (p:Int) (q:Option Addr) (n c:Nat) (w:CP):(FL 57 #[(0,.int .i64 p),(1,.slice q n c)]).run CO w=.ok (.agg #[.int .i64 p,.slice q n c,.slice none 0 0]) w:=run_build w _ _ _ (by kernel_rfl)
theorem oD (X:Nat) (s:bS) (w:CP) (h:ch w X s):
  CZ CO 141 #[.pointer (some ⟨X,0,none⟩)] w fun e w'=>∃y:Sv,e=.returned (.agg (cS y).toArray)/\cC y=(oq s).1/\fD (fun b=>w.heap.size<=b) w' y/\ch w' X (oq s).2/\Kq (fun k=>k=X) w w':=by
 have hX:=h.lt;have bi:=ae w (.cells #[.pointer (some ⟨X,0,none⟩)] 155);have aA:=bi.trans (ae _ (.cells eS 57));have aX:(w.alloc (.cells #[.pointer (some ⟨X,0,none⟩)] 155)).heap.size=w.heap.size+1:=C4 _ _;obtain⟨A,Z⟩:=exq ((w.alloc (.cells #[.pointer (some ⟨X,0,none⟩)] 155)).alloc (.cells eS 57));have bw:A.heap.size=w.heap.size+1+1:=by rw[Z,C4,aX]
 have bs:A.cell? ⟨w.heap.size,0,none⟩=some (.pointer (some ⟨X,0,none⟩)):=by
  rw[Z];have h0:(w.alloc (.cells #[.pointer (some ⟨X,0,none⟩)] 155)).cell? ⟨w.heap.size,0,none⟩=some (.pointer (some ⟨X,0,none⟩)):=by rw[World.cell?_alloc_new];rfl
  exact((ay (ae _ _)).1 _ _ (World.block_lt_of_cell? _ _ h0)).trans h0
 have bf:aw A (w.heap.size+1) eS.toList:=by rw[Z];have h0:=aw.box (w.alloc (.cells #[.pointer (some ⟨X,0,none⟩)] 155)) 57 (cs:=eS.toList) (fun q=>by cases q);rw[aX]at h0;exact h0
 rw[<-Z]at aA;have bF:=aa aA;have bC:=aa bf;have bG:=aa (h.ext aA);have F:=aa bw;have J:Hid (X < w.heap.size/\X < A.heap.size):=aa (by omega);have Hq:Hid (∀j,Kq (fun k=>k=X) A j->j.cell? ⟨w.heap.size,0,none⟩=some (.pointer (some ⟨X,0,none⟩))):=aa fun j t=>t.cell (fun q=>by omega) bs
 have aK:Hid (∀j,ch j X s->CZ CO 94 #[.pointer (some ⟨X,0,none⟩),.int .i64 2] j fun e w'=>e=.returned (.int .i64 (aW 2 s).1)/\ch w' X (aW 2 s).2/\Kq (fun k=>k=X) j w'):=aa fun j hr=>cj X 2 s j hr (by decide) (by decide)
 have hT:oq s=oq s:=rfl;unfold oq at hT⊢;clear hT;have bb:=aa (gS (n:=2) (s:=s) h.BJ).2;obtain⟨p,hp⟩:=exq ((aW 2 s).1);obtain⟨s1,aF⟩:=exq ((aW 2 s).2);rw[<-hp,<-aF]at aK;simp only[<-hp,<-aF];have bL:Hid (bI s1.2):=aa (by rw[aF];exact bb);have aL:Hid (∀j,ch j X s1->CZ CO 136 #[.pointer (some ⟨X,0,none⟩),.int .i64 16] j fun e w'=>∃U,e=.returned U/\dD w' U (eh 16 s1).1/\(∀k,U.ownBlock=some k->j.heap.size<=k/\k < w'.heap.size)/\ch w' X (eh 16 s1).2/\Kq (fun k=>k=X) j w'):=aa fun j hr=>(iH X 16 s1 j hr (by decide) (by decide)).mono fun _ _ ⟨U,g0,g1,g2,g3,g4,_⟩=>⟨U,g0,g1,g2,g3,g4⟩
 have aM:=aa (gS (n:=16) (s:=s1) bL);obtain⟨st,a2⟩:=exq ((eh 16 s1).1);obtain⟨s2,aZ⟩:=exq ((eh 16 s1).2);rw[<-a2,<-aZ]at aL aM;simp only[<-a2,<-aZ];have ap:Hid (∀j,ch j X s2->CZ CO 94 #[.pointer (some ⟨X,0,none⟩),.int .i64 1] j fun e w'=>e=.returned (.int .i64 (aW 1 s2).1)/\ch w' X (aW 1 s2).2/\Kq (fun k=>k=X) j w'):=aa fun j hr=>cj X 1 s2 j hr (by decide) (by decide)
 have hn:=qh (s:=s2) aM.2;obtain⟨cI,aR⟩:=exq ((aW 1 s2).1);obtain⟨s3,a0⟩:=exq ((aW 1 s2).2);rw[<-aR]at hn ap;rw[<-a0]at ap;simp only[<-aR,<-a0];obtain⟨n,rfl⟩:=Int.eq_ofNat_of_zero_le hn.1;rw[Int.toNat_natCast];have Hn:Hid (n<=255):=aa (by omega);obtain⟨ds,aT⟩:=exq ((du kG n s3).1);obtain⟨s4,a1⟩:=exq ((du kG n s3).2);simp only[<-aT,<-a1];have bc:=aa (Dj aT a1);clear h hX bi aA aX bs bf bw hp aF a2 aZ aR a0 aT a1 hn bb;go_enter Tryz.func141,Tryz.ntmps141
 go_wp2_with fail
 rw[<-Z];clear Z;apply az (Kq (fun k=>k=X)) (JS eS.toList X A.heap.size s s1 s2 p st) 6 [4,5,6,7,8,3] [ar _,cR,ar _,cR,cR,cR] (fun w=>Kq.refl w) (fun a b c h k=>Kq.trans h k) (by kernel_rfl) (by kernel_rfl) (by kernel_rfl) (by kernel_rfl);case hsteps=>
  refine⟨?_,?_,?_,?_,?_,?_,trivial⟩;all_goals
   intro d ev x K m H L N l hd;replace H:=aa H;replace m:=aa m;replace L:=aa L;replace N:=aa N;have e1:=l 1 (by decide);clear l;simp only[sB]at e1;simp only[sG]at hd;have c0:=Hq _ K;rw[if_pos (rfl:C8 _ _=true)];first
   | (obtain⟨_,⟨r,o,a4,_⟩,_⟩:=m.e (H 3 (by kernel_rfl));have bo:=qz p r st.length o x;rw[<-a4]at bo;(with_reducible refine qy (fun w=>Kq.refl w) ?_ ?_ bo ?_);exact m.b (H 1 (by kernel_rfl));rfl;exact⟨trivial,m.BS (H 3 (by kernel_rfl)) rfl⟩)
   | (go_simp;first | exact⟨Kq.refl _,rfl,m.same (by decide)⟩ | (go_at_call 94;(with_reducible refine(aK.out x (m.out.a N.out)).mono ?_);rintro e j ⟨rfl,k1,k2⟩;exact⟨_,rfl,k2,trivial,m.num (L 3 (by kernel_rfl)) (L 4 (by kernel_rfl)) k1 k2⟩) | (go_at_call 136;(with_reducible refine(aL.out x (m.out.c (H.out 1 (by kernel_rfl)) N.out)).mono ?_);rintro e j ⟨v9,rfl,k1,k2,k3,k4⟩;exact⟨_,rfl,k4,trivial,m.take (L 4 (by kernel_rfl)) k3 k1 k2 k4 (H 1 (by kernel_rfl))⟩) | exact⟨Kq.AI (ae _ _),trivial,m.make _ (fun q=>by cases q)⟩ | exact⟨Kq.AI (ae _ _),m.make _ (fun q=>by cases q)⟩ | exact⟨CT _ _,rfl,HJ.same (by decide) m⟩)
 case hmono=>exact mR
 case hR0=>exact Kq.drew _
 case hend=>
  intro u x K T hend;simp only[sE]at hend;simp only[sF,hend];obtain⟨D,bg,av,bh,ag⟩:=T.f rfl;obtain⟨bj,bk,aD⟩:=T.e rfl;obtain⟨_,a3⟩:=T.g rfl;have ag:=ag rfl;obtain⟨b2,a5⟩:=exq (u 7);rw[<-a5]at bk aD ag a3;rw[bg,a3];simp only[<-a5];obtain⟨r,o,a4,bv⟩:=bk;have ba:Hid (aY (fun b=>A.heap.size<=b/\b≠D/\b < x.heap.size) x b2 st.length (aj .u8 st)):=aa (aY.By bv fun b l _=>⟨(aD b l).1,fun e=>ag (by rw[l,e]),(aD b l).2⟩);subst a4;have a8:=aa bj;have aI:=aa K;have E:Hid (A.heap.size<=D/\D < x.heap.size/\X < D):=aa ⟨bh,av.lt,by have:=J.2;omega⟩;have ai:∀c∈([.int .i64 p,.slice r st.length o,.slice none 0 0]:List CQ),c.oneCell'=true:=eK ⟨_,_,_,rfl⟩ iF;have be:=aa (av.store (P:=CO) (cs':=[.int .i64 p,.slice r st.length o,.slice none 0 0]) rfl ai (ty:=57) (by kernel_rfl));have aH:=aa (av.set (cs':=[.int .i64 p,.slice r st.length o,.slice none 0 0]) rfl);have Y:Hid (Kq (fun k=>k=D) x (x.setCells D 0 [.int .i64 p,.slice r st.length o,.slice none 0 0])):=aa ((Kq.refl x).setCells (Q:=fun k=>k=D) rfl 0 _);clear K T hend bg av bh ag bj aD a3 a5 bv ai
  go_wp2_with (with_reducible refine aC (ty:=57) ?_)
  refine ax ?_;refine ak rfl rfl be ?_;obtain⟨G,bm⟩:=exq (x.setCells D 0 [.int .i64 p,.slice r st.length o,.slice none 0 0]);rw[<-bm]at aH Y⊢;have bH:Hid (ch G X s2):=aa (a8.kept Y fun i C q=>by have:=E.2.2;omega);have bJ:Hid (aY (fun b=>A.heap.size<=b/\b≠D/\b < G.heap.size) G (.slice r st.length o) st.length (aj .u8 st)):=aa (ba.kept fun b l hl=>⟨⟨l.1,l.2.1,Dd l.2.2 Y.size⟩,Y.block b hl l.2.1⟩);have a7:Hid (Kq (fun k=>k=X\/A.heap.size<=k) A G):=aa ((aI.mono fun k _ t=>.inl t).trans (Y.mono fun k _ t=>.inr (by have:=E.1;omega)));have R:Hid (D < G.heap.size):=aa aH.lt;have bD:Hid (aw G (w.heap.size+1) eS.toList):=aa (a7.box (by have:=F.out;have:=J.1;omega) bC);have bt:G.cell? ⟨w.heap.size,0,none⟩=some (.pointer (some ⟨X,0,none⟩)):=Y.cell (by have:=F.out;have:=E.1;omega) (Hq _ aI);have aO:Hid (∀j,Kq (fun k=>k=X) G j->j.cell? ⟨w.heap.size,0,none⟩=some (.pointer (some ⟨X,0,none⟩))):=aa fun j t=>t.cell (fun q=>by have:=J.1;omega) bt
  clear bm be ba a8 aI Hq
  go_wp2_with fail
  apply az (Kq (fun k=>k=X)) (HJ 2 (fun w'=>ch w' X s2) (fun w'=>ch w' X s3)) 4 [9,10,11,12] [ar _,ar _,ar _,ar _] (fun w=>Kq.refl w) (fun a b c h k=>Kq.trans h k) (by kernel_rfl) (by kernel_rfl) (by kernel_rfl) (by kernel_rfl);case hsteps=>
   refine⟨?_,?_,?_,?_,trivial⟩;all_goals
    intro d ev x K m H L N l hd;replace H:=aa H;replace m:=aa m;replace L:=aa L;replace N:=aa N;have e1:=l 1 (by decide);have e3:=l 3 (by decide);clear l;simp only[sB]at e1 e3;simp only[sG]at hd;have c0:=aO _ K;rw[if_pos (rfl:C8 _ _=true)];go_simp;first | exact⟨Kq.refl _,rfl,HJ.same (by decide) m⟩ | (go_at_call 94;(with_reducible refine(ap.out x (HJ.get m.out N.out)).mono ?_);rintro e j ⟨rfl,k1,k2⟩;exact⟨_,rfl,k2,rfl,HJ.set k1⟩) | exact⟨CT _ _,rfl,HJ.same (by decide) m⟩
  case hmono=>exact mR
  case hR0=>exact Kq.drew _
  case hend=>
   intro u x K T hend;simp only[sE]at hend;simp only[sF,hend];have a9:=aa (HJ.B5 T rfl);have ad:=aa K;obtain⟨W3,bn⟩:=exq x;rw[<-bn]at a9 ad⊢;clear K T hend bn;obtain⟨B,hB⟩:=exq W3.heap.size;have HB:=aa hB;have V:Hid (G.heap.size<=B):=aa (by rw[hB];exact ad.size);have bB:Hid (aw W3 D [.int .i64 p,.slice r st.length o,.slice none 0 0]):=aa (ad.box (by have:=E.2.2;omega) aH);have bu:=aO _ ad;obtain⟨au,aE⟩:∃au:List CQ,au=[.int .i64 p,.slice r st.length o,.slice none 0 0]:=⟨_,rfl⟩;obtain⟨I,hI⟩:∃I:Nat->bS->CP->Prop,I=fun k z wr=>∃v M,GP (aj .u8) 32 jL B wr D 2 (au.set 2 v) v M/\ch wr X z/\M++(du kG (n - k) z).1=ds/\(du kG (n - k) z).2=s4/\M.length<=k/\dd M/\Kq (fun i=>i=X\/i=D\/B<=i) W3 wr:=⟨_,rfl⟩
   have W:=aa hI
   have a6:=aa (sI I X w.heap.size D n (fun k z wr C=>by
     rw[W.out]at C;obtain⟨v,M,_,h2,_⟩:=C
     exact h2) (by have:=Hn.out;omega) (fun k z wr t bW C=>by
     rw[W.out]at C;obtain⟨v,M,g1,g2,g3,g4,g5,g6,g7⟩:=C;have e1:=jT kG n k z t bW;rw[e1]at g3 g4;refine(sK X D w.heap.size B z au v M wr ⟨g2,g1,by have:=g7.size;rw[HB.out];exact this⟩ (g7.cell (by have:=J.1;have:=F.out;have:=E.1;have:=V.out;have:=R.out;omega) bu) E.2.2 (by have:=V.out;have:=R.out;omega) (by have:=J.1;have:=F.out;have:=E.1;have:=V.out;have:=R.out;omega) (by have:=Hn.out;omega)).mono ?_;rintro e w' ⟨rfl,⟨U,r1⟩,r2,r3⟩;refine⟨rfl,(kG z).2,?_⟩;rw[W.out];refine⟨U,_,r1,r2,?_,g4,?_,?_,g7.trans r3⟩
     ·rw[DH];exact g3
     ·have:(kG z).1.length<=1:=by unfold kG;split<;>simp
      rw[C7];omega
     ·refine g6.append ?_;unfold kG;split
      ·exact dd.nil
      ·next hne=>exact dd.one (xD hne) (gS g2.BJ).1) s3 W3 (by
     rw[W.out]
     exact⟨_,[],GP.start (by rw[aE];exact bB) (by rw[aE];rfl),a9,by rw[List.nil_append];exact bc.1.symm,bc.2.symm,C9 _,dd.nil,Kq.refl _⟩))
   have bM:=aa aE;clear hI hB bt bu aE aO aK ap aL
   go_wp2_with fail
   refine a6.mono ?_;rintro e O ⟨rfl,k,z,t,C,bq⟩;rw[W.out]at C;obtain⟨vp,M,g1,g2,g3,g4,g5,g6,g7⟩:=C;have aU:(du kG (n - k) z)=([],z):=by
    rcases bq with rfl | hs
    ·rw[Nat.sub_self];rfl
    ·exact jS _ _ _ hs
   rw[aU,DV]at g3;rw[aU]at g4;have g4:z=s4:=g4;subst g3 g4;rw[bM.out]at g1;obtain⟨pp,S,bX⟩:=g1.form;have bp:aw O D [.int .i64 p,.slice r st.length o,vp]:=g1.box;have br:=g1.own;subst bX;have bN:=aa (bp.load (P:=CO) Er rfl (by kernel_rfl))
   have aJ:Hid (Kq (fun i=>i=X\/G.heap.size<=i\/i=D) G O):=aa ((ad.mono fun _ _ h=>.inl h).trans (g7.mono fun i _ C=>by
    rcases C with h | h | h
    ·exact .inl h
    ·exact .inr (.inr h)
    ·exact .inr (.inl (by have:=V.out;omega))))
   have aQ:aw O (w.heap.size+1) eS.toList:=aJ.box (by have:=F.out;have:=J.1;have:=E.1;have:=R.out;omega) bD;have ai:∀c∈([.int .i64 p,.slice r st.length o,.slice pp M.length S]:List CQ),c.oneCell'=true:=eK ⟨_,_,_,rfl⟩ ⟨_,_,_,rfl⟩;have bO:=aa (aQ.store (P:=CO) (cs':=[.int .i64 p,.slice r st.length o,.slice pp M.length S]) rfl ai (ty:=57) (by kernel_rfl));have bE:=aa (aQ.set (cs':=[.int .i64 p,.slice r st.length o,.slice pp M.length S]) rfl);have an:Hid (Kq (fun i=>i=w.heap.size+1) O (O.setCells (w.heap.size+1) 0 [.int .i64 p,.slice r st.length o,.slice pp M.length S])):=aa ((Kq.refl O).setCells (Q:=fun i=>i=w.heap.size+1) rfl 0 _);have HG:=aa (Dj g2 (Dj g6 br));have bK:Hid (aY (fun b=>A.heap.size<=b) O (.slice r st.length o) st.length (aj .u8 st)):=aa (bJ.kept fun b l hl=>⟨l.1,aJ.block b hl (by have:=J.2;omega)⟩);clear g1 g2 g4 g5 g6 g7 aU bq bp br aQ ai t W a6
   go_wp2_with first | refine ao rfl bN ?_ | refine ak rfl rfl bO ?_
   refine bodyPost_ret (v:=.agg ([.int .i64 p,.slice r st.length o,.slice pp M.length S]:List CQ).toArray) (aB rfl rfl (bE.loadVar (P:=CO) Er rfl (by kernel_rfl))) rfl ⟨(p,(.slice r st.length o,st),.slice pp M.length S,M),rfl,rfl,⟨?_,aM.1,?_,HG.2.1⟩,HG.1.kept an (fun i C q=>by have:=J.1;omega),?_⟩
   ·exact bK.kept fun b l hl=>⟨by have:=F.out;omega,an.block b hl (by have:=F.out;omega)⟩
   ·exact aY.By (an.BD HG.2.2.BD fun k t q=>by have:=(HG.2.2.block k t).1;have:=V.out;have:=R.out;have:=E.1;have:=F.out;omega) fun b l _=>by have:=(HG.2.2.block b l).1;have:=V.out;have:=R.out;have:=E.1;have:=F.out;omega
   ·have hA:Kq (fun k=>k=X\/w.heap.size<=k) w (O.setCells (w.heap.size+1) 0 [.int .i64 p,.slice r st.length o,.slice pp M.length S]):=(Kq.AI bF).trans ((a7.mono fun k _ t=>t.imp id fun h=>by have:=F.out;omega).trans ((aJ.mono fun k _ t=>by
     have h1:=R.out;have h2:=E.1;have h3:=F.out;rcases t with h | h | h
     ·exact .inl h
     ·exact .inr (by omega)
     ·exact .inr (by omega)).trans (an.mono fun k _ t=>.inr (by omega))))
    exact hA.mono fun k t q=>by
     rcases q with q | q
     ·exact q
     ·omega
  case hJ0=>exact HJ.start (bH.kept (Q:=fun _=>False) (Kq.drew _) (fun _ _ q=>q))
 case hJ0=>exact JS.start (bG.kept (Q:=fun _=>False) (Kq.drew _) (fun _ _ q=>q)) (CU _) J.2
theorem sL (X Y x z B:Nat) (g:bS) (cs:List CQ) (n:CQ) (M:List Sv) (w:CP) (hC:C0 cS 3 fD B X Y 4 cs n M g w) (h0:w.cell? ⟨x,0,none⟩=some (.pointer (some ⟨Y,0,none⟩))) (h1:w.cell? ⟨z,0,none⟩=some (.pointer (some ⟨X,0,none⟩))) (aj:X < Y) (hY:Y < B) (n0:x < B/\x≠X) (n1:z < B/\z≠X) (hM:M.length<=100000):
  CZ CO 140 #[.pointer (some ⟨x,0,none⟩),.pointer (some ⟨z,0,none⟩)] w fun e w'=>e=.returned (.tuple #[])/\∃s y,cC y=(oq g).1/\GP cS 3 fD B w' Y 4 (cs.set 4 s) s (M++[y])/\ch w' X (oq g).2/\Kq (fun k=>k=X\/k=Y\/B<=k) w w':=by
 obtain⟨o,R⟩:∃o:Sv->Prop,o=fun y=>cC y=(oq g).1:=⟨_,rfl⟩
 have J:=aa R;have hB:B<=w.heap.size:=hC.2.2;have E:Hid (X < B/\¬(X=Y)/\¬(B<=Y)/\¬(Y=X)):=aa (by omega);have Z:Hid (∀f,C0 cS 3 fD B X Y 4 cs n M g f->CZ CO 141 #[.pointer (some ⟨X,0,none⟩)] f fun e w'=>∃s,e=.returned s/\C1 cS 3 fD B X Y 4 cs n M o (oq g).2 s w'/\Kq (fun k=>k=X\/B<=k) f w'):=aa fun f U=>by refine(oD X g f U.1).mono ?_;rintro e w' ⟨y,rfl,g1,g2,g3,g4⟩;exact⟨_,rfl,U.c1 bD (y:=y) g4 E.2.2.2 (fun b A q=>by have:=E.1;omega) g3 (by rw[J.out];exact g1) rfl (bU y) (gM g2.ok) g2,g4.mono fun k _ F=>.inl F⟩
 have W:=aa hC;have T:=hC.2.1.cell;obtain⟨m,hm⟩:=exq M.length;have L:Hid (M.length+1<=Dc/\(M.length+1)*56<=140737488355328):=aa (by unfold Dc;omega);have Hq:Hid ((∀f,Kq (fun k=>k=X\/B<=k) w f->f.cell? ⟨x,0,none⟩=some (.pointer (some ⟨Y,0,none⟩))/\f.cell? ⟨z,0,none⟩=some (.pointer (some ⟨X,0,none⟩))/\f.cell? ⟨Y,4,none⟩=some n)):=aa fun f h=>⟨h.cell (by omega) h0,h.cell (by omega) h1,h.cell (by omega) T⟩
 clear R hC T hm hM n0 n1 hB;go_enter Tryz.func140,Tryz.ntmps140;apply az (Kq (fun k=>k=X\/B<=k)) (jk 6 7 8 8 9 10 (C0 cS 3 fD B X Y 4 cs n M g) (C1 cS 3 fD B X Y 4 cs n M o (oq g).2) (C2 cS 3 fD B X Y 4 cs n M o (oq g).2) (C3 cS 3 fD B X Y 4 cs n M o (oq g).2)) 11 [2,3,4,5,6,7,8,9,10,11,12] [ar _,ar _,ar _,ar _,ar _,ar _,cR,cR,cR,ar _,ar _] (fun w=>Kq.refl w) (fun a b c h k=>Kq.trans h k) (by kernel_rfl) (by kernel_rfl) (by kernel_rfl) (by kernel_rfl);case hsteps=>
  refine⟨?_,?_,?_,?_,?_,?_,?_,?_,?_,?_,?_,trivial⟩;all_goals
   intro d ev V C j l t r A i;replace l:=aa l;replace j:=aa j;replace t:=aa t;replace r:=aa r;have e0:=A 0 (by decide);have e1:=A 1 (by decide);clear A;simp only[sB]at e0 e1;simp only[sG]at i;have D:=Hq _ C;have c0:=D.1;have c1:=D.2.1;have c7:=D.2.2;clear D;rw[if_pos (rfl:C8 _ _=true)];first
   | ((with_reducible refine dx (v:=ev 8) wD (by decide) ?_ (j.out.b (l.out 6 (by kernel_rfl)) r.out).size ?_);rfl;exact⟨Kq.AI (ae _ _),trivial,jk.BS (by decide) (l 6 (by kernel_rfl)) (t 8 (by kernel_rfl)) ((j.b (l 6 (by kernel_rfl)) r).c2 bD _)⟩) | ((with_reducible refine jR wD bD E.out.1 aj (j.out.c (l.out 7 (by kernel_rfl)) r.out) ?_ ?_ L.out.1 L.out.2 ?_);rfl;exact(by first | ((repeat(first | exact i | exact i.2 | replace i:=i.1));done) | ((repeat(first | exact i | exact i.1 | replace i:=i.2));first | done | fail));exact fun s w' G H=>⟨G,trivial,jk.app (by decide) (l 6 (by kernel_rfl)) (l 7 (by kernel_rfl)) H⟩)
   | (go_simp;first | exact⟨Kq.refl _,rfl,j.same (by decide)⟩ | (go_at_call 141;(with_reducible refine(Z.out V (j.out.a r.out)).mono ?_);rintro e f ⟨v9,rfl,G,H⟩;exact⟨_,rfl,H,trivial,jk.call (by decide) (t 7 (by kernel_rfl)) (t 8 (by kernel_rfl)) G⟩) | exact⟨CT _ _,rfl,HJ.same (by decide) j⟩)
 case hmono=>exact mR
 case hR0=>exact Kq.drew _
 case hend=>
  intro u V C P hend;simp only[sE]at hend;simp only[sF,hend];obtain⟨y,p,c,hu,hp,ap,aq,O,S⟩:=P.d rfl;have I:=aa O;have K:=aa S;have HK:=aa C;have N:=aa hp;rw[hu]at I K;simp only[hu];clear O S C hend P hu hp
  go_wp2_with fail
  go_end0
  rw[J.out]at N;exact⟨rfl,_,y,N,I,K,(HK.mono fun k _ F=>F.imp id .inr).setCell ⟨Y,4,none⟩ (.inr (.inl rfl)) _⟩
 case hJ0=>exact jk.start (by have h:=W.out;exact⟨h.1.kept (Q:=fun _=>False) (Kq.drew _) (fun _ _ q=>q),h.2.1.kept (Q:=fun _=>False) bD (Kq.drew _) (fun q=>q) (fun _ _ q=>q),h.2.2⟩)
theorem sM (I:Nat->bS->CP->Prop) (X g j n:Nat) (hI:∀k s w,I k s w->ch w X s) (x:n<=100000)
  (o:∀k s w,k < n->s.1=false->I k s w->CZ CO 140 #[.pointer (some ⟨g,0,none⟩),.pointer (some ⟨j,0,none⟩)] w fun e w'=>e=.returned (.tuple #[])/\∃d,I (k+1) d w') (s0:bS) (w:CP) (h:I 0 s0 w):
  CZ CO 137 #[.pointer (some ⟨X,0,none⟩),.int .i64 n,.func (.func 140) #[] #[.pointer (some ⟨g,0,none⟩),.pointer (some ⟨j,0,none⟩)]] w fun e w'=>e=.returned (.tuple #[])/\kY I n w':=by
 have r:=aa hI;have t:=aa o;have H:=aa h;clear hI o h;go_enter Tryz.func137,Tryz.ntmps137
 go_wp2_with fail
 go_loopw [6] (fun i wr=>∃(k:Nat) (s:bS),k<=n/\i=.int .i64 k/\Hid (I k s wr)) (fun i _=>n - (intOf i).toNat);case atStart=>exact⟨0,s0,C9 _,rfl,H⟩
 case round=>
  obtain⟨k,s,u,rfl,a⟩:=hrel;obtain⟨p,c,l,_⟩:=(r k s wr a).ex;have q:=l.cell (i:=1) rfl;clear l;obtain⟨sh,b⟩:=exq s.1;rw[<-b]at q;have f:=aa b;clear b;by_cases m:k < n
  ·have v:(k:Int) < (n:Int):=by omega
   cases sh
   ·go_wp2_with fail
    refine(t k s wr m f.symm a).mono ?_;rintro e y ⟨rfl,d,h2⟩;have H2:=aa h2;clear h2 q
    go_wp2_with fail
    go_roundw;case rel=>exact⟨k+1,d,by omega,by go_num,H2⟩
    case measure=>simp[intOf];omega
   ·go_wp2_with fail
    go_end0
    exact⟨rfl,⟨k,s,u,a,.inr f.symm⟩⟩
  ·obtain rfl:k=n:=by omega
   clear m;have v:¬((k:Int) < (k:Int)):=by omega
   go_wp2_with fail
   go_end0
   exact⟨rfl,⟨k,s,CU _,a,.inl rfl⟩⟩
theorem fy (M:List Bv):aD cB M=M.map (·.1):=by
 unfold aD cB;induction M with
 | nil=>rfl
 | cons x r ih=>rw[List.flatMap_cons,ih];rfl
structure cn (F:Nat->Prop) (w:CP) (l:BC) (vp vs vb:CQ) (L:List Sv):Prop where
 pl:aY F w vp l.places.length (aj .i64 l.places)
 sh:aY F w vs L.length (aD cS L)
 so:∀x∈L,fD F w x
 sl:L.map cC=l.shown
 bl:∃M:List Bv,aY F w vb M.length (aD cB M)/\(∀y∈M,ju F w y)/\M.map (·.2)=l.blocks
theorem cn.kept {F F':Nat->Prop} {w w':CP} {l:BC} {vp vs vb:CQ} {L:List Sv} (h:cn F w l vp vs vb L) (a:∀b,F b->b < w.heap.size->F' b/\w'.heap[b]? =w.heap[b]?):cn F' w' l vp vs vb L:=by
 obtain⟨M,h1,h2,c⟩:=h.bl;exact⟨h.pl.kept a,h.sh.kept a,fun x hx=>bD _ _ _ _ _ (h.so x hx) a,h.sl,M,h1.kept a,fun y hy=>bQ _ _ _ _ _ (h2 y hy) a,c⟩
theorem cn.nil (F:Nat->Prop) (w:CP) (k i o f c d:Int):cn F w ⟨k,i,o,[],[],f,c,[],d⟩ (.slice none 0 0) (.slice none 0 0) (.slice none 0 0) []:=
 ⟨aY.nil w,aY.nil w,fun x hx=>(by cases hx),rfl,[],aY.nil w,fun x hx=>(by cases hx),rfl⟩
theorem cn.BH {F:Nat->Prop} {w:CP} {l:BC} {vp vs vb:CQ} {L:List Sv} (h:cn F w l vp vs vb L):iE w (cL l vp vs vb) l vp vs vb L:=by
 obtain⟨M,h1,h2,a⟩:=h.bl;refine⟨rfl,h.pl.BD,⟨h.sh.BD,fun x hx=>(h.so x hx).ok⟩,h.sl,?_,?_⟩
 ·refine⟨M.map (·.1),?_,by rw[<-a,CY,CY],fun i c=> ?_⟩
  ·have d:=h1.BD;rw[fy]at d;rw[<-a,CY];exact d
  ·rw[<-a,CY]at c;have f:=(h2 _ (List.getElem_mem c)).1.BD;rw[<-a,CR,CR,DE,DE,List.getElem?_eq_getElem c];exact f
 ·intro b e;rw[<-a]at e;obtain⟨y,hy,rfl⟩:=List.mem_map.1 e;exact(h2 y hy).2
def AD (w:CP) (Y B:Nat) (l:BC):Prop:=∃vp vs vb L,aw w Y (cL l vp vs vb)/\cn (fun b=>B<=b) w l vp vs vb L
theorem GP.B4 {α :Type} {f: α ->List CQ} {Ok:(Nat->Prop)->CP-> α ->Prop} {w:CP} {cs:List CQ} {v:CQ} {M:List α} (h:GP f s Ok B w X fi cs v M) (a:B'<=B):aY (fun b=>B'<=b) w v M.length (aD f M):=
 aY.By h.own.BD fun b c _=>Dk a (h.own.block b c).1
theorem GP.Ct {α :Type} {f: α ->List CQ} {Ok:(Nat->Prop)->CP-> α ->Prop} (c:gN Ok) {w:CP} {cs:List CQ} {v:CQ} {M:List α} (h:GP f s Ok B w X fi cs v M) (a:B'<=B):∀x∈M,Ok (fun b=>B'<=b) w x:=
 fun x hx=>c _ _ _ _ _ (h.ok x hx) fun _ d _=>⟨Dk a d.2.2,rfl⟩
theorem oE (X Y c d B n:Nat) (s:bS) (f:List CQ) (w:CP) (m:ch w X s) (j:aw w Y (f.set 7 (.slice none 0 0))) (t:7 < f.length) (h0:w.cell? ⟨c,0,none⟩=some (.pointer (some ⟨Y,0,none⟩))) (h1:w.cell? ⟨d,0,none⟩=some (.pointer (some ⟨X,0,none⟩))) (o:X < Y) (p:Y < B) (n0:c < B/\c≠X/\c≠Y) (h:d < B/\d≠X/\d≠Y) (l:B<=w.heap.size) (E:n<=65535):
  CZ CO 137 #[.pointer (some ⟨X,0,none⟩),.int .i64 n,.func (.func 138) #[] #[.pointer (some ⟨c,0,none⟩),.pointer (some ⟨d,0,none⟩)]] w fun e w'=>e=.returned (.tuple #[])/\(∃v M,GP cB 1 ju B w' Y 7 (f.set 7 v) v M/\M.map (fun y:Bv=>y.2)=(du lH n s).1)/\ch w' X (du lH n s).2/\Kq (fun k=>k=X\/k=Y\/B<=k) w w':=by
 obtain⟨I,hI⟩:∃I:Nat->bS->CP->Prop,I=fun k a wr=>∃v M,GP cB 1 ju B wr Y 7 (f.set 7 v) v M/\ch wr X a/\M.map (fun y:Bv=>y.2)++(du lH (n - k) a).1=(du lH n s).1/\(du lH (n - k) a).2=(du lH n s).2/\M.length<=k/\Kq (fun k=>k=X\/k=Y\/B<=k) w wr:=⟨_,rfl⟩
 refine(sC I X c d n (fun k a wr b=> ?_) (by omega) (fun k a wr g x b=> ?_) s w ?_).mono ?_
 ·rw[hI]at b;obtain⟨v,M,_,h2,_⟩:=b;exact h2
 ·rw[hI]at b;obtain⟨v,M,g1,g2,g3,g4,g5,g6⟩:=b;rw[jT lH n k a g x]at g3 g4;refine(sy X Y c d B a (f.set 7 v) v M wr ⟨g2,g1,Dk l g6.size⟩ (g6.cell (by omega) h0) (g6.cell (by omega) h1) o p ⟨n0.1,n0.2.1⟩ ⟨h.1,h.2.1⟩ (by omega)).mono ?_;rintro e w' ⟨rfl,D,y,z,i,A,C⟩;refine⟨rfl,(lH a).2,?_⟩;rw[hI];rw[List.set_set]at i;refine⟨D,M++[y],i,A,?_,g4,by rw[C7,D6];omega,g6.trans C⟩;rw[D3,DH,<-g3];show _++([(fun y:Bv=>y.2) y]++_)=_++([(eh 16 a).1]++_);rw[show(fun y:Bv=>y.2) y=(eh 16 a).1 from z]
 ·rw[hI];exact⟨_,[],GP.start j (by rw[Eb t]),m,rfl,rfl,CU _,Kq.refl _⟩
 ·rintro e w' ⟨rfl,k,a,g,b,r⟩;rw[hI]at b;obtain⟨v,M,g1,g2,g3,g4,_,g6⟩:=b;have q:du lH (n - k) a=([],a):=by
   rcases r with rfl | u
   ·rw[Nat.sub_self];rfl
   ·exact jS _ _ _ u
  rw[q]at g3 g4;rw[DV]at g3;exact⟨rfl,⟨v,M,g1,g3⟩,g4▸g2,g6⟩
theorem uW (X Y c d B n:Nat) (s:bS) (f:List CQ) (w:CP) (m:ch w X s) (j:aw w Y (f.set 3 (.slice none 0 0))) (t:3 < f.length) (h0:w.cell? ⟨c,0,none⟩=some (.pointer (some ⟨Y,0,none⟩))) (h1:w.cell? ⟨d,0,none⟩=some (.pointer (some ⟨X,0,none⟩))) (o:X < Y) (p:Y < B) (n0:c < B/\c≠X/\c≠Y) (h:d < B/\d≠X/\d≠Y) (l:B<=w.heap.size) (E:n<=65535):
  CZ CO 137 #[.pointer (some ⟨X,0,none⟩),.int .i64 n,.func (.func 139) #[] #[.pointer (some ⟨c,0,none⟩),.pointer (some ⟨d,0,none⟩)]] w fun e w'=>e=.returned (.tuple #[])/\(∃v M,GP cI 1 jL B w' Y 3 (f.set 3 v) v M/\M.map (fun y:Int=>y)=(du qe n s).1)/\ch w' X (du qe n s).2/\Kq (fun k=>k=X\/k=Y\/B<=k) w w':=by
 obtain⟨I,hI⟩:∃I:Nat->bS->CP->Prop,I=fun k a wr=>∃v M,GP cI 1 jL B wr Y 3 (f.set 3 v) v M/\ch wr X a/\M.map (fun y:Int=>y)++(du qe (n - k) a).1=(du qe n s).1/\(du qe (n - k) a).2=(du qe n s).2/\M.length<=k/\Kq (fun k=>k=X\/k=Y\/B<=k) w wr:=⟨_,rfl⟩
 refine(sH I X c d n (fun k a wr b=> ?_) (by omega) (fun k a wr g x b=> ?_) s w ?_).mono ?_
 ·rw[hI]at b;obtain⟨v,M,_,h2,_⟩:=b;exact h2
 ·rw[hI]at b;obtain⟨v,M,g1,g2,g3,g4,g5,g6⟩:=b;rw[jT qe n k a g x]at g3 g4;refine(sA X Y c d B a (f.set 3 v) v M wr ⟨g2,g1,Dk l g6.size⟩ (g6.cell (by omega) h0) (g6.cell (by omega) h1) o p ⟨n0.1,n0.2.1⟩ ⟨h.1,h.2.1⟩ (by omega)).mono ?_;rintro e w' ⟨rfl,D,y,z,i,A,C⟩;refine⟨rfl,(qe a).2,?_⟩;rw[hI];rw[List.set_set]at i;refine⟨D,M++[y],i,A,?_,g4,by rw[C7,D6];omega,g6.trans C⟩;rw[D3,DH,<-g3];show _++([(fun y:Int=>y) y]++_)=_++([(aW 2 a).1]++_);rw[show(fun y:Int=>y) y=(aW 2 a).1 from z]
 ·rw[hI];exact⟨_,[],GP.start j (by rw[Eb t]),m,rfl,rfl,CU _,Kq.refl _⟩
 ·rintro e w' ⟨rfl,k,a,g,b,r⟩;rw[hI]at b;obtain⟨v,M,g1,g2,g3,g4,_,g6⟩:=b;have q:du qe (n - k) a=([],a):=by
   rcases r with rfl | u
   ·rw[Nat.sub_self];rfl
   ·exact jS _ _ _ u
  rw[q]at g3 g4;rw[DV]at g3;exact⟨rfl,⟨v,M,g1,g3⟩,g4▸g2,g6⟩
theorem uX (X Y c d B n:Nat) (s:bS) (f:List CQ) (w:CP) (m:ch w X s) (j:aw w Y (f.set 4 (.slice none 0 0))) (t:4 < f.length) (h0:w.cell? ⟨c,0,none⟩=some (.pointer (some ⟨Y,0,none⟩))) (h1:w.cell? ⟨d,0,none⟩=some (.pointer (some ⟨X,0,none⟩))) (o:X < Y) (p:Y < B) (n0:c < B/\c≠X/\c≠Y) (h:d < B/\d≠X/\d≠Y) (l:B<=w.heap.size) (E:n<=65535):
  CZ CO 137 #[.pointer (some ⟨X,0,none⟩),.int .i64 n,.func (.func 140) #[] #[.pointer (some ⟨c,0,none⟩),.pointer (some ⟨d,0,none⟩)]] w fun e w'=>e=.returned (.tuple #[])/\(∃v M,GP cS 3 fD B w' Y 4 (f.set 4 v) v M/\M.map cC=(du qg n s).1)/\ch w' X (du qg n s).2/\Kq (fun k=>k=X\/k=Y\/B<=k) w w':=by
 obtain⟨I,hI⟩:∃I:Nat->bS->CP->Prop,I=fun k a wr=>∃v M,GP cS 3 fD B wr Y 4 (f.set 4 v) v M/\ch wr X a/\M.map cC++(du qg (n - k) a).1=(du qg n s).1/\(du qg (n - k) a).2=(du qg n s).2/\M.length<=k/\Kq (fun k=>k=X\/k=Y\/B<=k) w wr:=⟨_,rfl⟩
 refine(sM I X c d n (fun k a wr b=> ?_) (by omega) (fun k a wr g x b=> ?_) s w ?_).mono ?_
 ·rw[hI]at b;obtain⟨v,M,_,h2,_⟩:=b;exact h2
 ·rw[hI]at b;obtain⟨v,M,g1,g2,g3,g4,g5,g6⟩:=b;rw[jT qg n k a g x]at g3 g4;refine(sL X Y c d B a (f.set 4 v) v M wr ⟨g2,g1,Dk l g6.size⟩ (g6.cell (by omega) h0) (g6.cell (by omega) h1) o p ⟨n0.1,n0.2.1⟩ ⟨h.1,h.2.1⟩ (by omega)).mono ?_;rintro e w' ⟨rfl,D,y,z,i,A,C⟩;refine⟨rfl,(qg a).2,?_⟩;rw[hI];rw[List.set_set]at i;refine⟨D,M++[y],i,A,?_,g4,by rw[C7,D6];omega,g6.trans C⟩;rw[D3,DH,<-g3];show _++([cC y]++_)=_++([(oq a).1]++_);rw[show cC y=(oq a).1 from z]
 ·rw[hI];exact⟨_,[],GP.start j (by rw[Eb t]),m,rfl,rfl,CU _,Kq.refl _⟩
 ·rintro e w' ⟨rfl,k,a,g,b,r⟩;rw[hI]at b;obtain⟨v,M,g1,g2,g3,g4,_,g6⟩:=b;have q:du qg (n - k) a=([],a):=by
   rcases r with rfl | u
   ·rw[Nat.sub_self];rfl
   ·exact jS _ _ _ u
  rw[q]at g3 g4;rw[DV]at g3;exact⟨rfl,⟨v,M,g1,g3⟩,g4▸g2,g6⟩
end Go.Proofs.Bl
