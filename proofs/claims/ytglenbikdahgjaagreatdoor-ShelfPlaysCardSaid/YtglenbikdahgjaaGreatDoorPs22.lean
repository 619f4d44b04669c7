/- Part 22 of the proof. -/
import Derived.Test.YtglenbikdahgjaaGreatDoorPs21
import Derived.Test.YtglenbikdahgjaaGreatDoorPs14
set_option maxRecDepth 100000
set_option maxHeartbeats 16000000
open And renaming intro->Dj
open Bool renaming and_eq_true->Du
open Go renaming Calls->CZ,Value->CQ,World->CP,bodyPost_ret->De
open Go.Region renaming wanted->C8
open Go.RowKit.Below renaming refl->CT
open Go.World renaming size_alloc->C4
open List renaming getElem?_cons_succ->DU,getElem?_cons_zero->E8,mem_append->Dz,mem_cons->DA,mem_flatMap->Gk,mem_singleton->EV
open Nat renaming zero_le->C9
open Option renaming bind_some->Ed
namespace Go.Proofs.Bl
open Go Go.RowKit Go.Proofs
open Go.Proofs.Tryz renaming prog->CO,underlying43->Db
theorem vI {l:BC} (h:aR l=0) (o:∀b∈l.blocks,bI b) (q:∀s∈l.shown,bI s.2.1) (p:∀s∈l.shown,dd s.2.2):bI (bE l):=by
 obtain⟨t,a,c,_,_⟩:=nG h;intro y hy;unfold bE at hy;rcases DA.1 hy with rfl | hy
 ·omega
 rcases Dz.1 hy with hy | hy
 ·rcases Dz.1 hy with hy | hy
  ·exact oh _ y hy
  ·exact oh _ y hy
 have i:∀y∈l.blocks.flatten,0<=y/\y<=255:=fun y hy=>by obtain⟨b,h1,h2⟩:=List.mem_flatten.1 hy;exact o b h1 y h2
 unfold eu at hy;split at hy
 ·simp only[Dz]at hy;rcases hy with hy | hy | hy
  ·exact fu _ y hy
  ·exact fu _ y hy
  ·exact i y hy
 rename_i m;split at hy
 ·simp only[Dz]at hy;rcases hy with hy | hy
  ·exact fu _ y hy
  ·exact i y hy
 rename_i h1;split at hy
 ·rename_i e;rcases DA.1 hy with rfl | hy
  ·unfold bA at c;rw[if_neg (by omega),if_pos e]at c;have:=bj.1 c;omega
  ·obtain⟨x,_,hx⟩:=Gk.1 hy;exact fu _ y hx
 rename_i e;split at hy
 ·rename_i f;unfold bA at c;rw[if_neg (by omega),if_neg e,if_pos f,Du]at c;obtain⟨j,r⟩:=c;have j:=bj.1 j;rcases DA.1 hy with rfl | hy
  ·omega
  ·obtain⟨x,g,hx⟩:=Gk.1 hy;unfold nx at hx;simp only[Dz,EV]at hx;rcases hx with ((hx | hx) | hx) | hx
   ·exact fu _ y hx
   ·exact q x g y hx
   ·have:=(iG (cG r x g)).2;omega
   ·obtain⟨d,g1,g2⟩:=List.mem_flatten.1 hx;exact(p x g d g1).2 y g2
 rename_i f;split at hy
 ·rcases Dz.1 hy with hy | hy
  ·exact fu _ y hy
  ·exact fu _ y hy
 rename_i k;split at hy
 ·rename_i n;unfold br at a;rw[Du]at a;have a:=a.2;unfold jN at a;rw[if_neg e,if_neg f,if_neg k,if_neg m,if_pos n]at a;have:=bj.1 a;obtain rfl:=EV.1 hy;omega
 ·cases hy
theorem pA (v:CQ) (l:BC) (w:CP) (h:eg w v l) (b:wi l.kind 1 7=false):
  CZ CO 40 #[v] w fun e w'=>e=.returned (.int .i64 (aR l:Nat))/\au w w':=by
 obtain⟨cs,vp,vs,vb,L,rfl,g⟩:=h;obtain rfl:=g.eq;have HV:=aa (zF b);have d:=aa b;clear b;obtain⟨f,a⟩:=exq (w.alloc (.cells (cL l vp vs vb).toArray 43));have c:Hid (au w f):=aa (by rw[a];exact ae _ _);unfold cL at a;show CZ CO 40 #[.agg #[.int .i64 l.kind,.int .i64 l.id,.int .i64 l.obj,vp,vs,.int .i64 l.BE,.int .i64 l.BG,vb,.int .i64 l.code]] w _;go_enter Tryz.func40,Tryz.ntmps40
 go_wp2_with fail
 rw[<-a];clear a;refine(bz _ _ _ _).mono ?_;rintro e i ⟨rfl,hw⟩;subst hw;rw[d.out,Bool.not_false]
 go_wp2_with fail
 go_ret;exact⟨by rw[HV.out];rfl,c⟩
theorem dL (v:CQ) (l:BC) (w:CP) (h:eg w v l):
  CZ CO 40 #[v] w fun e w'=>e=.returned (.int .i64 (aR l:Nat))/\au w w':=by
 by_cases a:wi l.kind 1 7=true
 ·rcases kf (bj.1 a)with h1 | h1 | h1 | h1 | h1 | h1 | h1
  ·exact oY v l w h h1
  ·exact oZ v l w h h1
  ·exact ph v l w h h1
  ·exact pj v l w h h1
  ·exact pf v l w h h1
  ·exact pn v l w h h1
  ·exact pg v l w h h1
 ·exact pA v l w h (by simpa using a)
theorem nI (v:CQ) (l:BC) (w:CP) (h:eg w v l):
  CZ CO 29 #[v] w fun e w'=>∃x,e=.returned (.tuple #[x,.int .i64 (aR l:Nat)])/\Bu w' .u8 x (if aR l=0 then bE l else [])/\au w w':=by
 have o:=aa h;obtain⟨cs,vp,vs,vb,L,rfl,r⟩:=h;obtain rfl:=r.eq;have f:Hid (∀a,au w a->CZ CO 40 #[.agg (cL l vp vs vb).toArray] a fun e w'=>e=.returned (.int .i64 (aR l:Nat))/\au a w'):=aa fun a h2=>dL _ l a (o.ext h2)
 obtain⟨K,m⟩:=exq (aR l);have A:=aa m;rw[<-m]at f⊢;clear r m;obtain⟨j,c⟩:=exq (w.alloc (.cells (cL l vp vs vb).toArray 43));have d:Hid (aw j w.heap.size (cL l vp vs vb)):=aa (by rw[c];exact aw.box w 43 (bR _ _ _ _));have n:Hid (au w j):=aa (by rw[c];exact ae _ _);have p:=aa (d.load (P:=CO) Db rfl (by kernel_rfl));unfold cL at c;show CZ CO 29 #[.agg #[.int .i64 l.kind,.int .i64 l.id,.int .i64 l.obj,vp,vs,.int .i64 l.BE,.int .i64 l.BG,vb,.int .i64 l.code]] w _;go_enter Tryz.func29,Tryz.ntmps29
 go_wp2_with (with_reducible refine aV (ty:=43) ?_)
 refine ax ?_;rw[<-c];clear c;refine ao rfl p ?_
 go_wp2_with fail
 refine(f j n).mono ?_;rintro e a ⟨rfl,k⟩;have g:=aa (n.trans k);have y:=aa (d.ext k);clear k d p f;by_cases b:K=0
 ·subst b;obtain⟨b,s,u,_,_⟩:=nG A.symm;have i:=aa (Dj b (Dj s u));have C:=aa (y.load (P:=CO) Db rfl (by kernel_rfl));clear b s u
  go_wp2_with ((with_reducible refine ao ?_ C.out ?_);rfl)
  refine(ei _ l a (o.ext g) i.1 i.2.1 i.2.2).mono ?_;rintro e G ⟨v3,rfl,t,q⟩;have D:=aa t;have z:=aa (g.trans q);clear t q
  go_wp2_with fail
  exact De (v:=.tuple #[v3,.int .i64 0]) (eX rfl rfl rfl) rfl ⟨v3,rfl,D,z⟩
 ·have B:=aa b;have E:¬(K:Int)=0:=by omega
  have F:((K:Int)==0)=false:=by rw[beq_eq_false_iff_ne];exact E
  clear b
  go_wp2_with fail
  exact De (v:=.tuple #[.slice none 0 0,.int .i64 K]) (eX rfl rfl rfl) rfl ⟨_,rfl,by first | exact Bu.nil _ _ | (rw[if_neg B.out];exact Bu.nil _ _),g⟩
theorem vJ (F:Nat->Prop) (b:Nat) (s:bL) (l:BC) (vp vs vb:CQ) (L:List Sv) (w:CP) (hD:ek F w b s) (Y:∀i,F i->i < w.heap.size) (M:cH s) (G:cn F w l vp vs vb L) (hi:s.ids.length<=1048576) (hg:dT w) (d:¬aR l=0):
  CZ CO 11 #[.pointer (some ⟨b,0,none⟩),.agg (cL l vp vs vb).toArray] w fun e w'=>la F b s l w e w':=by
 have V:Hid (bC s l=(dW,false)/\cm s l=s):=aa (by unfold bC cm;rw[if_neg d,if_neg (fun q=>d q.1)];exact⟨rfl,rfl⟩);have y:=aa d;clear d;obtain⟨vo,va,D,a⟩:=hD;have ad:=a.nb;have Z:=a.bx.lt;have g:=G.BH;obtain⟨pp,A,aj,az,aK⟩:=g.pl.form;obtain⟨ps,B,al,_,_⟩:=g.sh.rd.form;obtain⟨O,z,ah,_,_⟩:=g.bl.form;obtain⟨po,co,ai,aA,aL⟩:=a.ro.BD.form;obtain⟨r,J⟩:=exq l.places.length;obtain⟨t,K⟩:=exq L.length;obtain⟨p,I⟩:=exq l.blocks.length;obtain⟨N,j⟩:=exq D.length;rw[<-J]at aj az;rw[<-K]at al;rw[<-I]at ah;rw[<-j]at ai aA;subst aj al ah ai;have HN:Hid (r=l.places.length/\t=L.length/\p=l.blocks.length/\N=D.length/\N=s.AT.length/\N<=4):=aa ⟨J,K,I,j,j.trans a.len,by rw[j,a.len];exact M.ln⟩;have HL:=aa G;have HR:=aa a;have aG:=aa M;have Hg:=aa hg;have aF:=aa hi;have x:Hid ((∀i,F i->i < w.heap.size)/\¬F b/\b < w.heap.size):=aa ⟨Y,ad,Z⟩;obtain⟨f,c⟩:=exq ((w.alloc (.cells (cL l (.slice pp r A) (.slice ps t B) (.slice O p z)).toArray 43)).alloc (.cells zL 43));have E:au w f:=by rw[c];exact(ae _ _).trans (ae _ _)
 have af:f.heap.size=w.heap.size+1+1:=by rw[c,C4,C4]
 have n:aw f w.heap.size (cL l (.slice pp r A) (.slice ps t B) (.slice O p z)):=by rw[c];exact(aw.box w 43 (bR _ _ _ _)).ext (ae _ _)
 have C:aw f (w.heap.size+1) zL.toList:=by rw[c];exact fQ w _ zL.toList _ _ (fun h=>by cases h)
 obtain⟨W,hR0⟩:=exq (w.heap.size+1);obtain⟨P0,H⟩:=exq w.heap.size;rw[<-hR0]at C;rw[<-H]at n;have aq:=aa E;have am:=aa n;have R:=aa C;have m:Hid (P0=w.heap.size/\W=w.heap.size+1/\f.heap.size=w.heap.size+1+1):=aa ⟨H,hR0,af⟩;have U:=aa (n.load (P:=CO) Db rfl (by kernel_rfl));have u:=aa (dL _ l f (eg.ext ⟨_,_,_,_,_,rfl,g⟩ E));unfold cL at c;clear a ad Z g J K I j G M hg hi Y E af n C hR0 H;show CZ CO 11 #[.pointer (some ⟨b,0,none⟩),.agg #[.int .i64 l.kind,.int .i64 l.id,.int .i64 l.obj,.slice pp r A,.slice ps t B,.int .i64 l.BE,.int .i64 l.BG,.slice O p z,.int .i64 l.code]] w _;go_enter Tryz.func11,Tryz.ntmps11
 go_wp2_with (with_reducible refine aV (ty:=43) ?_)
 rw[<-c];rw[show w.heap.size+1=W from m.out.2.1.symm,show w.heap.size=P0 from m.out.1.symm];clear c;refine ax ?_;refine ao rfl U ?_
 go_wp2_with fail
 obtain⟨X,d⟩:=exq (aR l);rw[<-d]at u y;have aH:¬((X:Int)=0):=by have:=y.out;omega
 have aJ:¬(X=0):=y.out;clear d;refine u.mono ?_;rintro e Q ⟨rfl,o⟩;have T:Hid (au w Q):=aa (aq.trans o);have S:=aa (R.ext o);have aD:Hid (w.heap.size+2<=Q.heap.size):=aa (by have:=o.size;have:=m.out;omega);have ap:Hid (ek (fun k=>F k\/w.heap.size+2<=k) Q b s):=aa (ek.mono ⟨_,_,_,HR.ext T⟩ (fun i q _=>.inl q) fun q=>q.elim x.2.1 fun q=>by have:=x.2.2;omega);clear o u am R U;have av:=aa (S.store (P:=CO) (cs':=cL dW ag ag ag) rfl (bk ⟨_,_,_,rfl⟩ ⟨_,_,_,rfl⟩ ⟨_,_,_,rfl⟩) (ty:=43) (by kernel_rfl));have an:=aa (S.set (cs':=cL dW ag ag ag) rfl)
 go_wp2_with ((with_reducible refine ak ?_ ?_ av.out ?_);rfl;rfl)
 refine De (v:=.tuple #[.agg (cL dW ag ag ag).toArray,.bool false]) (aI rfl rfl (an.loadVar (P:=CO) Db rfl (by kernel_rfl)) rfl) rfl ?_;unfold la;rw[V.out.1,V.out.2];exact⟨_,_,_,_,rfl,Dh.fin x (by have:=m.out;omega) (Kb.AI T) (cn.nil _ _ _ _ _ _ _ _) ap _⟩
theorem tq (F:Nat->Prop) (b:Nat) (s:bL) (l:BC) (vp vs vb:CQ) (L:List Sv) (w:CP) (hD:ek F w b s) (hF:∀i,F i->i < w.heap.size) (S:cH s) (J:cn F w l vp vs vb L) (hi:s.ids.length<=1048576) (hg:dT w) (M:aR l=0) (h1:¬l.kind=1) (E:¬l.kind=3) (G:¬l.kind=5):
  CZ CO 11 #[.pointer (some ⟨b,0,none⟩),.agg (cL l vp vs vb).toArray] w fun e w'=>la F b s l w e w':=by
 have ab:Hid (bC s l=(dW,false)/\cm s l=s):=aa (by unfold bC cm;rw[if_pos M,if_neg h1,if_neg E,if_neg G,if_neg (fun q=>h1 q.2)];exact⟨rfl,rfl⟩);have aA:=aa M;have z:=aa (Dj h1 (Dj E G));clear M h1 E G;obtain⟨vo,va,D,a⟩:=hD;have aj:=a.nb;have af:=a.bx.lt;have j:=J.BH;obtain⟨pp,B,ap,aG,aU⟩:=j.pl.form;obtain⟨ps,C,aq,_,_⟩:=j.sh.rd.form;obtain⟨T,A,am,_,_⟩:=j.bl.form;obtain⟨po,co,an,aH,aW⟩:=a.ro.BD.form;obtain⟨t,Q⟩:=exq l.places.length;obtain⟨u,R⟩:=exq L.length;obtain⟨r,O⟩:=exq l.blocks.length;obtain⟨N,m⟩:=exq D.length;rw[<-Q]at ap aG;rw[<-R]at aq;rw[<-O]at am;rw[<-m]at an aH;subst ap aq am an;have HN:Hid (t=l.places.length/\u=L.length/\r=l.blocks.length/\N=D.length/\N=s.AT.length/\N<=4):=aa ⟨Q,R,O,m,m.trans a.len,by rw[m,a.len];exact S.ln⟩;have HL:=aa J;have HR:=aa a;have aP:=aa S;have Hg:=aa hg;have aO:=aa hi;have y:Hid ((∀i,F i->i < w.heap.size)/\¬F b/\b < w.heap.size):=aa ⟨hF,aj,af⟩;obtain⟨d,c⟩:=exq ((w.alloc (.cells (cL l (.slice pp t B) (.slice ps u C) (.slice T r A)).toArray 43)).alloc (.cells zL 43));have I:au w d:=by rw[c];exact(ae _ _).trans (ae _ _)
 have al:d.heap.size=w.heap.size+1+1:=by rw[c,C4,C4]
 have p:aw d w.heap.size (cL l (.slice pp t B) (.slice ps u C) (.slice T r A)):=by rw[c];exact(aw.box w 43 (bR _ _ _ _)).ext (ae _ _)
 have H:aw d (w.heap.size+1) zL.toList:=by rw[c];exact fQ w _ zL.toList _ _ (fun h=>by cases h)
 obtain⟨R0,hR0⟩:=exq (w.heap.size+1);obtain⟨P0,K⟩:=exq w.heap.size;rw[<-hR0]at H;rw[<-K]at p;have ay:=aa I;have V:=aa p;have W:=aa H;have o:Hid (P0=w.heap.size/\R0=w.heap.size+1/\d.heap.size=w.heap.size+1+1):=aa ⟨K,hR0,al⟩;have Z:=aa (p.load (P:=CO) Db rfl (by kernel_rfl));have x:=aa (dL _ l d (eg.ext ⟨_,_,_,_,_,rfl,j⟩ I));unfold cL at c;clear a aj af j Q R O m J S hg hi hF I al p H hR0 K;show CZ CO 11 #[.pointer (some ⟨b,0,none⟩),.agg #[.int .i64 l.kind,.int .i64 l.id,.int .i64 l.obj,.slice pp t B,.slice ps u C,.int .i64 l.BE,.int .i64 l.BG,.slice T r A,.int .i64 l.code]] w _;go_enter Tryz.func11,Tryz.ntmps11
 go_wp2_with (with_reducible refine aV (ty:=43) ?_)
 rw[<-c];rw[show w.heap.size+1=R0 from o.out.2.1.symm,show w.heap.size=P0 from o.out.1.symm];clear c;refine ax ?_;refine ao rfl Z ?_
 go_wp2_with fail
 rw[aA.out]at x;refine x.mono ?_;rintro e U ⟨rfl,g⟩;have aJ:=(V.ext g).cell (i:=0) (v:=.int .i64 l.kind) rfl;obtain⟨f,n⟩:=exq l.kind;rw[<-n]at aJ;have aD:¬f=1:=by rw[n];exact z.1
 have aE:¬f=3:=by rw[n];exact z.2.1
 have aF:¬f=5:=by rw[n];exact z.2.2
 have aQ:(f != 1)=true:=by rw[bne_iff_ne];exact aD
 have aS:(f != 3)=true:=by rw[bne_iff_ne];exact aE
 have aT:(f != 5)=true:=by rw[bne_iff_ne];exact aF
 clear n;have Y:Hid (au w U):=aa (ay.trans g);have X:=aa (W.ext g);have aM:Hid (w.heap.size+2<=U.heap.size):=aa (by have:=g.size;have:=o.out;omega);have av:Hid (ek (fun k=>F k\/w.heap.size+2<=k) U b s):=aa (ek.mono ⟨_,_,_,HR.ext Y⟩ (fun i q _=>.inl q) fun q=>q.elim y.2.1 fun q=>by have:=y.2.2;omega);clear g x V W Z;have aB:=aa (X.store (P:=CO) (cs':=cL dW ag ag ag) rfl (bk ⟨_,_,_,rfl⟩ ⟨_,_,_,rfl⟩ ⟨_,_,_,rfl⟩) (ty:=43) (by kernel_rfl));have ar:=aa (X.set (cs':=cL dW ag ag ag) rfl)
 go_wp2_with ((with_reducible refine ak ?_ ?_ aB.out ?_);rfl;rfl)
 refine De (v:=.tuple #[.agg (cL dW ag ag ag).toArray,.bool false]) (aI rfl rfl (ar.loadVar (P:=CO) Db rfl (by kernel_rfl)) rfl) rfl ?_;unfold la;rw[ab.out.1,ab.out.2];exact⟨_,_,_,_,rfl,Dh.fin y (by have:=o.out;omega) (Kb.AI Y) (cn.nil _ _ _ _ _ _ _ _) av _⟩
theorem yr:kv CO 34 95 (.agg #[.int .i64 0,.slice none 0 0]) 2 32:=⟨Tryz.underlying34,by kernel_rfl,rfl,by decide⟩
theorem xf (x:Int) (q:Option Addr) (n c:Nat) (w:CP):(Instr.build 95 #[(0,.int .i64 x),(1,.slice q n c)]).run CO w=.ok (.agg #[.int .i64 x,.slice q n c]) w:=run_build w _ _ _ (by kernel_rfl)
theorem vK (F:Nat->Prop) (b:Nat) (s:bL) (l:BC) (vp vs vb:CQ) (L:List Sv) (w:CP) (hD:ek F w b s) (hF:∀i,F i->i < w.heap.size) (cw:cH s) (hL:cn F w l vp vs vb L) (E:s.ids.length<=1048576) (hg:dT w) (c7:aR l=0) (hk:l.kind=1):
  CZ CO 11 #[.pointer (some ⟨b,0,none⟩),.agg (cL l vp vs vb).toArray] w fun e w'=>la F b s l w e w':=by
 have b5:=aa c7;have Hk:=aa hk;clear c7 hk;obtain⟨vo,va,D,hR⟩:=hD;have db:=hR.nb;have c6:=hR.bx.lt;have bd:=hL.BH;obtain⟨pp,cp,dg,dO,d8⟩:=bd.pl.form;obtain⟨ps,b8,dh,_,_⟩:=bd.sh.rd.form;obtain⟨O,M,df,_,_⟩:=bd.bl.form;obtain⟨po,co,bi,dP,dQ⟩:=hR.ro.BD.form;obtain⟨np,ct⟩:=exq l.places.length;obtain⟨ns,cu⟩:=exq L.length;obtain⟨J,cr⟩:=exq l.blocks.length;obtain⟨N,hN⟩:=exq D.length;rw[<-ct]at dg dO;rw[<-cu]at dh;rw[<-cr]at df;rw[<-hN]at bi dP;subst dg dh df bi;have X:Hid (np=l.places.length/\ns=L.length/\J=l.blocks.length/\N=D.length/\N=s.AT.length/\N<=4):=aa ⟨ct,cu,cr,hN,hN.trans hR.len,by rw[hN,hR.len];exact cw.ln⟩;have HL:=aa hL;have HR:=aa hR;have d2:=aa cw;have Hg:=aa hg;have dB:=aa E;have W:Hid ((∀i,F i->i < w.heap.size)/\¬F b/\b < w.heap.size):=aa ⟨hF,db,c6⟩;obtain⟨W1,aE⟩:=exq ((w.alloc (.cells (cL l (.slice pp np cp) (.slice ps ns b8) (.slice O J M)).toArray 43)).alloc (.cells zL 43));have cd:au w W1:=by rw[aE];exact(ae _ _).trans (ae _ _)
 have de:W1.heap.size=w.heap.size+1+1:=by rw[aE,C4,C4]
 have bF:aw W1 w.heap.size (cL l (.slice pp np cp) (.slice ps ns b8) (.slice O J M)):=by rw[aE];exact(aw.box w 43 (bR _ _ _ _)).ext (ae _ _)
 have cb:aw W1 (w.heap.size+1) zL.toList:=by rw[aE];exact fQ w _ zL.toList _ _ (fun h=>by cases h)
 obtain⟨R0,hR0⟩:=exq (w.heap.size+1);obtain⟨P0,ci⟩:=exq w.heap.size;rw[<-hR0]at cb;rw[<-ci]at bF;have cM:=aa cd;have cC:=aa bF;have cD:=aa cb;have aP:Hid (P0=w.heap.size/\R0=w.heap.size+1/\W1.heap.size=w.heap.size+1+1):=aa ⟨ci,hR0,de⟩;have cY:=aa (bF.load (P:=CO) Db rfl (by kernel_rfl));have bW:=aa (dL _ l W1 (eg.ext ⟨_,_,_,_,_,rfl,bd⟩ cd));unfold cL at aE;clear hR db c6 bd ct cu cr hN hL cw hg E hF cd de bF cb hR0 ci;show CZ CO 11 #[.pointer (some ⟨b,0,none⟩),.agg #[.int .i64 l.kind,.int .i64 l.id,.int .i64 l.obj,.slice pp np cp,.slice ps ns b8,.int .i64 l.BE,.int .i64 l.BG,.slice O J M,.int .i64 l.code]] w _;go_enter Tryz.func11,Tryz.ntmps11
 go_wp2_with (with_reducible refine aV (ty:=43) ?_)
 rw[<-aE];rw[show w.heap.size+1=R0 from aP.out.2.1.symm,show w.heap.size=P0 from aP.out.1.symm];clear aE;refine ax ?_;refine ao rfl cY ?_
 go_wp2_with fail
 rw[b5.out]at bW;refine bW.mono ?_;rintro e n ⟨rfl,T⟩;have cN:Hid (au w n):=aa (cM.trans T);have a1:=aa (cC.ext T);have cE:=aa (cD.ext T);have dz:Hid (w.heap.size+2<=n.heap.size):=aa (by have:=T.size;have:=aP.out;omega);have cx:n.cell? ⟨P0,0,none⟩=some (.int .i64 1):=by have h:=a1.cell (i:=0) (v:=.int .i64 l.kind) rfl;rw[Hk.out]at h;exact h
 have aW:=a1.cell (i:=1) (v:=.int .i64 l.id) rfl;have S:=a1.cell (i:=2) (v:=.int .i64 l.obj) rfl;clear T bW cC cD cY cM;obtain⟨bH,ce⟩:=aw.fresh (cs:=cL ⟨7,l.id,l.obj,[],[],0,0,[],0⟩ ag ag ag) n 43 zL rfl (bR _ _ _ _);have a8:=aa (aH (P:=CO) (cs:=cL ⟨7,l.id,l.obj,[],[],0,0,[],0⟩ ag ag ag) n 43 zL rfl (bk ⟨_,_,_,rfl⟩ ⟨_,_,_,rfl⟩ ⟨_,_,_,rfl⟩) (ty:=43) (by kernel_rfl))
 go_wp2_with (with_reducible refine aC (ty:=43) ?_)
 refine ax ?_;refine ak rfl rfl a8 ?_;obtain⟨W3,c4⟩:=exq ((n.alloc (.cells zL 43)).setCells n.heap.size 0 (cL ⟨7,l.id,l.obj,[],[],0,0,[],0⟩ ag ag ag));obtain⟨B,ch⟩:=exq n.heap.size;rw[<-c4]at bH ce⊢;rw[<-ch]at bH⊢;have b2:=aa bH;have bq:=aa ce;have cQ:=aa ch;clear bH ce c4 ch a8;have bY:Hid (au w W3):=aa (cN.trans bq);have bU:=aa (a1.ext bq);have cF:=aa (cE.ext bq);have du:Hid (w.heap.size+2<=B/\B < W3.heap.size):=aa ⟨by have:=cQ.out;have:=dz.out;omega,b2.lt⟩;clear cx aW S bq a1 cE cN cQ;have S:=bU.cell (i:=2) (v:=.int .i64 l.obj) rfl
 go_wp2_with fail
 refine(fh F b (.slice po N co) va D s l.obj W3 (HR.ext bY)).mono ?_;rintro e w4 ⟨⟨r,rfl,hr⟩,aT⟩;have dr:Hid (au w w4):=aa (bY.trans aT);have a2:=aa (bU.ext aT);have cG:=aa (cF.ext aT);have cS:=aa (b2.ext aT);have dA:Hid (W3.heap.size<=w4.heap.size):=aa aT.size;have Hr:=aa hr;have cx:w4.cell? ⟨P0,0,none⟩=some (.int .i64 1):=by have h:=a2.cell (i:=0) (v:=.int .i64 l.kind) rfl;rw[Hk.out]at h;exact h
 clear S aT bU cF b2 bY hr;have aW:=a2.cell (i:=1) (v:=.int .i64 l.id) rfl;have S:=a2.cell (i:=2) (v:=.int .i64 l.obj) rfl;obtain⟨bG,cf⟩:=aw.fresh (cs:=cL ⟨2,l.id,l.obj,[],[],0,0,[],0⟩ ag ag ag) w4 43 zL rfl (bR _ _ _ _);have a8:=aa (aH (P:=CO) (cs:=cL ⟨2,l.id,l.obj,[],[],0,0,[],0⟩ ag ag ag) w4 43 zL rfl (bk ⟨_,_,_,rfl⟩ ⟨_,_,_,rfl⟩ ⟨_,_,_,rfl⟩) (ty:=43) (by kernel_rfl))
 go_wp2_with (with_reducible refine aC (ty:=43) ?_)
 refine ax ?_;refine ak rfl rfl a8 ?_;obtain⟨W5,c5⟩:=exq ((w4.alloc (.cells zL 43)).setCells w4.heap.size 0 (cL ⟨2,l.id,l.obj,[],[],0,0,[],0⟩ ag ag ag));obtain⟨A0,ca⟩:=exq w4.heap.size;rw[<-c5]at bG cf⊢;rw[<-ca]at bG⊢;have bT:=aa bG;have a4:=aa cf;have cB:=aa ca;clear bG cf c5 ca a8;have br:Hid (au w W5):=aa (dr.trans a4);have bV:=aa (a2.ext a4);have cI:=aa (cG.ext a4);have cT:=aa (cS.ext a4);obtain⟨BB,dI⟩:=exq W5.heap.size;have t:Hid (w.heap.size<=P0/\P0 < R0/\R0 < B/\B < A0/\A0 < BB/\w.heap.size<=BB/\BB=W5.heap.size/\b < P0):=aa (by have:=cB.out;have:=du.out;have:=dA.out;have:=aP.out;have:=bT.lt;have:=W.2.2;omega);clear cx aW S a4 a2 cG cS cB dI;have aW:=bV.cell (i:=1) (v:=.int .i64 l.id) rfl;obtain⟨fr,ck⟩:=exq (eT s.ids l.id);have cX:=aa ck;have cK:Hid (∀n,au W5 n->CZ CO 42 #[.pointer (some ⟨b,1,none⟩),.int .i64 l.id] n fun e w'=>e=.returned (.bool fr)/\(∃bm,gV (fun i=>F i\/BB<=i) w' b (.slice po N co) bm D ⟨s.AT,fx s l⟩)/\Kq (fun i=>i=b) n w'/\jn b n w'):=aa fun n h2=>by
  refine(qA F b (.slice po N co) va D s l.id n (HR.ext (br.trans h2)) dB).mono ?_;rintro e w' ⟨h1,⟨bm,h3⟩,h4,h5⟩;refine⟨by rw[ck];exact h1,⟨bm,h3.mono (fun i q _=>q.imp id fun q=>by have:=h2.size;have:=t.out;omega) fun q=> ?_⟩,h4,h5⟩;rcases q with q | q
  ·exact W.2.1 q
  ·have:=t.out;omega
 have c2:Hid (∀n,Kq (fun i=>i=b) W5 n->n.cell? ⟨P0,1,none⟩=some (.int .i64 l.id)):=aa fun n hk=>hk.cell (fun q=>by have:=t.out;omega) aW
 clear ck aW
 go_wp2_with fail
 apply az (Kq (fun i=>i=b)) (ew (fun n=>au W5 n) [(5,57,fun v n=>v=.bool fr/\(∃bm,gV (fun i=>F i\/BB<=i) n b (.slice po N co) bm D ⟨s.AT,fx s l⟩)/\jn b W5 n)]) 6 [52,53,54,55,56,57] [ar _,ar _,ar _,ar _,ar _,ar _] (fun w=>Kq.refl w) (fun a b c h k=>Kq.trans h k) (by kernel_rfl) (by kernel_rfl) (by kernel_rfl) (by kernel_rfl);case hsteps=>
  refine⟨?_,?_,?_,?_,?_,?_,trivial⟩;all_goals
   intro d ev C f A Y ad U y j;replace Y:=aa Y;replace A:=aa A;replace ad:=aa ad;replace U:=aa U;have e0:=y 0 (by decide);have e3:=y 3 (by decide);clear y;simp only[sB]at e0 e3;simp only[sG]at j;have c1:=c2 _ f;rw[if_pos (rfl:C8 _ _=true)];go_simp;first | exact⟨Kq.refl _,rfl,A.same rfl⟩ | (go_at_call 42;have h0:=A.1 U;(with_reducible refine(cK.out C h0).mono ?_);rintro e n ⟨rfl,h1,h2,h3⟩;exact⟨_,rfl,h2,rfl,ew.s1 (Dj rfl (Dj h1 ((jn.AI h0).trans h3))) trivial rfl⟩) | exact⟨CT _ _,rfl,HJ.same (by decide) A⟩
 case hmono=>exact mR
 case hR0=>exact Kq.drew _
 case hend=>
  intro u C f hJ hend;simp only[sE]at hend;simp only[sF,hend];obtain⟨_,⟨dZ,bI⟩,cc⟩:=hJ.2 rfl;obtain⟨G,dj⟩:=exq C;rw[<-dj]at f bI cc⊢;have R:=aa bI;have d0:=aa f;have aN:Hid (Kb b w G):=aa ((Kb.AI br).own f cc fun _=>by rw[bI.bx.cell (i:=0) rfl];exact((HR.ext br).bx.cell (i:=0) rfl).symm);have bp:=aa (f.box (fun q=>by have:=t.out;omega) bV);have aM:=aa (f.box (fun q=>by have:=t.out;omega) cI);have aO:=aa (f.box (fun q=>by have:=t.out;omega) cT);have bn:=aa (f.box (fun q=>by have:=t.out;omega) bT);have b1:Hid (di (fun i=>F i\/BB<=i) G (.slice O J M) l.blocks):=aa (di.kept HL.B4 fun i E hl=>⟨.inl E,((Kq.AI br).trans (f.mono (Q':=fun i=>i=b) fun i _ q=>q)).block i hl fun q=>W.2.1 (by rw[<-show i=b from q];exact E)⟩);have dq:Hid (BB<=G.heap.size):=aa (by have:=f.size;have:=t.out;omega);have al:Hid (bC s l=(eE s l,true)/\cm s l=fF s l):=aa (by unfold bC cm;rw[if_pos b5.out,if_pos Hk.out,if_pos ⟨b5.out,Hk.out⟩];exact⟨rfl,rfl⟩);clear hend hJ f bI cc dj cK c2 bV cI cT bT;have aY:=bp.cell (i:=7) (v:=.slice O J M) rfl;have S:=bp.cell (i:=2) (v:=.int .i64 l.obj) rfl;have bN:=bp.lt;have hr:=Hr.out;rcases hr with ⟨i,E,rfl,h1,h2⟩ | ⟨rfl,h2⟩
  ·have av:=aa (HR.some E h1 h2);obtain⟨g,o,c,bi,_,_,cl,c8⟩:=R.pos (Nat.lt_of_le_of_lt (C9 _) E);rw[<-X.out.2.2.2.1]at bi;injection bi with dU _ dV;subst dU dV;have dc:=c8 i E;have aQ:Hid (di (fun i=>F i\/BB<=i) G (D.getD i o0).2.1 (D.getD i o0).2.2):=aa (R.ok _ (aJ o0 E));obtain⟨q1,c1,cj,_,_⟩:=aQ.form;have bh:G.cell? ⟨g,o+i*2+1,none⟩=some (.slice q1 (D.getD i o0).2.2.length c1):=by rw[dc 1 _ rfl,cj]
   rw[cj]at aQ;have bg:=R.bx.cell (i:=0) (v:=.slice (some ⟨g,o,none⟩) N co) rfl;have bf:=R.bx.lt;obtain⟨st,dd⟩:=exq ((D.getD i o0).2.2);rw[<-dd]at aQ bh av;obtain⟨m,hm⟩:=exq st.length;rw[<-hm]at aQ bh;obtain⟨eq,heq⟩:=exq (decide (st=l.blocks));have b4:Hid (∀n,au G n->CZ CO 31 #[.slice q1 m c1,.slice O J M] n fun e w'=>e=.returned (.bool eq)/\au n w'):=aa fun n Z=>by have h:=fT (.slice q1 m c1) (.slice O J M) st l.blocks n (aU.ext aQ.BF Z) (aU.ext b1.BF Z) aQ.Cp b1.Cp;rw[<-heq]at h;exact h
   have cW:=aa heq;have d4:(0:Int)<=(i:Int):=by omega
   have d7:i < N:=by rw[X.out.2.2.2.1];exact E
   have d5:(i:Int) < (N:Int):=by omega
   have d6:¬(i:Int) < 0:=by omega
   have c0:Hid (fF s l=⟨s.AT,fx s l⟩):=aa (by unfold fF;rw[av.out]);have a7:Hid ((fr=false\/eq=true)->bC s l=(⟨2,l.id,l.obj,[],[],0,0,[],0⟩,true)):=aa fun q=>by rw[al.out.1];unfold eE;rw[av.out];simp only;rw[if_pos (q.imp (fun q=>by rw[<-cX.out];exact q) fun q=>by rw[cW.out]at q;exact of_decide_eq_true q)];rfl
   have dD:Hid (fr=true->eq=false->bC s l=(⟨7,l.id,l.obj,[],[],0,0,[],10⟩,true)):=aa fun q q2=>by
    rw[al.out.1];unfold eE;rw[av.out];simp only
    rw[if_neg (fun z=>by
     rcases z with z | z
     ·rw[<-cX.out,q]at z;cases z
     ·rw[cW.out]at q2;exact of_decide_eq_false q2 z)]
    rfl
   have b6:Hid (cm s l=⟨s.AT,fx s l⟩):=aa (al.2.trans c0);clear h1 h2 c8 dc cj dd hm heq E c0 al;cases fr with
   | false=>
    have K:Hid (bC s l=(⟨2,l.id,l.obj,[],[],0,0,[],0⟩,true)/\cm s l=⟨s.AT,fx s l⟩):=aa ⟨a7 (.inl rfl),b6⟩;clear S
    go_wp2_with fail
    apply aG 14 [60,61,62,63,64,65,66,67,68,69,70,71,72,73] [ar _,ar _,ar _,ar _,ar _,ar _,ar _,ar _,ar _,ar _,ar _,ar _,ar _,ar _] (by kernel_rfl) (by kernel_rfl) (by kernel_rfl) (by kernel_rfl);case hsteps=>
     refine⟨?_,?_,?_,?_,?_,?_,?_,?_,?_,?_,?_,?_,?_,?_,trivial⟩;all_goals
      intro ev C f y j;have e0:=y 0 (by decide);have e3:=y 3 (by decide);have e7:=y 7 (by decide);have e9:=y 9 (by decide);clear y;simp only[sB]at e0 e3 e7 e9;simp only[sD]at j;have I:=(ay f).1;have k0:=(I _ 0 bf).trans bg;have k1:=(I _ (o+i*2+1) cl).trans bh;have k7:=(I _ 7 bN).trans aY;simp only[dw,C8,fO,DU,E8,Ed,j,if_true];go_simp;first | (go_at_call 31;(with_reducible refine(b4.out _ f).mono ?_);rintro e n ⟨rfl,T⟩;exact⟨_,rfl,T,rfl⟩) | exact rfl | exact⟨CT _ _,rfl⟩ | exact⟨CT _ _,rfl⟩
    case hmono=>exact mL
    case hend=>
     intro u C f hend;simp only[sE]at hend;simp only[sF,hend];obtain⟨H,V⟩:=exq C;rw[<-V]at f⊢;have cP:=aa f;have ap:Hid (Kb b w H):=aa (aN.ext f);have an:=aa (aM.ext f);have a5:=aa (aO.ext f);have bo:=aa (bn.ext f);have ac:=aa (R.ext f);clear f hend V;have af:=aa (bo.load (P:=CO) Db rfl (by kernel_rfl));have ah:=aa (an.store (P:=CO) (cs':=cL ⟨2,l.id,l.obj,[],[],0,0,[],0⟩ ag ag ag) rfl (bk ⟨_,_,_,rfl⟩ ⟨_,_,_,rfl⟩ ⟨_,_,_,rfl⟩) (ty:=43) (by kernel_rfl));have ab:=aa (an.set (cs':=cL ⟨2,l.id,l.obj,[],[],0,0,[],0⟩ ag ag ag) rfl)
     go_wp2_with first | ((with_reducible refine ao ?_ af.out ?_);rfl) | ((with_reducible refine ak ?_ ?_ ah.out ?_);rfl;rfl)
     refine De (v:=.tuple #[.agg (cL ⟨2,l.id,l.obj,[],[],0,0,[],0⟩ ag ag ag).toArray,.bool true]) (aI rfl rfl (ab.loadVar (P:=CO) Db rfl (by kernel_rfl)) rfl) rfl ?_;unfold la;rw[K.out.1,K.out.2];exact⟨_,_,_,_,rfl,Dh.fin W (by have:=t.out;omega) ap (cn.nil _ _ _ _ _ _ _ _) ⟨_,_,_,ac⟩ _⟩
   | true=>
    cases eq with
    | true=>
     have K:Hid (bC s l=(⟨2,l.id,l.obj,[],[],0,0,[],0⟩,true)/\cm s l=⟨s.AT,fx s l⟩):=aa ⟨a7 (.inr rfl),b6⟩;clear S
     go_wp2_with fail
     apply aG 14 [60,61,62,63,64,65,66,67,68,69,70,71,72,73] [ar _,ar _,ar _,ar _,ar _,ar _,ar _,ar _,ar _,ar _,ar _,ar _,ar _,ar _] (by kernel_rfl) (by kernel_rfl) (by kernel_rfl) (by kernel_rfl);case hsteps=>
      refine⟨?_,?_,?_,?_,?_,?_,?_,?_,?_,?_,?_,?_,?_,?_,trivial⟩;all_goals
       intro ev C f y j;have e0:=y 0 (by decide);have e3:=y 3 (by decide);have e7:=y 7 (by decide);have e9:=y 9 (by decide);clear y;simp only[sB]at e0 e3 e7 e9;simp only[sD]at j;have I:=(ay f).1;have k0:=(I _ 0 bf).trans bg;have k1:=(I _ (o+i*2+1) cl).trans bh;have k7:=(I _ 7 bN).trans aY;simp only[dw,C8,fO,DU,E8,Ed,j,beq_self_eq_true,if_true];go_simp;first | (go_at_call 31;(with_reducible refine(b4.out _ f).mono ?_);rintro e n ⟨rfl,T⟩;exact⟨_,rfl,T,rfl⟩) | exact rfl | exact⟨CT _ _,rfl⟩ | exact⟨CT _ _,rfl⟩
     case hmono=>exact mL
     case hend=>
      intro u C f hend;simp only[sE]at hend;simp only[sF,hend];obtain⟨H,V⟩:=exq C;rw[<-V]at f⊢;have cP:=aa f;have ap:Hid (Kb b w H):=aa (aN.ext f);have an:=aa (aM.ext f);have a5:=aa (aO.ext f);have bo:=aa (bn.ext f);have ac:=aa (R.ext f);clear f hend V;have af:=aa (bo.load (P:=CO) Db rfl (by kernel_rfl));have ah:=aa (an.store (P:=CO) (cs':=cL ⟨2,l.id,l.obj,[],[],0,0,[],0⟩ ag ag ag) rfl (bk ⟨_,_,_,rfl⟩ ⟨_,_,_,rfl⟩ ⟨_,_,_,rfl⟩) (ty:=43) (by kernel_rfl));have ab:=aa (an.set (cs':=cL ⟨2,l.id,l.obj,[],[],0,0,[],0⟩ ag ag ag) rfl)
      go_wp2_with first | ((with_reducible refine ao ?_ af.out ?_);rfl) | ((with_reducible refine ak ?_ ?_ ah.out ?_);rfl;rfl)
      refine De (v:=.tuple #[.agg (cL ⟨2,l.id,l.obj,[],[],0,0,[],0⟩ ag ag ag).toArray,.bool true]) (aI rfl rfl (ab.loadVar (P:=CO) Db rfl (by kernel_rfl)) rfl) rfl ?_;unfold la;rw[K.out.1,K.out.2];exact⟨_,_,_,_,rfl,Dh.fin W (by have:=t.out;omega) ap (cn.nil _ _ _ _ _ _ _ _) ⟨_,_,_,ac⟩ _⟩
    | false=>
     have K:Hid (bC s l=(⟨7,l.id,l.obj,[],[],0,0,[],10⟩,true)/\cm s l=⟨s.AT,fx s l⟩):=aa ⟨dD rfl rfl,b6⟩;clear S
     go_wp2_with fail
     apply aG 14 [60,61,62,63,64,65,66,67,68,69,70,71,72,73] [ar _,ar _,ar _,ar _,ar _,ar _,ar _,ar _,ar _,ar _,ar _,ar _,ar _,ar _] (by kernel_rfl) (by kernel_rfl) (by kernel_rfl) (by kernel_rfl);case hsteps=>
      refine⟨?_,?_,?_,?_,?_,?_,?_,?_,?_,?_,?_,?_,?_,?_,trivial⟩;all_goals
       intro ev C f y j;have e0:=y 0 (by decide);have e3:=y 3 (by decide);have e7:=y 7 (by decide);have e9:=y 9 (by decide);clear y;simp only[sB]at e0 e3 e7 e9;simp only[sD]at j;have I:=(ay f).1;have k0:=(I _ 0 bf).trans bg;have k1:=(I _ (o+i*2+1) cl).trans bh;have k7:=(I _ 7 bN).trans aY;simp only[dw,C8,fO,DU,E8,Ed,j,beq_self_eq_true,if_true];go_simp;first | (go_at_call 31;(with_reducible refine(b4.out _ f).mono ?_);rintro e n ⟨rfl,T⟩;exact⟨_,rfl,T,rfl⟩) | exact rfl | exact⟨CT _ _,rfl⟩ | exact⟨CT _ _,rfl⟩
     case hmono=>exact mL
     case hend=>
      intro u C f hend;simp only[sE]at hend;simp only[sF,hend];obtain⟨H,V⟩:=exq C;rw[<-V]at f⊢;have cP:=aa f;have ap:Hid (Kb b w H):=aa (aN.ext f);have an:=aa (aM.ext f);have a5:=aa (aO.ext f);have bo:=aa (bn.ext f);have ac:=aa (R.ext f);clear f hend V;have q8:=a5.cell (i:=8) (v:=.int .i64 0) rfl;have f8:=a5.fz (i:=8) (show 8 < 9 by decide);have b3:Hid (aw (H.setCell ⟨B,8,none⟩ (.int .i64 10)) B (cL ⟨7,l.id,l.obj,[],[],0,0,[],10⟩ ag ag ag)):=aa (a5.put (i:=8) (show 8 < 9 by decide) (.int .i64 10));have aq:Hid (Kq (fun k=>k=B) H (H.setCell ⟨B,8,none⟩ (.int .i64 10))):=aa ((Kq.refl H).setCell (Q:=fun k=>k=B) ⟨B,8,none⟩ rfl _);have a3:=aa (aq.box (Q:=fun k=>k=B) (fun q=>by have:=t.out;omega) an);have bX:=aa (ek.kept ⟨_,_,_,ac⟩ aq (F':=fun i=>F i\/BB<=i) (fun i q=>⟨fun r=>by rcases r with r | r;exact absurd (W.1 i r) (by have:=t.out;omega);have:=t.out;omega,by have:=t.out;omega⟩) (fun i q _=>q) ac.nb);have b0:Hid (Kb b w (H.setCell ⟨B,8,none⟩ (.int .i64 10))):=aa (ap.kq aq (fun i q=>by have:=t.out;omega));have af:=aa (b3.load (P:=CO) Db rfl (by kernel_rfl));have ah:=aa (a3.store (P:=CO) (cs':=cL ⟨7,l.id,l.obj,[],[],0,0,[],10⟩ ag ag ag) rfl (bk ⟨_,_,_,rfl⟩ ⟨_,_,_,rfl⟩ ⟨_,_,_,rfl⟩) (ty:=43) (by kernel_rfl));have ab:=aa (a3.set (cs':=cL ⟨7,l.id,l.obj,[],[],0,0,[],10⟩ ag ag ag) rfl)
      go_wp2_with first | ((with_reducible refine ao ?_ af.out ?_);rfl) | ((with_reducible refine ak ?_ ?_ ah.out ?_);rfl;rfl)
      refine De (v:=.tuple #[.agg (cL ⟨7,l.id,l.obj,[],[],0,0,[],10⟩ ag ag ag).toArray,.bool true]) (aI rfl rfl (ab.loadVar (P:=CO) Db rfl (by kernel_rfl)) rfl) rfl ?_;unfold la;rw[K.out.1,K.out.2];exact⟨_,_,_,_,rfl,Dh.fin W (by have:=aP.out;have:=t.out;omega) b0 (cn.nil _ _ _ _ _ _ _ _) bX _⟩
  ·have av:=aa (HR.none h2);have bg:=R.bx.cell (i:=0) (v:=.slice po N co) rfl;have bf:=R.bx.lt;have cZ:Hid (4<=N->bC s l=(⟨7,l.id,l.obj,[],[],0,0,[],12⟩,true)/\cm s l=⟨s.AT,fx s l⟩):=aa fun q=>by rw[al.out.1,al.out.2];unfold eE fF;rw[av.out];simp only;rw[if_pos (by rw[<-X.out.2.2.2.2.1];exact q),if_pos (by rw[<-X.out.2.2.2.2.1];exact q)];exact⟨rfl,rfl⟩
   have a7:Hid (¬4<=N->bC s l=(⟨2,l.id,l.obj,[],[],0,0,[],0⟩,true)/\cm s l=⟨s.AT++[(l.obj,l.blocks)],fx s l⟩):=aa fun q=>by rw[al.out.1,al.out.2];unfold eE fF;rw[av.out];simp only;rw[if_neg (by rw[<-X.out.2.2.2.2.1];exact q),if_neg (by rw[<-X.out.2.2.2.2.1];exact q)];exact⟨rfl,rfl⟩
   clear h2 aY dQ;by_cases h4:4<=N
   ·have K:=aa (cZ h4);have dF:(4:Int)<=(N:Int):=by omega
    clear S;have ap:=aN;have ac:=R;have q8:=aO.cell (i:=8) (v:=.int .i64 0) rfl;have f8:=aO.fz (i:=8) (show 8 < 9 by decide);have b3:Hid (aw (G.setCell ⟨B,8,none⟩ (.int .i64 12)) B (cL ⟨7,l.id,l.obj,[],[],0,0,[],12⟩ ag ag ag)):=aa (aO.put (i:=8) (show 8 < 9 by decide) (.int .i64 12));have aq:Hid (Kq (fun k=>k=B) G (G.setCell ⟨B,8,none⟩ (.int .i64 12))):=aa ((Kq.refl G).setCell (Q:=fun k=>k=B) ⟨B,8,none⟩ rfl _);have a3:=aa (aq.box (Q:=fun k=>k=B) (fun q=>by have:=t.out;omega) aM);have bX:=aa (ek.kept ⟨_,_,_,ac⟩ aq (F':=fun i=>F i\/BB<=i) (fun i q=>⟨fun r=>by rcases r with r | r;exact absurd (W.1 i r) (by have:=t.out;omega);have:=t.out;omega,by have:=t.out;omega⟩) (fun i q _=>q) ac.nb);have b0:Hid (Kb b w (G.setCell ⟨B,8,none⟩ (.int .i64 12))):=aa (ap.kq aq (fun i q=>by have:=t.out;omega));have af:=aa (b3.load (P:=CO) Db rfl (by kernel_rfl));have ah:=aa (a3.store (P:=CO) (cs':=cL ⟨7,l.id,l.obj,[],[],0,0,[],12⟩ ag ag ag) rfl (bk ⟨_,_,_,rfl⟩ ⟨_,_,_,rfl⟩ ⟨_,_,_,rfl⟩) (ty:=43) (by kernel_rfl));have ab:=aa (a3.set (cs':=cL ⟨7,l.id,l.obj,[],[],0,0,[],12⟩ ag ag ag) rfl)
    go_wp2_with first | ((with_reducible refine ao ?_ af.out ?_);rfl) | ((with_reducible refine ak ?_ ?_ ah.out ?_);rfl;rfl)
    refine De (v:=.tuple #[.agg (cL ⟨7,l.id,l.obj,[],[],0,0,[],12⟩ ag ag ag).toArray,.bool true]) (aI rfl rfl (ab.loadVar (P:=CO) Db rfl (by kernel_rfl)) rfl) rfl ?_;unfold la;rw[K.out.1,K.out.2];exact⟨_,_,_,_,rfl,Dh.fin W (by have:=aP.out;have:=t.out;omega) b0 (cn.nil _ _ _ _ _ _ _ _) bX _⟩
   ·have K:=aa (a7 h4);have dF:¬(4:Int)<=(N:Int):=by omega
    obtain⟨aL,bE⟩:=exq G.heap.size;have a0:=aa bE;have dK:b < aL:=by rw[bE];exact bf
    have dk:P0 < aL:=by rw[bE];exact bN
    have dy:Hid (∀n,au G n->aX n (.slice po N co) N (aD cO D)):=aa fun n h2=>by have h:=R.ro.BD.ext h2;rw[<-X.out.2.2.2.1]at h;exact h
    have cV:Hid ((aD cO D).length=N*2):=aa (by rw[bu (s:=2) (fun x _=>km x),<-X.out.2.2.2.1]);have dv:Hid (∀c∈aD cO D,c.oneCell'=true):=aa (xZ R.ok);have bs:Hid (N+1<=maxLen/\(N+1)*32<=140737488355328/\0+N<=maxLen/\(0+N)*32<=140737488355328):=aa (by have:=X.out;unfold maxLen;omega);have aY:=bp.cell (i:=7) (v:=.slice O J M) rfl;obtain⟨oj,cv⟩:=exq l.obj;rw[<-cv]at S;have dC:=aa cv;clear bE cv cZ a7
    go_wp2_with fail
    apply az (fun a b=>Below aL a b) (JP aL 95 N (aD cO D) [.int .i64 oj,.slice O J M]) 16 [86,87,88,89,90,91,92,93,94,95,96,97,98,99,100,101] [ar _,cR,ar _,ar _,ar _,ar _,cR,ar _,ar _,ar _,ar _,ar _,cR,cR,ar _,ar _] (fun w=>CT _ w) (fun a b c h k=>Below.trans h k) (by kernel_rfl) (by kernel_rfl) (by kernel_rfl) (by kernel_rfl);case hsteps=>
     refine⟨?_,?_,?_,?_,?_,?_,?_,?_,?_,?_,?_,?_,?_,?_,?_,?_,trivial⟩;all_goals
      intro d ev C f A Y ad U y j;replace Y:=aa Y;replace A:=aa A;replace ad:=aa ad;replace U:=aa U;have e0:=y 0 (by decide);have e3:=y 3 (by decide);clear y;simp only[sB]at e0 e3;simp only[sG]at j;have I:=(ay f).1;have Z:au G C:=by rw[au,<-a0.out];exact f
      have k0:=(I _ 0 dK).trans bg;have k2:=(I _ 2 dk).trans S;have k7:=(I _ 7 dk).trans aY;simp only[C8,if_true];first
      | (have hp:=A.a (Y 1 (by kernel_rfl)) U;(with_reducible refine gy yr hp (dy.out C Z) cV.out dv.out bs.out.2.2.1 bs.out.2.2.2 A.out.le ?_ ?_ ?_);rfl;exact(by first | ((repeat(first | exact j | exact j.2 | replace j:=j.1));done) | ((repeat(first | exact j | exact j.1 | replace j:=j.2));first | done | fail));exact fun v' w' k1 k2 k3=>(A.Ce (List.cons_ne_nil _ _) (Y 1 (by kernel_rfl)) U (ad 13 (by kernel_rfl)) k1 k2 k3).imp id fun h=>⟨trivial,h⟩) | ((with_reducible refine qD ?_ ?_ ?_ (xf oj O J M C) ?_);exact fun w=>CT _ w;exact(by first | ((repeat(first | exact j | exact j.2 | replace j:=j.1));done) | ((repeat(first | exact j | exact j.1 | replace j:=j.2));first | done | fail));exact(by first | ((repeat(first | exact j | exact j.2 | replace j:=j.1));done) | ((repeat(first | exact j | exact j.1 | replace j:=j.2));first | done | fail));exact⟨rfl,A.same (by decide)⟩) | ((with_reducible refine dx (v:=.agg #[.int .i64 oj,.slice O J M]) yr (by decide) ?_ rfl ?_);exact(by first | ((repeat(first | exact j | exact j.2 | replace j:=j.1));done) | ((repeat(first | exact j | exact j.1 | replace j:=j.2));first | done | fail));exact⟨dY _ _ A.le,trivial,A.BS (ad 13 (by kernel_rfl))⟩) | (have hp:=A.b (Y 6 (by kernel_rfl)) U;obtain⟨g9,dM,dR,_,_⟩:=A.l (Y 12 (by kernel_rfl)) U;have dS:aX C (.slice (some ⟨g9,0,none⟩) 1 1) 1 [.int .i64 oj,.slice O J M]:=.inr ⟨g9,0,1,rfl,Nat.le_refl _,by decide,dR⟩;have dN:([.int .i64 oj,.slice O J M]:List CQ).length=1*2:=rfl;(with_reducible refine gy yr hp dS dN (zB _ _ _ _) bs.out.1 bs.out.2.1 A.out.le ?_ ?_ ?_);rfl;exact dM;exact fun v' w' k1 k2 k3=>(A.Cf (Y 6 (by kernel_rfl)) U k1 k2).imp id fun h=>⟨trivial,h⟩)
      | (go_simp;first | exact⟨CT _ _,rfl,A.same (by decide)⟩ | exact⟨dY _ _ A.le,trivial,A.new (List.cons_ne_nil _ _) (ad 6 (by kernel_rfl)) (ad 13 (by kernel_rfl))⟩ | exact⟨CT _ _,rfl,HJ.same (by decide) A⟩)
    case hmono=>exact mR
    case hR0=>exact(CT _ _).drew
    case hend=>
     intro u C f hJ hend;simp only[sE]at hend;simp only[sF,hend];have ho:=hJ.c rfl;obtain⟨p9,c9,h9,_,_⟩:=(aX.AS ho).form;rw[h9]at ho⊢;obtain⟨H,V⟩:=exq C;rw[<-V]at f ho⊢;have Z:au G H:=by rw[au,<-a0.out];exact f
     have bJ:=R.ext Z;have d9:=bJ.bx.cell (i:=0) (v:=.slice po N co) rfl;have d3:=bJ.bx.fz (i:=0) (show 0 < 2 by decide);have cU:Hid (gV (fun i=>F i\/BB<=i) (H.setCell ⟨b,0,none⟩ (.slice p9 (N+1) c9)) b (.slice p9 (N+1) c9) dZ (D++[(l.obj,.slice O J M,l.blocks)]) ⟨s.AT++[(l.obj,l.blocks)],fx s l⟩):=aa (bJ.push (BB:=aL) (fun i q=>.inr (by have:=dq.out;have:=a0.out;omega)) (e:=95) (by rw[<-X.out.2.2.2.1];have h:=ho;rw[dC.out]at h;exact h) (b1.kept fun i E hl=>⟨E,Z.block i hl⟩));have bZ:Hid (Kq (fun i=>i=b) G (H.setCell ⟨b,0,none⟩ (.slice p9 (N+1) c9))):=aa ((Kq.AI Z).setCell (Q:=fun i=>i=b) ⟨b,0,none⟩ rfl _)
     have ds:Hid (Ae aL b w (H.setCell ⟨b,0,none⟩ (.slice p9 (N+1) c9))):=aa ⟨aN.1.trans (bZ.mono fun i _ q=>.inl q),aN.2.1.trans ((jn.AI Z).set (i:=0) (by decide) _),_,_,_,cU.bx.cell (i:=0) rfl,(Pk.AS ho).kept (fun i E=>Below.heap_setCell _ _ _ _ (by
      have:=((Pk.AS ho).block i E).1;show i≠b
      omega)) ((CT 0 H).setCell (p:=⟨b,0,none⟩) (C9 _) _).size,by
      simp only[List.length_append,cV.out,List.length_cons,List.length_nil]
      omega⟩
     have cJ:=aa (bZ.box (fun q=>by have:=t.out;omega) aM);have dp:=aa (bZ.box (fun q=>by have:=t.out;omega) bn);clear hJ hend f ho V Z bJ;have af:=aa (dp.load (P:=CO) Db rfl (by kernel_rfl));have ah:=aa (cJ.store (P:=CO) (cs':=cL ⟨2,l.id,l.obj,[],[],0,0,[],0⟩ ag ag ag) rfl (bk ⟨_,_,_,rfl⟩ ⟨_,_,_,rfl⟩ ⟨_,_,_,rfl⟩) (ty:=43) (by kernel_rfl));have ab:=aa (cJ.set (cs':=cL ⟨2,l.id,l.obj,[],[],0,0,[],0⟩ ag ag ag) rfl)
     go_wp2_with first | ((with_reducible refine ao ?_ af.out ?_);rfl) | ((with_reducible refine ak ?_ ?_ ah.out ?_);rfl;rfl)
     refine De (v:=.tuple #[.agg (cL ⟨2,l.id,l.obj,[],[],0,0,[],0⟩ ag ag ag).toArray,.bool true]) (aI rfl rfl (ab.loadVar (P:=CO) Db rfl (by kernel_rfl)) rfl) rfl ?_;unfold la;rw[K.out.1,K.out.2];exact⟨_,_,_,_,rfl,Dh.CD W (by have:=t.out;omega) (by have:=aM.lt;have:=a0.out;omega) ds (cn.nil _ _ _ _ _ _ _ _) ⟨_,_,_,cU⟩ _⟩
    case hJ0=>exact JP.start (Nat.le_of_eq a0)
 case hJ0=>exact ew.start (CT _ _).drew
end Go.Proofs.Bl
