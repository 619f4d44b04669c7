/- Walk of baileeref22.Check. -/
import Derived.Test.YtglenbikdahgjaaGreatDoorPs20
set_option maxRecDepth 100000
set_option maxHeartbeats 16000000
open Bool renaming not_false->Ec,not_true->DO,or_assoc->EM
open Go renaming Calls->CZ,Value->CQ,World->CP,maxLen->Dc,run_loadAt_mid->DS
open List renaming length_map->CY,take_of_length_le->CX,take_zero->Ek
open Nat renaming le_refl->CU,zero_le->C9
open Or renaming inl->D9
namespace Go.Proofs.Bl
open Go Go.RowKit Go.Proofs
open Go.Proofs.Tryz renaming func40->Gf,ntmps40->F4,prog->CO,underlying100->E5,underlying43->Db
theorem oZ (v:CQ) (l:BC) (w:CP) (h:eg w v l) (Q:l.kind=2):
  CZ CO 40 #[v] w fun e w'=>e=.returned (.int .i64 (aR l:Nat))/\au w w':=by
 have W:=aa h;obtain⟨aQ,vp,vs,vb,L,rfl,r⟩:=h;obtain rfl:=r.eq;have C:Hid (∀s,au w s->br l=true->bA l=true->CZ CO 60 #[.agg (cL l vp vs vb).toArray] s fun e w'=>∃v',e=.returned v'/\Bu w' .u8 v' (bE l)/\au s w'):=aa fun s h2 hn hz=>ei _ l s (W.ext h2) (by rw[Q];decide) hn hz
 obtain⟨kd,id,a,pl,sh,f,d,b,c⟩:=l;obtain⟨p1,D,e1,ah,aI⟩:=r.pl.form;obtain⟨p2,E,e2,aG,aJ⟩:=r.sh.rd.form;obtain⟨G,F,e3,ai,aK⟩:=r.bl.form;have aA:Hid (Bu w .i64 vp pl):=aa r.pl;have aD:=aa r.sh;have aE:Hid (L.map cC=sh):=aa r.sl;have az:Hid (aU w vb b):=aa r.bl;simp only at e1 e2 e3 Q ah ai;subst Q;subst e1 e2 e3;clear r W;unfold Dc at aI aJ aK;obtain⟨B,S⟩:=exq pl.length;obtain⟨z,K⟩:=exq L.length;obtain⟨A,R⟩:=exq b.length;have x:=aa S;have aP:=aa K;have u:=aa R;have y:Hid (sh.length=z):=aa (by rw[<-aE.out,CY,K]);rw[<-S]at aA ah C⊢;rw[<-K]at aD aG C⊢;rw[<-R]at az ai C⊢;clear S K R;obtain⟨qI,T⟩:=exq (wi id 0 1099511627776);obtain⟨qO,U⟩:=exq (wi a 0 1099511627776);have N:Hid (br ⟨2,id,a,pl,sh,f,d,b,c⟩=(qI&&qO&&true)):=aa (by rw[T,U];unfold br jN;rfl);have HS:Hid (bA ⟨2,id,a,pl,sh,f,d,b,c⟩=true):=aa (by unfold bA;rfl);have t:=aa (gX ⟨2,id,a,pl,sh,f,d,b,c⟩);have aB:=aa T;have aC:=aa U;clear T U;obtain⟨W0,J⟩:=exq (w.alloc (.cells #[.int .i64 2,.int .i64 id,.int .i64 a,.slice p1 B D,.slice p2 z E,.int .i64 f,.int .i64 d,.slice G A F,.int .i64 c] 43));have n:Hid (au w W0):=aa (by rw[J];exact ae _ _);obtain⟨j,I⟩:=exq (cL ⟨2,id,a,pl,sh,f,d,b,c⟩ (.slice p1 B D) (.slice p2 z E) (.slice G A F));rw[<-I]at C;have g:Hid (aw W0 w.heap.size j):=aa (by rw[J,I];exact aw.box w 43 (cs:=(cL ⟨2,id,a,pl,sh,f,d,b,c⟩ (.slice p1 B D) (.slice p2 z E) (.slice G A F))) (fun h=>by cases h));have i:Hid (j[0]? =some (.int .i64 2)/\j[1]? =some (.int .i64 id)/\j[2]? =some (.int .i64 a)/\j[3]? =some (.slice p1 B D)/\j[4]? =some (.slice p2 z E)/\j[5]? =some (.int .i64 f)/\j[6]? =some (.int .i64 d)/\j[7]? =some (.slice G A F)/\j[8]? =some (.int .i64 c)/\j.length=9):=aa (by rw[I];exact⟨rfl,rfl,rfl,rfl,rfl,rfl,rfl,rfl,rfl,rfl⟩);show CZ CO 40 #[.agg #[.int .i64 2,.int .i64 id,.int .i64 a,.slice p1 B D,.slice p2 z E,.int .i64 f,.int .i64 d,.slice G A F,.int .i64 c]] w _;clear I;go_enter Gf,F4
 go_wp2_with fail
 rw[<-J];clear J;refine(bz _ _ _ _).mono ?_;rintro e s ⟨rfl,hw⟩;subst hw;have q0:=g.cell i.1;have q1:=g.cell i.2.1;have q2:=g.cell i.2.2.1;rw[show(!wi 2 1 7)=false from rfl]
 go_wp2_with fail
 refine(bz _ _ _ _).mono ?_;rintro e s ⟨rfl,hw⟩;subst hw;rw[<-aB.out];clear q1;cases qI
 ·rw[Ec];have HV:=aa (ie (l:=⟨2,id,a,pl,sh,f,d,b,c⟩) rfl (by rw[N.out];rfl))
  go_wp2_with fail
  go_ret;exact⟨by rw[HV.out];rfl,n⟩
 ·rw[DO]
  go_wp2_with fail
  refine(bz _ _ _ _).mono ?_;rintro e s ⟨rfl,hw⟩;subst hw;rw[<-aC.out];cases qO
  ·rw[Ec];have HV:=aa (ie (l:=⟨2,id,a,pl,sh,f,d,b,c⟩) rfl (by rw[N.out];rfl))
   go_wp2_with fail
   go_ret;exact⟨by rw[HV.out];rfl,n⟩
  ·rw[DO];have q0:=g.cell i.1;have q1:=g.cell i.2.1;have q2:=g.cell i.2.2.1;have q3:=g.cell i.2.2.2.1;have q4:=g.cell i.2.2.2.2.1;have q5:=g.cell i.2.2.2.2.2.1;have q6:=g.cell i.2.2.2.2.2.2.1;have q7:=g.cell i.2.2.2.2.2.2.2.1;have q8:=g.cell i.2.2.2.2.2.2.2.2.1;have o:Hid (br ⟨2,id,a,pl,sh,f,d,b,c⟩=true):=aa (by rw[N.out];rfl);have p:Hid (bA ⟨2,id,a,pl,sh,f,d,b,c⟩=true):=aa HS
   go_wp2_with (with_reducible refine fj ?_)
   refine ax ?_;iterate 28 (try (first | go_values | go_skip | go_guarded | go_step | go_upon | go_back | (simp only[Int.not_lt,Int.not_le]at*;go_simp) | (go_values<;>(try go_simp))))
   rw[lY];by_cases aT:(0:Int) < (A:Int)
   ·have HV:=aa (dR (l:=⟨2,id,a,pl,sh,f,d,b,c⟩) rfl o p (fun q=>by obtain⟨k,a2,a3,a4,a5,m⟩:=t.1 q;(try dsimp only at k a2 a3 a4 a5 m);have:=x.out;have:=y.out;have:=u.out;omega))
    go_wp2_with fail
    go_ret;exact⟨by rw[HV.out];rfl,n⟩
   by_cases aV:(0:Int) < (B:Int)
   ·have HV:=aa (dR (l:=⟨2,id,a,pl,sh,f,d,b,c⟩) rfl o p (fun q=>by obtain⟨k,a2,a3,a4,a5,m⟩:=t.1 q;(try dsimp only at k a2 a3 a4 a5 m);have:=x.out;have:=y.out;have:=u.out;omega))
    go_wp2_with fail
    go_ret;exact⟨by rw[HV.out];rfl,n⟩
   by_cases aW:(0:Int) < (z:Int)
   ·have HV:=aa (dR (l:=⟨2,id,a,pl,sh,f,d,b,c⟩) rfl o p (fun q=>by obtain⟨k,a2,a3,a4,a5,m⟩:=t.1 q;(try dsimp only at k a2 a3 a4 a5 m);have:=x.out;have:=y.out;have:=u.out;omega))
    go_wp2_with fail
    go_ret;exact⟨by rw[HV.out];rfl,n⟩
   by_cases am:f=0
   rotate_left
   ·have aZ:(f==0)=false:=by rw[beq_eq_false_iff_ne];exact am
    have HV:=aa (dR (l:=⟨2,id,a,pl,sh,f,d,b,c⟩) rfl o p (fun q=>by obtain⟨k,a2,a3,a4,a5,m⟩:=t.1 q;(try dsimp only at k a2 a3 a4 a5 m);have:=x.out;have:=y.out;have:=u.out;omega))
    go_wp2_with fail
    go_ret;exact⟨by rw[HV.out];rfl,n⟩
   subst am;by_cases al:d=0
   rotate_left
   ·have aY:(d==0)=false:=by rw[beq_eq_false_iff_ne];exact al
    have HV:=aa (dR (l:=⟨2,id,a,pl,sh,0,d,b,c⟩) rfl o p (fun q=>by obtain⟨k,a2,a3,a4,a5,m⟩:=t.1 q;(try dsimp only at k a2 a3 a4 a5 m);have:=x.out;have:=y.out;have:=u.out;omega))
    go_wp2_with fail
    go_ret;exact⟨by rw[HV.out];rfl,n⟩
   subst al;by_cases ak:c=0
   rotate_left
   ·have aX:(c==0)=false:=by rw[beq_eq_false_iff_ne];exact ak
    have HV:=aa (dR (l:=⟨2,id,a,pl,sh,0,0,b,c⟩) rfl o p (fun q=>by obtain⟨k,a2,a3,a4,a5,m⟩:=t.1 q;(try dsimp only at k a2 a3 a4 a5 m);have:=x.out;have:=y.out;have:=u.out;omega))
    go_wp2_with fail
    go_ret;exact⟨by rw[HV.out];rfl,n⟩
   subst ak;have hf:dU ⟨2,id,a,pl,sh,0,0,b,0⟩=true:=by refine t.2 ⟨?_,?_,?_,?_,?_,?_⟩<;>(first | exact D9 rfl | exact D9 (D9 rfl) | exact D9 (Or.inr rfl) | exact D9 trivial | exact D9 (D9 trivial) | exact D9 (Or.inr trivial) | ((try dsimp only);have:=x.out;have:=y.out;have:=u.out;omega))
   have Y:=aa hf;clear hf;have Z:=aa (g.load (P:=CO) Db rfl (by rw[i.out.2.2.2.2.2.2.2.2.2];kernel_rfl))
   go_wp2_with ((with_reducible refine ao ?_ Z.out ?_);rfl)
   refine(C _ n o p).mono ?_;rintro e wz ⟨vz,rfl,an,ag⟩;obtain⟨pz,cz,aH,_,_⟩:=an.form;subst aH;have V:=aa (n.trans ag);obtain⟨M,O⟩:=exq ((bE ⟨2,id,a,pl,sh,0,0,b,0⟩).length);rw[<-O];have X:=aa O;clear O an ag Z;by_cases H:8000 < M
   ·have aF:(8000:Int) < (M:Int):=by omega
    have HV:=aa (qZ (l:=⟨2,id,a,pl,sh,0,0,b,0⟩) rfl o p Y (by rw[<-X.out];exact H));clear H
    go_wp2_with fail
    go_ret;exact⟨by rw[HV.out];rfl,V⟩
   ·have aF:¬((8000:Int) < (M:Int)):=by omega
    have HV:=aa (rb (l:=⟨2,id,a,pl,sh,0,0,b,0⟩) rfl o p Y (by rw[<-X.out];exact H));clear H
    go_wp2_with fail
    go_ret;exact⟨by rw[HV.out];rfl,V⟩
theorem pf (v:CQ) (l:BC) (w:CP) (h:eg w v l) (Q:l.kind=5):
  CZ CO 40 #[v] w fun e w'=>e=.returned (.int .i64 (aR l:Nat))/\au w w':=by
 have W:=aa h;obtain⟨aW,vp,vs,vb,L,rfl,n⟩:=h;obtain rfl:=n.eq;have A:Hid (∀m,au w m->br l=true->bA l=true->CZ CO 60 #[.agg (cL l vp vs vb).toArray] m fun e w'=>∃v',e=.returned v'/\Bu w' .u8 v' (bE l)/\au m w'):=aa fun m h2 hn hz=>ei _ l m (W.ext h2) (by rw[Q];decide) hn hz
 obtain⟨kd,id,c,pl,sh,b,a,d,f⟩:=l;obtain⟨p1,E,e1,aj,aK⟩:=n.pl.form;obtain⟨p2,F,e2,aI,aL⟩:=n.sh.rd.form;obtain⟨H,G,e3,ak,aM⟩:=n.bl.form;have aC:Hid (Bu w .i64 vp pl):=aa n.pl;have aF:=aa n.sh;have aG:Hid (L.map cC=sh):=aa n.sl;have aB:Hid (aU w vb d):=aa n.bl;simp only at e1 e2 e3 Q aj ak;subst Q;subst e1 e2 e3;clear n W;unfold Dc at aK aL aM;obtain⟨y,S⟩:=exq pl.length;obtain⟨u,N⟩:=exq L.length;obtain⟨x,R⟩:=exq d.length;have C:=aa S;have aV:=aa N;have B:=aa R;have D:Hid (sh.length=u):=aa (by rw[<-aG.out,CY,N]);rw[<-S]at aC aj A⊢;rw[<-N]at aF aI A⊢;rw[<-R]at aB ak A⊢;clear S N R;obtain⟨qI,T⟩:=exq (wi id 0 1099511627776);obtain⟨qO,U⟩:=exq (wi c 0 1099511627776);have o:Hid (br ⟨5,id,c,pl,sh,b,a,d,f⟩=(qI&&qO&&(wi a 1 512&&wi b 0 511))):=aa (by rw[T,U];unfold br jN;rfl);have HS:Hid (bA ⟨5,id,c,pl,sh,b,a,d,f⟩=true):=aa (by unfold bA;rfl);have z:=aa (gX ⟨5,id,c,pl,sh,b,a,d,f⟩);have aD:=aa T;have aE:=aa U;clear T U;obtain⟨W0,K⟩:=exq (w.alloc (.cells #[.int .i64 5,.int .i64 id,.int .i64 c,.slice p1 y E,.slice p2 u F,.int .i64 b,.int .i64 a,.slice H x G,.int .i64 f] 43));have k:Hid (au w W0):=aa (by rw[K];exact ae _ _);obtain⟨j,J⟩:=exq (cL ⟨5,id,c,pl,sh,b,a,d,f⟩ (.slice p1 y E) (.slice p2 u F) (.slice H x G));rw[<-J]at A;have g:Hid (aw W0 w.heap.size j):=aa (by rw[K,J];exact aw.box w 43 (cs:=(cL ⟨5,id,c,pl,sh,b,a,d,f⟩ (.slice p1 y E) (.slice p2 u F) (.slice H x G))) (fun h=>by cases h));have i:Hid (j[0]? =some (.int .i64 5)/\j[1]? =some (.int .i64 id)/\j[2]? =some (.int .i64 c)/\j[3]? =some (.slice p1 y E)/\j[4]? =some (.slice p2 u F)/\j[5]? =some (.int .i64 b)/\j[6]? =some (.int .i64 a)/\j[7]? =some (.slice H x G)/\j[8]? =some (.int .i64 f)/\j.length=9):=aa (by rw[J];exact⟨rfl,rfl,rfl,rfl,rfl,rfl,rfl,rfl,rfl,rfl⟩);show CZ CO 40 #[.agg #[.int .i64 5,.int .i64 id,.int .i64 c,.slice p1 y E,.slice p2 u F,.int .i64 b,.int .i64 a,.slice H x G,.int .i64 f]] w _;clear J;go_enter Gf,F4
 go_wp2_with fail
 rw[<-K];clear K;refine(bz _ _ _ _).mono ?_;rintro e m ⟨rfl,hw⟩;subst hw;have q0:=g.cell i.1;have q1:=g.cell i.2.1;have q2:=g.cell i.2.2.1;rw[show(!wi 5 1 7)=false from rfl]
 go_wp2_with fail
 refine(bz _ _ _ _).mono ?_;rintro e m ⟨rfl,hw⟩;subst hw;rw[<-aD.out];clear q1;cases qI
 ·rw[Ec];have HV:=aa (ie (l:=⟨5,id,c,pl,sh,b,a,d,f⟩) rfl (by rw[o.out];rfl))
  go_wp2_with fail
  go_ret;exact⟨by rw[HV.out];rfl,k⟩
 ·rw[DO]
  go_wp2_with fail
  refine(bz _ _ _ _).mono ?_;rintro e m ⟨rfl,hw⟩;subst hw;rw[<-aE.out];cases qO
  ·rw[Ec];have HV:=aa (ie (l:=⟨5,id,c,pl,sh,b,a,d,f⟩) rfl (by rw[o.out];rfl))
   go_wp2_with fail
   go_ret;exact⟨by rw[HV.out];rfl,k⟩
  ·rw[DO];have q0:=g.cell i.1;have q1:=g.cell i.2.1;have q2:=g.cell i.2.2.1;have q3:=g.cell i.2.2.2.1;have q4:=g.cell i.2.2.2.2.1;have q5:=g.cell i.2.2.2.2.2.1;have q6:=g.cell i.2.2.2.2.2.2.1;have q7:=g.cell i.2.2.2.2.2.2.2.1;have q8:=g.cell i.2.2.2.2.2.2.2.2.1;obtain⟨qC,an⟩:=exq (wi a 1 512);have ab:=aa an;clear an;rw[<-ab.out]at o
   go_wp2_with fail
   refine(bz _ _ _ _).mono ?_;rintro e m ⟨rfl,hw⟩;subst hw;rw[<-ab.out];cases qC
   ·rw[Ec];have HV:=aa (ie (l:=⟨5,id,c,pl,sh,b,a,d,f⟩) rfl (by rw[o.out];rfl))
    go_wp2_with fail
    go_ret;exact⟨by rw[HV.out];rfl,k⟩
   rw[DO];obtain⟨qF,ap⟩:=exq (wi b 0 511);have ac:=aa ap;clear ap;rw[<-ac.out]at o
   go_wp2_with fail
   refine(bz _ _ _ _).mono ?_;rintro e m ⟨rfl,hw⟩;subst hw;rw[<-ac.out];cases qF
   ·rw[Ec];have HV:=aa (ie (l:=⟨5,id,c,pl,sh,b,a,d,f⟩) rfl (by rw[o.out];rfl))
    go_wp2_with fail
    go_ret;exact⟨by rw[HV.out];rfl,k⟩
   rw[DO];have p:Hid (br ⟨5,id,c,pl,sh,b,a,d,f⟩=true):=aa (by rw[o.out];rfl);have r:Hid (bA ⟨5,id,c,pl,sh,b,a,d,f⟩=true):=aa HS
   go_wp2_with (with_reducible refine fj ?_)
   refine ax ?_;iterate 28 (try (first | go_values | go_skip | go_guarded | go_step | go_upon | go_back | (simp only[Int.not_lt,Int.not_le]at*;go_simp) | (go_values<;>(try go_simp))))
   rw[lY];by_cases aY:(0:Int) < (x:Int)
   ·have HV:=aa (dR (l:=⟨5,id,c,pl,sh,b,a,d,f⟩) rfl p r (fun q=>by obtain⟨s,a2,a3,a4,a5,t⟩:=z.1 q;(try dsimp only at s a2 a3 a4 a5 t);have:=C.out;have:=D.out;have:=B.out;omega))
    go_wp2_with fail
    go_ret;exact⟨by rw[HV.out];rfl,k⟩
   by_cases aZ:(0:Int) < (y:Int)
   ·have HV:=aa (dR (l:=⟨5,id,c,pl,sh,b,a,d,f⟩) rfl p r (fun q=>by obtain⟨s,a2,a3,a4,a5,t⟩:=z.1 q;(try dsimp only at s a2 a3 a4 a5 t);have:=C.out;have:=D.out;have:=B.out;omega))
    go_wp2_with fail
    go_ret;exact⟨by rw[HV.out];rfl,k⟩
   by_cases a0:(0:Int) < (u:Int)
   ·have HV:=aa (dR (l:=⟨5,id,c,pl,sh,b,a,d,f⟩) rfl p r (fun q=>by obtain⟨s,a2,a3,a4,a5,t⟩:=z.1 q;(try dsimp only at s a2 a3 a4 a5 t);have:=C.out;have:=D.out;have:=B.out;omega))
    go_wp2_with fail
    go_ret;exact⟨by rw[HV.out];rfl,k⟩
   by_cases am:f=0
   rotate_left
   ·have a1:(f==0)=false:=by rw[beq_eq_false_iff_ne];exact am
    have HV:=aa (dR (l:=⟨5,id,c,pl,sh,b,a,d,f⟩) rfl p r (fun q=>by obtain⟨s,a2,a3,a4,a5,t⟩:=z.1 q;(try dsimp only at s a2 a3 a4 a5 t);have:=C.out;have:=D.out;have:=B.out;omega))
    go_wp2_with fail
    go_ret;exact⟨by rw[HV.out];rfl,k⟩
   subst am;have hf:dU ⟨5,id,c,pl,sh,b,a,d,0⟩=true:=by refine z.2 ⟨?_,?_,?_,?_,?_,?_⟩<;>(first | exact D9 rfl | exact D9 (D9 rfl) | exact D9 (Or.inr rfl) | exact D9 trivial | exact D9 (D9 trivial) | exact D9 (Or.inr trivial) | ((try dsimp only);have:=C.out;have:=D.out;have:=B.out;omega))
   have Y:=aa hf;clear hf;have Z:=aa (g.load (P:=CO) Db rfl (by rw[i.out.2.2.2.2.2.2.2.2.2];kernel_rfl))
   go_wp2_with ((with_reducible refine ao ?_ Z.out ?_);rfl)
   refine(A _ k p r).mono ?_;rintro e wz ⟨vz,rfl,aq,ai⟩;obtain⟨pz,cz,aJ,_,_⟩:=aq.form;subst aJ;have V:=aa (k.trans ai);obtain⟨M,O⟩:=exq ((bE ⟨5,id,c,pl,sh,b,a,d,0⟩).length);rw[<-O];have X:=aa O;clear O aq ai Z;by_cases I:8000 < M
   ·have aH:(8000:Int) < (M:Int):=by omega
    have HV:=aa (qZ (l:=⟨5,id,c,pl,sh,b,a,d,0⟩) rfl p r Y (by rw[<-X.out];exact I));clear I
    go_wp2_with fail
    go_ret;exact⟨by rw[HV.out];rfl,V⟩
   ·have aH:¬((8000:Int) < (M:Int)):=by omega
    have HV:=aa (rb (l:=⟨5,id,c,pl,sh,b,a,d,0⟩) rfl p r Y (by rw[<-X.out];exact I));clear I
    go_wp2_with fail
    go_ret;exact⟨by rw[HV.out];rfl,V⟩
theorem pg (v:CQ) (l:BC) (w:CP) (h:eg w v l) (Q:l.kind=7):
  CZ CO 40 #[v] w fun e w'=>e=.returned (.int .i64 (aR l:Nat))/\au w w':=by
 have W:=aa h;obtain⟨aT,vp,vs,vb,L,rfl,o⟩:=h;obtain rfl:=o.eq;have C:Hid (∀p,au w p->br l=true->bA l=true->CZ CO 60 #[.agg (cL l vp vs vb).toArray] p fun e w'=>∃v',e=.returned v'/\Bu w' .u8 v' (bE l)/\au p w'):=aa fun p h2 hn hz=>ei _ l p (W.ext h2) (by rw[Q];decide) hn hz
 obtain⟨kd,id,b,pl,sh,f,d,c,a⟩:=l;obtain⟨p1,E,e1,ai,aJ⟩:=o.pl.form;obtain⟨p2,F,e2,aH,aK⟩:=o.sh.rd.form;obtain⟨H,G,e3,aj,aL⟩:=o.bl.form;have aB:Hid (Bu w .i64 vp pl):=aa o.pl;have aE:=aa o.sh;have aF:Hid (L.map cC=sh):=aa o.sl;have aA:Hid (aU w vb c):=aa o.bl;simp only at e1 e2 e3 Q ai aj;subst Q;subst e1 e2 e3;clear o W;unfold Dc at aJ aK aL;obtain⟨B,S⟩:=exq pl.length;obtain⟨t,N⟩:=exq L.length;obtain⟨A,R⟩:=exq c.length;have y:=aa S;have aS:=aa N;have x:=aa R;have z:Hid (sh.length=t):=aa (by rw[<-aF.out,CY,N]);rw[<-S]at aB ai C⊢;rw[<-N]at aE aH C⊢;rw[<-R]at aA aj C⊢;clear S N R;obtain⟨qI,T⟩:=exq (wi id 0 1099511627776);obtain⟨qO,U⟩:=exq (wi b 0 1099511627776);have D:Hid (br ⟨7,id,b,pl,sh,f,d,c,a⟩=(qI&&qO&&wi a 1 255)):=aa (by rw[T,U];unfold br jN;rfl);have HS:Hid (bA ⟨7,id,b,pl,sh,f,d,c,a⟩=true):=aa (by unfold bA;rfl);have u:=aa (gX ⟨7,id,b,pl,sh,f,d,c,a⟩);have aC:=aa T;have aD:=aa U;clear T U;obtain⟨W0,K⟩:=exq (w.alloc (.cells #[.int .i64 7,.int .i64 id,.int .i64 b,.slice p1 B E,.slice p2 t F,.int .i64 f,.int .i64 d,.slice H A G,.int .i64 a] 43));have k:Hid (au w W0):=aa (by rw[K];exact ae _ _);obtain⟨j,J⟩:=exq (cL ⟨7,id,b,pl,sh,f,d,c,a⟩ (.slice p1 B E) (.slice p2 t F) (.slice H A G));rw[<-J]at C;have g:Hid (aw W0 w.heap.size j):=aa (by rw[K,J];exact aw.box w 43 (cs:=(cL ⟨7,id,b,pl,sh,f,d,c,a⟩ (.slice p1 B E) (.slice p2 t F) (.slice H A G))) (fun h=>by cases h));have i:Hid (j[0]? =some (.int .i64 7)/\j[1]? =some (.int .i64 id)/\j[2]? =some (.int .i64 b)/\j[3]? =some (.slice p1 B E)/\j[4]? =some (.slice p2 t F)/\j[5]? =some (.int .i64 f)/\j[6]? =some (.int .i64 d)/\j[7]? =some (.slice H A G)/\j[8]? =some (.int .i64 a)/\j.length=9):=aa (by rw[J];exact⟨rfl,rfl,rfl,rfl,rfl,rfl,rfl,rfl,rfl,rfl⟩);show CZ CO 40 #[.agg #[.int .i64 7,.int .i64 id,.int .i64 b,.slice p1 B E,.slice p2 t F,.int .i64 f,.int .i64 d,.slice H A G,.int .i64 a]] w _;clear J;go_enter Gf,F4
 go_wp2_with fail
 rw[<-K];clear K;refine(bz _ _ _ _).mono ?_;rintro e p ⟨rfl,hw⟩;subst hw;have q0:=g.cell i.1;have q1:=g.cell i.2.1;have q2:=g.cell i.2.2.1;rw[show(!wi 7 1 7)=false from rfl]
 go_wp2_with fail
 refine(bz _ _ _ _).mono ?_;rintro e p ⟨rfl,hw⟩;subst hw;rw[<-aC.out];clear q1;cases qI
 ·rw[Ec];have HV:=aa (ie (l:=⟨7,id,b,pl,sh,f,d,c,a⟩) rfl (by rw[D.out];rfl))
  go_wp2_with fail
  go_ret;exact⟨by rw[HV.out];rfl,k⟩
 ·rw[DO]
  go_wp2_with fail
  refine(bz _ _ _ _).mono ?_;rintro e p ⟨rfl,hw⟩;subst hw;rw[<-aD.out];cases qO
  ·rw[Ec];have HV:=aa (ie (l:=⟨7,id,b,pl,sh,f,d,c,a⟩) rfl (by rw[D.out];rfl))
   go_wp2_with fail
   go_ret;exact⟨by rw[HV.out];rfl,k⟩
  ·rw[DO];have q0:=g.cell i.1;have q1:=g.cell i.2.1;have q2:=g.cell i.2.2.1;have q3:=g.cell i.2.2.2.1;have q4:=g.cell i.2.2.2.2.1;have q5:=g.cell i.2.2.2.2.2.1;have q6:=g.cell i.2.2.2.2.2.2.1;have q7:=g.cell i.2.2.2.2.2.2.2.1;have q8:=g.cell i.2.2.2.2.2.2.2.2.1;obtain⟨qC,an⟩:=exq (wi a 1 255);have ab:=aa an;clear an;rw[<-ab.out]at D
   go_wp2_with fail
   refine(bz _ _ _ _).mono ?_;rintro e p ⟨rfl,hw⟩;subst hw;rw[<-ab.out];cases qC
   ·rw[Ec];have HV:=aa (ie (l:=⟨7,id,b,pl,sh,f,d,c,a⟩) rfl (by rw[D.out];rfl))
    go_wp2_with fail
    go_ret;exact⟨by rw[HV.out];rfl,k⟩
   rw[DO];have r:Hid (br ⟨7,id,b,pl,sh,f,d,c,a⟩=true):=aa (by rw[D.out];rfl);have s:Hid (bA ⟨7,id,b,pl,sh,f,d,c,a⟩=true):=aa HS
   go_wp2_with (with_reducible refine fj ?_)
   refine ax ?_;iterate 28 (try (first | go_values | go_skip | go_guarded | go_step | go_upon | go_back | (simp only[Int.not_lt,Int.not_le]at*;go_simp) | (go_values<;>(try go_simp))))
   rw[lY];by_cases aW:(0:Int) < (A:Int)
   ·have HV:=aa (dR (l:=⟨7,id,b,pl,sh,f,d,c,a⟩) rfl r s (fun q=>by obtain⟨m,a2,a3,a4,a5,n⟩:=u.1 q;(try dsimp only at m a2 a3 a4 a5 n);have:=y.out;have:=z.out;have:=x.out;omega))
    go_wp2_with fail
    go_ret;exact⟨by rw[HV.out];rfl,k⟩
   by_cases aX:(0:Int) < (B:Int)
   ·have HV:=aa (dR (l:=⟨7,id,b,pl,sh,f,d,c,a⟩) rfl r s (fun q=>by obtain⟨m,a2,a3,a4,a5,n⟩:=u.1 q;(try dsimp only at m a2 a3 a4 a5 n);have:=y.out;have:=z.out;have:=x.out;omega))
    go_wp2_with fail
    go_ret;exact⟨by rw[HV.out];rfl,k⟩
   by_cases aY:(0:Int) < (t:Int)
   ·have HV:=aa (dR (l:=⟨7,id,b,pl,sh,f,d,c,a⟩) rfl r s (fun q=>by obtain⟨m,a2,a3,a4,a5,n⟩:=u.1 q;(try dsimp only at m a2 a3 a4 a5 n);have:=y.out;have:=z.out;have:=x.out;omega))
    go_wp2_with fail
    go_ret;exact⟨by rw[HV.out];rfl,k⟩
   by_cases am:f=0
   rotate_left
   ·have a0:(f==0)=false:=by rw[beq_eq_false_iff_ne];exact am
    have HV:=aa (dR (l:=⟨7,id,b,pl,sh,f,d,c,a⟩) rfl r s (fun q=>by obtain⟨m,a2,a3,a4,a5,n⟩:=u.1 q;(try dsimp only at m a2 a3 a4 a5 n);have:=y.out;have:=z.out;have:=x.out;omega))
    go_wp2_with fail
    go_ret;exact⟨by rw[HV.out];rfl,k⟩
   subst am;by_cases al:d=0
   rotate_left
   ·have aZ:(d==0)=false:=by rw[beq_eq_false_iff_ne];exact al
    have HV:=aa (dR (l:=⟨7,id,b,pl,sh,0,d,c,a⟩) rfl r s (fun q=>by obtain⟨m,a2,a3,a4,a5,n⟩:=u.1 q;(try dsimp only at m a2 a3 a4 a5 n);have:=y.out;have:=z.out;have:=x.out;omega))
    go_wp2_with fail
    go_ret;exact⟨by rw[HV.out];rfl,k⟩
   subst al;have hf:dU ⟨7,id,b,pl,sh,0,0,c,a⟩=true:=by refine u.2 ⟨?_,?_,?_,?_,?_,?_⟩<;>(first | exact D9 rfl | exact D9 (D9 rfl) | exact D9 (Or.inr rfl) | exact D9 trivial | exact D9 (D9 trivial) | exact D9 (Or.inr trivial) | ((try dsimp only);have:=y.out;have:=z.out;have:=x.out;omega))
   have Y:=aa hf;clear hf;have Z:=aa (g.load (P:=CO) Db rfl (by rw[i.out.2.2.2.2.2.2.2.2.2];kernel_rfl))
   go_wp2_with ((with_reducible refine ao ?_ Z.out ?_);rfl)
   refine(C _ k r s).mono ?_;rintro e wz ⟨vz,rfl,ap,ah⟩;obtain⟨pz,cz,aI,_,_⟩:=ap.form;subst aI;have V:=aa (k.trans ah);obtain⟨M,O⟩:=exq ((bE ⟨7,id,b,pl,sh,0,0,c,a⟩).length);rw[<-O];have X:=aa O;clear O ap ah Z;by_cases I:8000 < M
   ·have aG:(8000:Int) < (M:Int):=by omega
    have HV:=aa (qZ (l:=⟨7,id,b,pl,sh,0,0,c,a⟩) rfl r s Y (by rw[<-X.out];exact I));clear I
    go_wp2_with fail
    go_ret;exact⟨by rw[HV.out];rfl,V⟩
   ·have aG:¬((8000:Int) < (M:Int)):=by omega
    have HV:=aa (rb (l:=⟨7,id,b,pl,sh,0,0,c,a⟩) rfl r s Y (by rw[<-X.out];exact I));clear I
    go_wp2_with fail
    go_ret;exact⟨by rw[HV.out];rfl,V⟩
theorem ph (v:CQ) (l:BC) (w:CP) (h:eg w v l) (W:l.kind=3):
  CZ CO 40 #[v] w fun e w'=>e=.returned (.int .i64 (aR l:Nat))/\au w w':=by
 have HL:=aa h;obtain⟨bo,vp,vs,vb,L,rfl,C⟩:=h;obtain rfl:=C.eq;have O:Hid (∀y,au w y->br l=true->bA l=true->CZ CO 60 #[.agg (cL l vp vs vb).toArray] y fun e w'=>∃v',e=.returned v'/\Bu w' .u8 v' (bE l)/\au y w'):=aa fun y h2 hn hz=>ei _ l y (HL.ext h2) (by rw[W];decide) hn hz
 obtain⟨kd,id,f,pl,sh,n,m,g,j⟩:=l;obtain⟨p1,S,e1,aO,bf⟩:=C.pl.form;obtain⟨p2,T,e2,bd,bg⟩:=C.sh.rd.form;obtain⟨Y,U,e3,aP,bh⟩:=C.bl.form;have Q:Hid (Bu w .i64 vp pl):=aa C.pl;have a8:=aa C.sh;have a9:Hid (L.map cC=sh):=aa C.sl;have a0:Hid (aU w vb g):=aa C.bl;simp only at e1 e2 e3 W aO aP;subst W;subst e1 e2 e3;clear C HL;unfold Dc at bf bg bh;obtain⟨s,ay⟩:=exq pl.length;obtain⟨E,ak⟩:=exq L.length;obtain⟨J,ax⟩:=exq g.length;have t:=aa ay;have bn:=aa ak;have H:=aa ax;have I:Hid (sh.length=E):=aa (by rw[<-a9.out,CY,ak]);rw[<-ay]at Q aO O⊢;rw[<-ak]at a8 bd O⊢;rw[<-ax]at a0 aP O⊢;clear ay ak ax;obtain⟨qI,aB⟩:=exq (wi id 0 1099511627776);obtain⟨qO,aC⟩:=exq (wi f 0 1099511627776);have HN:Hid (br ⟨3,id,f,pl,sh,n,m,g,j⟩=(qI&&qO&& !pl.any fE)):=aa (by rw[aB,aC];unfold br jN;rfl);have u:Hid (bA ⟨3,id,f,pl,sh,n,m,g,j⟩=wi pl.length 1 12):=aa (by unfold bA;rfl);have G:=aa (gX ⟨3,id,f,pl,sh,n,m,g,j⟩);have a6:=aa aB;have a7:=aa aC;clear aB aC;obtain⟨W0,aj⟩:=exq (w.alloc (.cells #[.int .i64 3,.int .i64 id,.int .i64 f,.slice p1 s S,.slice p2 E T,.int .i64 n,.int .i64 m,.slice Y J U,.int .i64 j] 43));have aD:Hid (au w W0):=aa (by rw[aj];exact ae _ _);obtain⟨r,ai⟩:=exq (cL ⟨3,id,f,pl,sh,n,m,g,j⟩ (.slice p1 s S) (.slice p2 E T) (.slice Y J U));rw[<-ai]at O;have c:Hid (aw W0 w.heap.size r):=aa (by rw[aj,ai];exact aw.box w 43 (cs:=(cL ⟨3,id,f,pl,sh,n,m,g,j⟩ (.slice p1 s S) (.slice p2 E T) (.slice Y J U))) (fun h=>by cases h));have a:Hid (r[0]? =some (.int .i64 3)/\r[1]? =some (.int .i64 id)/\r[2]? =some (.int .i64 f)/\r[3]? =some (.slice p1 s S)/\r[4]? =some (.slice p2 E T)/\r[5]? =some (.int .i64 n)/\r[6]? =some (.int .i64 m)/\r[7]? =some (.slice Y J U)/\r[8]? =some (.int .i64 j)/\r.length=9):=aa (by rw[ai];exact⟨rfl,rfl,rfl,rfl,rfl,rfl,rfl,rfl,rfl,rfl⟩);show CZ CO 40 #[.agg #[.int .i64 3,.int .i64 id,.int .i64 f,.slice p1 s S,.slice p2 E T,.int .i64 n,.int .i64 m,.slice Y J U,.int .i64 j]] w _;clear ai;go_enter Gf,F4
 go_wp2_with fail
 rw[<-aj];clear aj;refine(bz _ _ _ _).mono ?_;rintro e y ⟨rfl,hw⟩;subst hw;have K:=c.cell a.1;have F:=c.cell a.2.1;have N:=c.cell a.2.2.1;rw[show(!wi 3 1 7)=false from rfl]
 go_wp2_with fail
 refine(bz _ _ _ _).mono ?_;rintro e y ⟨rfl,hw⟩;subst hw;rw[<-a6.out];clear F;cases qI
 ·rw[Ec];have K:=c.cell a.1;have F:=c.cell a.2.1;have N:=c.cell a.2.2.1;have Z:=c.cell a.2.2.2.1;have q4:=c.cell a.2.2.2.2.1;have q5:=c.cell a.2.2.2.2.2.1;have q6:=c.cell a.2.2.2.2.2.2.1;have q7:=c.cell a.2.2.2.2.2.2.2.1;have q8:=c.cell a.2.2.2.2.2.2.2.2.1
  go_wp2_with fail
  clear K F N Z q4 q5 q6 q7 q8;go_loopw [3,29] (fun o i wr=>∃(k:Nat) (b:Bool),k<=s/\i=.int .i64 k/\o=.bool b/\Hid (b=true)/\Hid (aw wr w.heap.size r)/\Hid (au w wr)) (fun _ i _=>s - (intOf i).toNat);case atStart=>exact⟨0,_,C9 _,rfl,rfl,aa (rfl),c,aD⟩
  case round=>
   obtain⟨k,b,W,rfl,rfl,D,d,p⟩:=hrel;by_cases av:k < s
   ·have X:k < pl.length:=by rw[<-t.out];exact av
    obtain⟨b1,o1,bb,az,_,_,_,_,V⟩:=Bu.pos (k:=.i64) (l:=pl) (by rw[t.out]at Q;exact Q.ext p) (by omega);injection az with an ap aq;subst an;have ar:=V k X;have R:=aa (eH fE pl 0 X);obtain⟨x,hx⟩:=exq (pl.getD k 0);rw[<-hx]at ar R;clear V ap aq hx;obtain rfl:b=true:=D.out
    go_wp2_with fail
    go_roundw;case rel=>exact⟨k+1,true,by omega,by go_num,rfl,aa rfl,d,p⟩
    case measure=>simp[intOf];omega
   ·obtain rfl:k=s:=by omega
    have K:=d.cell a.1;have F:=d.cell a.2.1;have N:=d.cell a.2.2.1;have Z:=d.cell a.2.2.2.1;have q4:=d.cell a.2.2.2.2.1;have q5:=d.cell a.2.2.2.2.2.1;have q6:=d.cell a.2.2.2.2.2.2.1;have q7:=d.cell a.2.2.2.2.2.2.2.1;have q8:=d.cell a.2.2.2.2.2.2.2.2.1;obtain rfl:b=true:=D.out;have HV:=aa (ie (l:=⟨3,id,f,pl,sh,n,m,g,j⟩) rfl (by rw[HN.out];rfl))
    go_wp2_with fail
    go_ret;exact⟨by rw[HV.out];rfl,p⟩
 ·rw[DO]
  go_wp2_with fail
  refine(bz _ _ _ _).mono ?_;rintro e y ⟨rfl,hw⟩;subst hw;rw[<-a7.out];have K:=c.cell a.1;have F:=c.cell a.2.1;have N:=c.cell a.2.2.1;have Z:=c.cell a.2.2.2.1;have q4:=c.cell a.2.2.2.2.1;have q5:=c.cell a.2.2.2.2.2.1;have q6:=c.cell a.2.2.2.2.2.2.1;have q7:=c.cell a.2.2.2.2.2.2.2.1;have q8:=c.cell a.2.2.2.2.2.2.2.2.1
  go_wp2_with fail
  clear K F N Z q4 q5 q6 q7 q8;go_loopw [3,29] (fun o i wr=>∃(k:Nat) (b:Bool),k<=s/\i=.int .i64 k/\o=.bool b/\Hid (b=(!qO||(pl.take k).any fE))/\Hid (aw wr w.heap.size r)/\Hid (au w wr)) (fun _ i _=>s - (intOf i).toNat);case atStart=>exact⟨0,_,C9 _,rfl,rfl,aa (by rw[Ek];simp),c,aD⟩
  case round=>
   obtain⟨k,b,W,rfl,rfl,D,d,p⟩:=hrel;by_cases av:k < s
   ·have X:k < pl.length:=by rw[<-t.out];exact av
    obtain⟨b1,o1,bb,az,_,_,_,_,V⟩:=Bu.pos (k:=.i64) (l:=pl) (by rw[t.out]at Q;exact Q.ext p) (by omega);injection az with an ap aq;subst an;have ar:=V k X;have R:=aa (eH fE pl 0 X);obtain⟨x,hx⟩:=exq (pl.getD k 0);rw[<-hx]at ar R;clear V ap aq hx;cases b
    ·go_wp2_with fail
     refine(bz _ _ _ _).mono ?_;rintro e y ⟨rfl,hw⟩;subst hw
     go_wp2_with fail
     go_roundw;case rel=>exact⟨k+1,_,by omega,by go_num,rfl,aa (by rw[R.out,<-EM,<-D.out];rfl),d,p⟩
     case measure=>simp[intOf];omega
    ·go_wp2_with fail
     go_roundw;case rel=>exact⟨k+1,true,by omega,by go_num,rfl,aa (by rw[R.out,<-EM,<-D.out];rfl),d,p⟩
     case measure=>simp[intOf];omega
   ·obtain rfl:k=s:=by omega
    have K:=d.cell a.1;have F:=d.cell a.2.1;have N:=d.cell a.2.2.1;have Z:=d.cell a.2.2.2.1;have q4:=d.cell a.2.2.2.2.1;have q5:=d.cell a.2.2.2.2.2.1;have q6:=d.cell a.2.2.2.2.2.2.1;have q7:=d.cell a.2.2.2.2.2.2.2.1;have q8:=d.cell a.2.2.2.2.2.2.2.2.1;rw[CX (by rw[<-t.out];exact CU _)]at D;cases b
    rotate_left
    ·have HV:=aa (ie (l:=⟨3,id,f,pl,sh,n,m,g,j⟩) rfl (by rw[HN.out];exact zb D))
     go_wp2_with fail
     go_ret;exact⟨by rw[HV.out];rfl,p⟩
    have z:Hid (br ⟨3,id,f,pl,sh,n,m,g,j⟩=true):=aa (by rw[HN.out];obtain⟨z1,z2⟩:=vH D;rw[z1,z2];rfl);obtain⟨qB,aA⟩:=exq (wi (k:Int) 1 12);rw[<-t.out,<-aA]at u;have a1:=aa aA;clear aA
    go_wp2_with fail
    refine(bz _ _ _ _).mono ?_;rintro e y ⟨rfl,hw⟩;subst hw;rw[<-a1.out];cases qB
    ·rw[Ec];have HV:=aa (xe (l:=⟨3,id,f,pl,sh,n,m,g,j⟩) rfl z (u))
     go_wp2_with fail
     go_ret;exact⟨by rw[HV.out];rfl,p⟩
    rw[DO];iterate 17 (try (first | go_values | go_skip | go_guarded | go_step | go_upon | go_back | (simp only[]at*;go_simp) | (go_values<;>(try go_simp))))
    rw[lY];by_cases bq:(0:Int) < (J:Int)
    ·have HV:=aa (dR (l:=⟨3,id,f,pl,sh,n,m,g,j⟩) rfl z u (fun q=>by obtain⟨A,a2,a3,a4,a5,B⟩:=G.1 q;(try dsimp only at A a2 a3 a4 a5 B);have:=t.out;have:=I.out;have:=H.out;omega))
     go_wp2_with fail
     go_ret;exact⟨by rw[HV.out];rfl,p⟩
    by_cases bs:(0:Int) < (E:Int)
    ·have HV:=aa (dR (l:=⟨3,id,f,pl,sh,n,m,g,j⟩) rfl z u (fun q=>by obtain⟨A,a2,a3,a4,a5,B⟩:=G.1 q;(try dsimp only at A a2 a3 a4 a5 B);have:=t.out;have:=I.out;have:=H.out;omega))
     go_wp2_with fail
     go_ret;exact⟨by rw[HV.out];rfl,p⟩
    by_cases aV:n=0
    rotate_left
    ·have bv:(n==0)=false:=by rw[beq_eq_false_iff_ne];exact aV
     have HV:=aa (dR (l:=⟨3,id,f,pl,sh,n,m,g,j⟩) rfl z u (fun q=>by obtain⟨A,a2,a3,a4,a5,B⟩:=G.1 q;(try dsimp only at A a2 a3 a4 a5 B);have:=t.out;have:=I.out;have:=H.out;omega))
     go_wp2_with fail
     go_ret;exact⟨by rw[HV.out];rfl,p⟩
    subst aV;by_cases aT:m=0
    rotate_left
    ·have bu:(m==0)=false:=by rw[beq_eq_false_iff_ne];exact aT
     have HV:=aa (dR (l:=⟨3,id,f,pl,sh,0,m,g,j⟩) rfl z u (fun q=>by obtain⟨A,a2,a3,a4,a5,B⟩:=G.1 q;(try dsimp only at A a2 a3 a4 a5 B);have:=t.out;have:=I.out;have:=H.out;omega))
     go_wp2_with fail
     go_ret;exact⟨by rw[HV.out];rfl,p⟩
    subst aT;by_cases aS:j=0
    rotate_left
    ·have bt:(j==0)=false:=by rw[beq_eq_false_iff_ne];exact aS
     have HV:=aa (dR (l:=⟨3,id,f,pl,sh,0,0,g,j⟩) rfl z u (fun q=>by obtain⟨A,a2,a3,a4,a5,B⟩:=G.1 q;(try dsimp only at A a2 a3 a4 a5 B);have:=t.out;have:=I.out;have:=H.out;omega))
     go_wp2_with fail
     go_ret;exact⟨by rw[HV.out];rfl,p⟩
    subst aS;have hf:dU ⟨3,id,f,pl,sh,0,0,g,0⟩=true:=by refine G.2 ⟨?_,?_,?_,?_,?_,?_⟩<;>(first | exact D9 rfl | exact D9 (D9 rfl) | exact D9 (Or.inr rfl) | exact D9 trivial | exact D9 (D9 trivial) | exact D9 (Or.inr trivial) | ((try dsimp only);have:=t.out;have:=I.out;have:=H.out;omega))
    have Hf:=aa hf;clear hf;have Hl:=aa (d.load (P:=CO) Db rfl (by rw[a.out.2.2.2.2.2.2.2.2.2];kernel_rfl))
    go_wp2_with ((with_reducible refine ao ?_ Hl.out ?_);rfl)
    refine(O _ p z u).mono ?_;rintro e wz ⟨vz,rfl,aW,aN⟩;obtain⟨pz,cz,be,_,_⟩:=aW.form;subst be;have aE:=aa (p.trans aN);obtain⟨M,hM⟩:=exq ((bE ⟨3,id,f,pl,sh,0,0,g,0⟩).length);rw[<-hM];have HM:=aa hM;clear hM aW aN Hl;by_cases h8:8000 < M
    ·have bc:(8000:Int) < (M:Int):=by omega
     have HV:=aa (qZ (l:=⟨3,id,f,pl,sh,0,0,g,0⟩) rfl z u Hf (by rw[<-HM.out];exact h8));clear h8
     go_wp2_with fail
     go_ret;exact⟨by rw[HV.out];rfl,aE⟩
    ·have bc:¬((8000:Int) < (M:Int)):=by omega
     have HV:=aa (rb (l:=⟨3,id,f,pl,sh,0,0,g,0⟩) rfl z u Hf (by rw[<-HM.out];exact h8));clear h8
     go_wp2_with fail
     go_ret;exact⟨by rw[HV.out];rfl,aE⟩
theorem pj (v:CQ) (l:BC) (w:CP) (h:eg w v l) (hk:l.kind=4):
  CZ CO 40 #[v] w fun e w'=>e=.returned (.int .i64 (aR l:Nat))/\au w w':=by
 have HL:=aa h;obtain⟨cg,vp,vs,vb,L,rfl,X⟩:=h;obtain rfl:=X.eq;have aP:Hid (∀R,au w R->br l=true->bA l=true->CZ CO 60 #[.agg (cL l vp vs vb).toArray] R fun e w'=>∃v',e=.returned v'/\Bu w' .u8 v' (bE l)/\au R w'):=aa fun R h2 hn hz=>ei _ l R (HL.ext h2) (by rw[hk];decide) hn hz
 obtain⟨kd,id,f,pl,sh,t,r,m,p⟩:=l;obtain⟨p1,c1,e1,bL,b9⟩:=X.pl.form;obtain⟨p2,c2,e2,b7,ca⟩:=X.sh.rd.form;obtain⟨p3,c3,e3,bM,cb⟩:=X.bl.form;have b1:Hid (Bu w .i64 vp pl):=aa X.pl;have a6:=aa X.sh;have a7:Hid (L.map cC=sh):=aa X.sl;have b0:Hid (aU w vb m):=aa X.bl;simp only at e1 e2 e3 hk bL bM;subst hk;subst e1 e2 e3;clear X HL;unfold Dc at b9 ca cb;obtain⟨np,bm⟩:=exq pl.length;obtain⟨j,bd⟩:=exq L.length;obtain⟨nb,bl⟩:=exq m.length;have aL:=aa bm;have bi:=aa bd;have aK:=aa bl;have I:Hid (sh.length=j):=aa (by rw[<-a7.out,CY,bd]);rw[<-bm]at b1 bL aP⊢;rw[<-bd]at a6 b7 aP⊢;rw[<-bl]at b0 bM aP⊢;clear bm bd bl;obtain⟨qI,bo⟩:=exq (wi id 0 1099511627776);obtain⟨qO,bp⟩:=exq (wi f 0 1099511627776);have HN:Hid (br ⟨4,id,f,pl,sh,t,r,m,p⟩=(qI&&qO&& !sh.any (fun s=>fE s.1))):=aa (by rw[bo,bp];unfold br jN;rfl);have HS:Hid (bA ⟨4,id,f,pl,sh,t,r,m,p⟩=(wi sh.length 1 12&& !sh.any gQ)):=aa (by unfold bA;rfl);have HF:=aa (gX ⟨4,id,f,pl,sh,t,r,m,p⟩);have b3:=aa bo;have b4:=aa bp;clear bo bp;obtain⟨W0,bc⟩:=exq (w.alloc (.cells #[.int .i64 4,.int .i64 id,.int .i64 f,.slice p1 np c1,.slice p2 j c2,.int .i64 t,.int .i64 r,.slice p3 nb c3,.int .i64 p] 43));have a1:Hid (au w W0):=aa (by rw[bc];exact ae _ _);obtain⟨F,bb⟩:=exq (cL ⟨4,id,f,pl,sh,t,r,m,p⟩ (.slice p1 np c1) (.slice p2 j c2) (.slice p3 nb c3));rw[<-bb]at aP;have d:Hid (aw W0 w.heap.size F):=aa (by rw[bc,bb];exact aw.box w 43 (cs:=(cL ⟨4,id,f,pl,sh,t,r,m,p⟩ (.slice p1 np c1) (.slice p2 j c2) (.slice p3 nb c3))) (fun h=>by cases h));have a:Hid (F[0]? =some (.int .i64 4)/\F[1]? =some (.int .i64 id)/\F[2]? =some (.int .i64 f)/\F[3]? =some (.slice p1 np c1)/\F[4]? =some (.slice p2 j c2)/\F[5]? =some (.int .i64 t)/\F[6]? =some (.int .i64 r)/\F[7]? =some (.slice p3 nb c3)/\F[8]? =some (.int .i64 p)/\F.length=9):=aa (by rw[bb];exact⟨rfl,rfl,rfl,rfl,rfl,rfl,rfl,rfl,rfl,rfl⟩);show CZ CO 40 #[.agg #[.int .i64 4,.int .i64 id,.int .i64 f,.slice p1 np c1,.slice p2 j c2,.int .i64 t,.int .i64 r,.slice p3 nb c3,.int .i64 p]] w _;clear bb;go_enter Gf,F4
 go_wp2_with fail
 rw[<-bc];clear bc;refine(bz _ _ _ _).mono ?_;rintro e R ⟨rfl,hw⟩;subst hw;have q0:=d.cell a.1;have Y:=d.cell a.2.1;have q2:=d.cell a.2.2.1;rw[show(!wi 4 1 7)=false from rfl]
 go_wp2_with fail
 refine(bz _ _ _ _).mono ?_;rintro e R ⟨rfl,hw⟩;subst hw;rw[<-b3.out];clear Y;cases qI
 ·rw[Ec];have q0:=d.cell a.1;have Y:=d.cell a.2.1;have q2:=d.cell a.2.2.1;have q3:=d.cell a.2.2.2.1;have q4:=d.cell a.2.2.2.2.1;have q5:=d.cell a.2.2.2.2.2.1;have q6:=d.cell a.2.2.2.2.2.2.1;have q7:=d.cell a.2.2.2.2.2.2.2.1;have q8:=d.cell a.2.2.2.2.2.2.2.2.1
  go_wp2_with fail
  clear q0 Y q2 q3 q4 q5 q6 q7 q8;go_loopw [3,45] (fun o i wr=>∃(k:Nat) (b:Bool),k<=j/\i=.int .i64 k/\o=.bool b/\Hid (b=true)/\Hid (aw wr w.heap.size F)/\Hid (au w wr)) (fun _ i _=>j - (intOf i).toNat);case atStart=>exact⟨0,_,C9 _,rfl,rfl,aa (rfl),d,a1⟩
  case round=>
   obtain⟨k,b,hk,rfl,rfl,C,c,n⟩:=hrel;by_cases an:k < j
   ·have am:k < sh.length:=by rw[I.out];exact an
    have N:k < L.length:=by rw[<-bi.out];exact an
    have K:=a6.ext n;obtain⟨g,o,cc,aZ,_,_,_,al⟩:=K.pos (by omega);injection aZ with aT aV aW;subst aT;have H:=al k N;have G:=K.ok _ (aJ s0 N);have aq:cC (L.getD k s0)=sh.getD k h0:=by rw[<-dq,a7.out]
    have E:=aa (eH (fun s:Sh=>fE s.1) sh h0 am);rw[<-aq]at E;obtain⟨x,hx⟩:=exq (L.getD k s0);rw[<-hx]at H G E;clear hx aq al aV aW K;obtain⟨u,⟨u1,st⟩,u2,pa⟩:=x;obtain⟨y,d1,ar,_,aX⟩:=G.st.form;obtain⟨A,d2,av,_,aY⟩:=G.pa.form;simp only at ar av;subst ar av;obtain⟨m1,O⟩:=exq st.length;obtain⟨m2,Q⟩:=exq pa.length;rw[<-O,<-Q]at H;have bg:=aa O;have bh:=aa Q;have Z:=aa (DS (P:=CO) wr g (o+k*3) 100 _ _ H E5 rfl (by rw[bU];kernel_rfl));have ap:∀z∈([.int .i64 u,.slice y m1 d1,.slice A m2 d2]:List CQ),z.oneCell'=true:=eK ⟨_,_,_,rfl⟩ ⟨_,_,_,rfl⟩;obtain⟨ag,ai⟩:=aw.fresh (cs:=[.int .i64 u,.slice y m1 d1,.slice A m2 d2]) wr 100 eS rfl (fun q=>by cases q);have ac:=aa (aH (P:=CO) (cs:=[.int .i64 u,.slice y m1 d1,.slice A m2 d2]) wr 100 eS rfl ap (ty:=100) (by kernel_rfl));have B:=aa ag;have J:=aa ai;have bR:(0:Int)<=(k:Int):=by omega
    have bS:(k:Int) < (j:Int):=by omega
    clear H G ap ag ai O Q N am aX aY
    go_wp2_with first | ((with_reducible refine ao ?_ Z.out ?_);rfl) | (with_reducible refine aC (ty:=100) ?_)
    refine ax ?_;refine ak rfl rfl ac ?_;obtain⟨W5,aj⟩:=exq ((wr.alloc (.cells eS 100)).setCells wr.heap.size 0 [.int .i64 u,.slice y m1 d1,.slice A m2 d2]);obtain⟨D,hD⟩:=exq wr.heap.size;rw[<-aj]at B J⊢;rw[<-hD]at B⊢;have S:=aa (c.ext J);have T:=aa (n.trans J);have c0:=B.cell (i:=0) (v:=.int .i64 u) rfl;have c1:=B.cell (i:=1) (v:=.slice y m1 d1) rfl;have c2:=B.cell (i:=2) (v:=.slice A m2 d2) rfl;clear aj hD ac Z;obtain rfl:b=true:=C.out
    go_wp2_with fail
    go_roundw;case rel=>exact⟨k+1,true,by omega,by go_num,rfl,aa rfl,S,T⟩
    case measure=>simp[intOf];omega
   ·obtain rfl:k=j:=by omega
    have q0:=c.cell a.1;have Y:=c.cell a.2.1;have q2:=c.cell a.2.2.1;have q3:=c.cell a.2.2.2.1;have q4:=c.cell a.2.2.2.2.1;have q5:=c.cell a.2.2.2.2.2.1;have q6:=c.cell a.2.2.2.2.2.2.1;have q7:=c.cell a.2.2.2.2.2.2.2.1;have q8:=c.cell a.2.2.2.2.2.2.2.2.1;obtain rfl:b=true:=C.out;have HV:=aa (ie (l:=⟨4,id,f,pl,sh,t,r,m,p⟩) rfl (by rw[HN.out];rfl))
    go_wp2_with fail
    go_ret;exact⟨by rw[HV.out];rfl,n⟩
 ·rw[DO]
  go_wp2_with fail
  refine(bz _ _ _ _).mono ?_;rintro e R ⟨rfl,hw⟩;subst hw;rw[<-b4.out];have q0:=d.cell a.1;have Y:=d.cell a.2.1;have q2:=d.cell a.2.2.1;have q3:=d.cell a.2.2.2.1;have q4:=d.cell a.2.2.2.2.1;have q5:=d.cell a.2.2.2.2.2.1;have q6:=d.cell a.2.2.2.2.2.2.1;have q7:=d.cell a.2.2.2.2.2.2.2.1;have q8:=d.cell a.2.2.2.2.2.2.2.2.1
  go_wp2_with fail
  clear q0 Y q2 q3 q4 q5 q6 q7 q8;go_loopw [3,45] (fun o i wr=>∃(k:Nat) (b:Bool),k<=j/\i=.int .i64 k/\o=.bool b/\Hid (b=(!qO||(sh.take k).any (fun s:Sh=>fE s.1)))/\Hid (aw wr w.heap.size F)/\Hid (au w wr)) (fun _ i _=>j - (intOf i).toNat);case atStart=>exact⟨0,_,C9 _,rfl,rfl,aa (by rw[Ek];simp),d,a1⟩
  case round=>
   obtain⟨k,b,hk,rfl,rfl,C,c,n⟩:=hrel;by_cases an:k < j
   ·have am:k < sh.length:=by rw[I.out];exact an
    have N:k < L.length:=by rw[<-bi.out];exact an
    have K:=a6.ext n;obtain⟨g,o,cc,aZ,_,_,_,al⟩:=K.pos (by omega);injection aZ with aT aV aW;subst aT;have H:=al k N;have G:=K.ok _ (aJ s0 N);have aq:cC (L.getD k s0)=sh.getD k h0:=by rw[<-dq,a7.out]
    have E:=aa (eH (fun s:Sh=>fE s.1) sh h0 am);rw[<-aq]at E;obtain⟨x,hx⟩:=exq (L.getD k s0);rw[<-hx]at H G E;clear hx aq al aV aW K;obtain⟨u,⟨u1,st⟩,u2,pa⟩:=x;obtain⟨y,d1,ar,_,aX⟩:=G.st.form;obtain⟨A,d2,av,_,aY⟩:=G.pa.form;simp only at ar av;subst ar av;obtain⟨m1,O⟩:=exq st.length;obtain⟨m2,Q⟩:=exq pa.length;rw[<-O,<-Q]at H;have bg:=aa O;have bh:=aa Q;have Z:=aa (DS (P:=CO) wr g (o+k*3) 100 _ _ H E5 rfl (by rw[bU];kernel_rfl));have ap:∀z∈([.int .i64 u,.slice y m1 d1,.slice A m2 d2]:List CQ),z.oneCell'=true:=eK ⟨_,_,_,rfl⟩ ⟨_,_,_,rfl⟩;obtain⟨ag,ai⟩:=aw.fresh (cs:=[.int .i64 u,.slice y m1 d1,.slice A m2 d2]) wr 100 eS rfl (fun q=>by cases q);have ac:=aa (aH (P:=CO) (cs:=[.int .i64 u,.slice y m1 d1,.slice A m2 d2]) wr 100 eS rfl ap (ty:=100) (by kernel_rfl));have B:=aa ag;have J:=aa ai;have bR:(0:Int)<=(k:Int):=by omega
    have bS:(k:Int) < (j:Int):=by omega
    clear H G ap ag ai O Q N am aX aY
    go_wp2_with first | ((with_reducible refine ao ?_ Z.out ?_);rfl) | (with_reducible refine aC (ty:=100) ?_)
    refine ax ?_;refine ak rfl rfl ac ?_;obtain⟨W5,aj⟩:=exq ((wr.alloc (.cells eS 100)).setCells wr.heap.size 0 [.int .i64 u,.slice y m1 d1,.slice A m2 d2]);obtain⟨D,hD⟩:=exq wr.heap.size;rw[<-aj]at B J⊢;rw[<-hD]at B⊢;have S:=aa (c.ext J);have T:=aa (n.trans J);have c0:=B.cell (i:=0) (v:=.int .i64 u) rfl;have c1:=B.cell (i:=1) (v:=.slice y m1 d1) rfl;have c2:=B.cell (i:=2) (v:=.slice A m2 d2) rfl;clear aj hD ac Z;cases b
    ·go_wp2_with fail
     refine(bz _ _ _ _).mono ?_;rintro e R ⟨rfl,hw⟩;subst hw
     go_wp2_with fail
     go_roundw;case rel=>exact⟨k+1,_,by omega,by go_num,rfl,aa (by rw[E.out,<-EM,<-C.out];rfl),S,T⟩
     case measure=>simp[intOf];omega
    ·go_wp2_with fail
     go_roundw;case rel=>exact⟨k+1,true,by omega,by go_num,rfl,aa (by rw[E.out,<-EM,<-C.out];rfl),S,T⟩
     case measure=>simp[intOf];omega
   ·obtain rfl:k=j:=by omega
    have q0:=c.cell a.1;have Y:=c.cell a.2.1;have q2:=c.cell a.2.2.1;have q3:=c.cell a.2.2.2.1;have q4:=c.cell a.2.2.2.2.1;have q5:=c.cell a.2.2.2.2.2.1;have q6:=c.cell a.2.2.2.2.2.2.1;have q7:=c.cell a.2.2.2.2.2.2.2.1;have q8:=c.cell a.2.2.2.2.2.2.2.2.1;rw[CX (by rw[I.out];exact CU _)]at C;cases b
    rotate_left
    ·have HV:=aa (ie (l:=⟨4,id,f,pl,sh,t,r,m,p⟩) rfl (by rw[HN.out];exact zb C))
     go_wp2_with fail
     go_ret;exact⟨by rw[HV.out];rfl,n⟩
    have U:Hid (br ⟨4,id,f,pl,sh,t,r,m,p⟩=true):=aa (by rw[HN.out];obtain⟨z1,z2⟩:=vH C;rw[z1,z2];rfl);obtain⟨qB,bn⟩:=exq (wi (k:Int) 1 12);rw[I.out,<-bn]at HS;have b2:=aa bn;have d:=c;have a1:=n;clear bn c n C
    go_wp2_with fail
    refine(bz _ _ _ _).mono ?_;rintro e R ⟨rfl,hw⟩;subst hw;rw[<-b2.out]
    go_wp2_with fail
    clear q0 Y q2 q3 q4 q5 q6 q7 q8;obtain⟨j,rfl⟩:=exq k;go_loopw [3,128] (fun o i wr=>∃(k:Nat) (b:Bool),k<=j/\i=.int .i64 k/\o=.bool b/\Hid (b=(!qB||(sh.take k).any gQ))/\Hid (aw wr w.heap.size F)/\Hid (au w wr)) (fun _ i _=>j - (intOf i).toNat);case atStart=>exact⟨0,_,C9 _,rfl,rfl,aa (by rw[Ek];simp),d,a1⟩
    case round=>
     obtain⟨k,b,hk,rfl,rfl,C,c,n⟩:=hrel;by_cases an:k < j
     ·have am:k < sh.length:=by rw[I.out];exact an
      have N:k < L.length:=by rw[<-bi.out];exact an
      have K:=a6.ext n;obtain⟨g,o,cc,aZ,_,_,_,al⟩:=K.pos (by omega);injection aZ with aT aV aW;subst aT;have H:=al k N;have G:=K.ok _ (aJ s0 N);have aq:cC (L.getD k s0)=sh.getD k h0:=by rw[<-dq,a7.out]
      have E:=aa (eH (gQ) sh h0 am);rw[<-aq]at E;obtain⟨x,hx⟩:=exq (L.getD k s0);rw[<-hx]at H G E;clear hx aq al aV aW K;obtain⟨u,⟨u1,st⟩,u2,pa⟩:=x;obtain⟨y,d1,ar,_,aX⟩:=G.st.form;obtain⟨A,d2,av,_,aY⟩:=G.pa.form;simp only at ar av;subst ar av;obtain⟨m1,O⟩:=exq st.length;obtain⟨m2,Q⟩:=exq pa.length;rw[<-O,<-Q]at H;have bg:=aa O;have bh:=aa Q;have Z:=aa (DS (P:=CO) wr g (o+k*3) 100 _ _ H E5 rfl (by rw[bU];kernel_rfl));have ap:∀z∈([.int .i64 u,.slice y m1 d1,.slice A m2 d2]:List CQ),z.oneCell'=true:=eK ⟨_,_,_,rfl⟩ ⟨_,_,_,rfl⟩;obtain⟨ag,ai⟩:=aw.fresh (cs:=[.int .i64 u,.slice y m1 d1,.slice A m2 d2]) wr 100 eS rfl (fun q=>by cases q);have ac:=aa (aH (P:=CO) (cs:=[.int .i64 u,.slice y m1 d1,.slice A m2 d2]) wr 100 eS rfl ap (ty:=100) (by kernel_rfl));have B:=aa ag;have J:=aa ai;have bR:(0:Int)<=(k:Int):=by omega
      have bS:(k:Int) < (j:Int):=by omega
      clear H G ap ag ai O Q N am aX aY
      go_wp2_with first | ((with_reducible refine ao ?_ Z.out ?_);rfl) | (with_reducible refine aC (ty:=100) ?_)
      refine ax ?_;refine ak rfl rfl ac ?_;obtain⟨W5,aj⟩:=exq ((wr.alloc (.cells eS 100)).setCells wr.heap.size 0 [.int .i64 u,.slice y m1 d1,.slice A m2 d2]);obtain⟨D,hD⟩:=exq wr.heap.size;rw[<-aj]at B J⊢;rw[<-hD]at B⊢;have S:=aa (c.ext J);have T:=aa (n.trans J);have c0:=B.cell (i:=0) (v:=.int .i64 u) rfl;have c1:=B.cell (i:=1) (v:=.slice y m1 d1) rfl;have c2:=B.cell (i:=2) (v:=.slice A m2 d2) rfl;clear aj hD ac Z;have bK:Hid (gQ (cC (u,(.slice y st.length d1,st),.slice A pa.length d2,pa))=(!decide (m1=16)|| !decide (m2<=10))):=aa (by show(!decide (st.length=16)|| !decide (pa.length<=10))=_;rw[bg.out,bh.out]);rw[bK.out]at E;clear bK;cases b
      ·by_cases bj:m1=16
       ·subst bj;by_cases a8:m2<=10
        ·have b5:¬((10:Int) < (m2:Int)):=by omega
         have Hd:Hid (decide (m2<=10)=true):=aa (decide_eq_true a8);clear a8
         go_wp2_with fail
         go_roundw;case rel=>exact⟨k+1,false,by omega,by go_num,(by first | rfl | exact congrArg Value.bool a9),aa (by rw[E.out,Hd.out,<-EM,<-C.out];rfl),S,T⟩
         case measure=>simp[intOf];omega
        ·have b5:(10:Int) < (m2:Int):=by omega
         have Hd:Hid (decide (m2<=10)=false):=aa (decide_eq_false a8);clear a8
         go_wp2_with fail
         go_roundw;case rel=>exact⟨k+1,true,by omega,by go_num,(by first | rfl | exact congrArg Value.bool a9),aa (by rw[E.out,Hd.out,<-EM,<-C.out];rfl),S,T⟩
         case measure=>simp[intOf];omega
       ·have bI:¬((m1:Int)=16):=by omega
        have ci:((m1:Int)==16)=false:=by rw[beq_eq_false_iff_ne];exact bI
        have a9:((m1:Int) != 16)=true:=by rw[bne_iff_ne];exact bI
        have Hd:Hid (decide (m1=16)=false):=aa (decide_eq_false bj);clear bj
        go_wp2_with fail
        go_roundw;case rel=>exact⟨k+1,true,by omega,by go_num,(by first | rfl | exact congrArg Value.bool a9),aa (by rw[E.out,Hd.out,<-EM,<-C.out];rfl),S,T⟩
        case measure=>simp[intOf];omega
      ·go_wp2_with fail
       go_roundw;case rel=>exact⟨k+1,true,by omega,by go_num,(by first | rfl | exact congrArg Value.bool a9),aa (by rw[E.out,<-EM,<-C.out];rfl),S,T⟩
       case measure=>simp[intOf];omega
     ·obtain rfl:k=j:=by omega
      rw[CX (by rw[I.out];exact CU _)]at C;have q0:=c.cell a.1;have Y:=c.cell a.2.1;have q2:=c.cell a.2.2.1;have q3:=c.cell a.2.2.2.1;have q4:=c.cell a.2.2.2.2.1;have q5:=c.cell a.2.2.2.2.2.1;have q6:=c.cell a.2.2.2.2.2.2.1;have q7:=c.cell a.2.2.2.2.2.2.2.1;have q8:=c.cell a.2.2.2.2.2.2.2.2.1;cases b
      rotate_left
      ·have HV:=aa (xe (l:=⟨4,id,f,pl,sh,t,r,m,p⟩) rfl U (by rw[HS.out];exact yq C))
       go_wp2_with fail
       go_ret;exact⟨by rw[HV.out];rfl,n⟩
      have Hs:Hid (bA ⟨4,id,f,pl,sh,t,r,m,p⟩=true):=aa (by rw[HS.out];obtain⟨z1,z2⟩:=vH C;rw[z1,z2];rfl)
      go_wp2_with (with_reducible refine fj ?_)
      refine ax ?_;iterate 28 (try (first | go_values | go_skip | go_guarded | go_step | go_upon | go_back | (simp only[Int.not_lt,Int.not_le]at*;go_simp) | (go_values<;>(try go_simp))))
      rw[lY];by_cases cj:(0:Int) < (nb:Int)
      ·have HV:=aa (dR (l:=⟨4,id,f,pl,sh,t,r,m,p⟩) rfl U Hs (fun q=>by obtain⟨V,a2,a3,a4,a5,W⟩:=HF.1 q;(try dsimp only at V a2 a3 a4 a5 W);have:=aL.out;have:=I.out;have:=aK.out;omega))
       go_wp2_with fail
       go_ret;exact⟨by rw[HV.out];rfl,n⟩
      by_cases ck:(0:Int) < (np:Int)
      ·have HV:=aa (dR (l:=⟨4,id,f,pl,sh,t,r,m,p⟩) rfl U Hs (fun q=>by obtain⟨V,a2,a3,a4,a5,W⟩:=HF.1 q;(try dsimp only at V a2 a3 a4 a5 W);have:=aL.out;have:=I.out;have:=aK.out;omega))
       go_wp2_with fail
       go_ret;exact⟨by rw[HV.out];rfl,n⟩
      by_cases bQ:t=0
      rotate_left
      ·have cn:(t==0)=false:=by rw[beq_eq_false_iff_ne];exact bQ
       have HV:=aa (dR (l:=⟨4,id,f,pl,sh,t,r,m,p⟩) rfl U Hs (fun q=>by obtain⟨V,a2,a3,a4,a5,W⟩:=HF.1 q;(try dsimp only at V a2 a3 a4 a5 W);have:=aL.out;have:=I.out;have:=aK.out;omega))
       go_wp2_with fail
       go_ret;exact⟨by rw[HV.out];rfl,n⟩
      subst bQ;by_cases bP:r=0
      rotate_left
      ·have cm:(r==0)=false:=by rw[beq_eq_false_iff_ne];exact bP
       have HV:=aa (dR (l:=⟨4,id,f,pl,sh,0,r,m,p⟩) rfl U Hs (fun q=>by obtain⟨V,a2,a3,a4,a5,W⟩:=HF.1 q;(try dsimp only at V a2 a3 a4 a5 W);have:=aL.out;have:=I.out;have:=aK.out;omega))
       go_wp2_with fail
       go_ret;exact⟨by rw[HV.out];rfl,n⟩
      subst bP;by_cases bO:p=0
      rotate_left
      ·have cl:(p==0)=false:=by rw[beq_eq_false_iff_ne];exact bO
       have HV:=aa (dR (l:=⟨4,id,f,pl,sh,0,0,m,p⟩) rfl U Hs (fun q=>by obtain⟨V,a2,a3,a4,a5,W⟩:=HF.1 q;(try dsimp only at V a2 a3 a4 a5 W);have:=aL.out;have:=I.out;have:=aK.out;omega))
       go_wp2_with fail
       go_ret;exact⟨by rw[HV.out];rfl,n⟩
      subst bO;have hf:dU ⟨4,id,f,pl,sh,0,0,m,0⟩=true:=by refine HF.2 ⟨?_,?_,?_,?_,?_,?_⟩<;>(first | exact D9 rfl | exact D9 (D9 rfl) | exact D9 (Or.inr rfl) | exact D9 trivial | exact D9 (D9 trivial) | exact D9 (Or.inr trivial) | ((try dsimp only);have:=aL.out;have:=I.out;have:=aK.out;omega))
      have Hf:=aa hf;clear hf;have Hl:=aa (c.load (P:=CO) Db rfl (by rw[a.out.2.2.2.2.2.2.2.2.2];kernel_rfl))
      go_wp2_with ((with_reducible refine ao ?_ Hl.out ?_);rfl)
      refine(aP _ n U Hs).mono ?_;rintro e wz ⟨vz,rfl,bT,bJ⟩;obtain⟨pz,cz,b8,_,_⟩:=bT.form;subst b8;have bs:=aa (n.trans bJ);obtain⟨M,hM⟩:=exq ((bE ⟨4,id,f,pl,sh,0,0,m,0⟩).length);rw[<-hM];have HM:=aa hM;clear hM bT bJ Hl;by_cases h8:8000 < M
      ·have b6:(8000:Int) < (M:Int):=by omega
       have HV:=aa (qZ (l:=⟨4,id,f,pl,sh,0,0,m,0⟩) rfl U Hs Hf (by rw[<-HM.out];exact h8));clear h8
       go_wp2_with fail
       go_ret;exact⟨by rw[HV.out];rfl,bs⟩
      ·have b6:¬((8000:Int) < (M:Int)):=by omega
       have HV:=aa (rb (l:=⟨4,id,f,pl,sh,0,0,m,0⟩) rfl U Hs Hf (by rw[<-HM.out];exact h8));clear h8
       go_wp2_with fail
       go_ret;exact⟨by rw[HV.out];rfl,bs⟩
theorem pn (v:CQ) (l:BC) (w:CP) (h:eg w v l) (Y:l.kind=6):
  CZ CO 40 #[v] w fun e w'=>e=.returned (.int .i64 (aR l:Nat))/\au w w':=by
 have HL:=aa h;obtain⟨bF,vp,vs,vb,L,rfl,u⟩:=h;obtain rfl:=u.eq;have I:Hid (∀t,au w t->br l=true->bA l=true->CZ CO 60 #[.agg (cL l vp vs vb).toArray] t fun e w'=>∃v',e=.returned v'/\Bu w' .u8 v' (bE l)/\au t w'):=aa fun t h2 hn hz=>ei _ l t (HL.ext h2) (by rw[Y];decide) hn hz
 obtain⟨kd,id,d,pl,sh,c,j,a,g⟩:=l;obtain⟨p1,O,e1,aK,bo⟩:=u.pl.form;obtain⟨p2,Q,e2,bk,bp⟩:=u.sh.rd.form;obtain⟨S,R,e3,aL,bq⟩:=u.bl.form;have bc:Hid (Bu w .i64 vp pl):=aa u.pl;have bg:=aa u.sh;have bh:Hid (L.map cC=sh):=aa u.sl;have az:Hid (aU w vb a):=aa u.bl;simp only at e1 e2 e3 Y aK aL;subst Y;subst e1 e2 e3;clear u HL;unfold Dc at bo bp bq;obtain⟨F,aj⟩:=exq pl.length;obtain⟨D,Z⟩:=exq L.length;obtain⟨s,ai⟩:=exq a.length;have K:=aa aj;have bB:=aa Z;have z:=aa ai;have N:Hid (sh.length=D):=aa (by rw[<-bh.out,CY,Z]);rw[<-aj]at bc aK I⊢;rw[<-Z]at bg bk I⊢;rw[<-ai]at az aL I⊢;clear aj Z ai;obtain⟨qI,al⟩:=exq (wi id 0 1099511627776);obtain⟨qO,am⟩:=exq (wi d 0 1099511627776);have J:Hid (br ⟨6,id,d,pl,sh,c,j,a,g⟩=(qI&&qO&&wi c 0 511)):=aa (by rw[al,am];unfold br jN;rfl);have HS:Hid (bA ⟨6,id,d,pl,sh,c,j,a,g⟩=(wi a.length 1 512&& !a.any fa)):=aa (by unfold bA;rfl);have H:=aa (gX ⟨6,id,d,pl,sh,c,j,a,g⟩);have be:=aa al;have bf:=aa am;clear al am;obtain⟨W0,X⟩:=exq (w.alloc (.cells #[.int .i64 6,.int .i64 id,.int .i64 d,.slice p1 F O,.slice p2 D Q,.int .i64 c,.int .i64 j,.slice S s R,.int .i64 g] 43));have T:Hid (au w W0):=aa (by rw[X];exact ae _ _);obtain⟨p,W⟩:=exq (cL ⟨6,id,d,pl,sh,c,j,a,g⟩ (.slice p1 F O) (.slice p2 D Q) (.slice S s R));rw[<-W]at I;have m:Hid (aw W0 w.heap.size p):=aa (by rw[X,W];exact aw.box w 43 (cs:=(cL ⟨6,id,d,pl,sh,c,j,a,g⟩ (.slice p1 F O) (.slice p2 D Q) (.slice S s R))) (fun h=>by cases h));have f:Hid (p[0]? =some (.int .i64 6)/\p[1]? =some (.int .i64 id)/\p[2]? =some (.int .i64 d)/\p[3]? =some (.slice p1 F O)/\p[4]? =some (.slice p2 D Q)/\p[5]? =some (.int .i64 c)/\p[6]? =some (.int .i64 j)/\p[7]? =some (.slice S s R)/\p[8]? =some (.int .i64 g)/\p.length=9):=aa (by rw[W];exact⟨rfl,rfl,rfl,rfl,rfl,rfl,rfl,rfl,rfl,rfl⟩);show CZ CO 40 #[.agg #[.int .i64 6,.int .i64 id,.int .i64 d,.slice p1 F O,.slice p2 D Q,.int .i64 c,.int .i64 j,.slice S s R,.int .i64 g]] w _;clear W;go_enter Gf,F4
 go_wp2_with fail
 rw[<-X];clear X;refine(bz _ _ _ _).mono ?_;rintro e t ⟨rfl,hw⟩;subst hw;have q0:=m.cell f.1;have q1:=m.cell f.2.1;have q2:=m.cell f.2.2.1;rw[show(!wi 6 1 7)=false from rfl]
 go_wp2_with fail
 refine(bz _ _ _ _).mono ?_;rintro e t ⟨rfl,hw⟩;subst hw;rw[<-be.out];clear q1;cases qI
 ·rw[Ec];have HV:=aa (ie (l:=⟨6,id,d,pl,sh,c,j,a,g⟩) rfl (by rw[J.out];rfl))
  go_wp2_with fail
  go_ret;exact⟨by rw[HV.out];rfl,T⟩
 ·rw[DO]
  go_wp2_with fail
  refine(bz _ _ _ _).mono ?_;rintro e t ⟨rfl,hw⟩;subst hw;rw[<-bf.out];cases qO
  ·rw[Ec];have HV:=aa (ie (l:=⟨6,id,d,pl,sh,c,j,a,g⟩) rfl (by rw[J.out];rfl))
   go_wp2_with fail
   go_ret;exact⟨by rw[HV.out];rfl,T⟩
  ·rw[DO];have q0:=m.cell f.1;have q1:=m.cell f.2.1;have q2:=m.cell f.2.2.1;have q3:=m.cell f.2.2.2.1;have q4:=m.cell f.2.2.2.2.1;have q5:=m.cell f.2.2.2.2.2.1;have q6:=m.cell f.2.2.2.2.2.2.1;have q7:=m.cell f.2.2.2.2.2.2.2.1;have q8:=m.cell f.2.2.2.2.2.2.2.2.1;obtain⟨qF,aS⟩:=exq (wi c 0 511);have aC:=aa aS;clear aS;rw[<-aC.out]at J
   go_wp2_with fail
   refine(bz _ _ _ _).mono ?_;rintro e t ⟨rfl,hw⟩;subst hw;rw[<-aC.out];cases qF
   ·rw[Ec];have HV:=aa (ie (l:=⟨6,id,d,pl,sh,c,j,a,g⟩) rfl (by rw[J.out];rfl))
    go_wp2_with fail
    go_ret;exact⟨by rw[HV.out];rfl,T⟩
   rw[DO];have x:Hid (br ⟨6,id,d,pl,sh,c,j,a,g⟩=true):=aa (by rw[J.out];rfl);obtain⟨qB,ak⟩:=exq (wi (s:Int) 1 512);rw[<-z.out,<-ak]at HS;have bd:=aa ak;clear ak
   go_wp2_with fail
   refine(bz _ _ _ _).mono ?_;rintro e t ⟨rfl,hw⟩;subst hw;rw[<-bd.out]
   go_wp2_with fail
   clear q0 q1 q2 q3 q4 q5 q6 q7 q8;go_loopw [3,107] (fun o i wr=>∃(k:Nat) (b:Bool),k<=s/\i=.int .i64 k/\o=.bool b/\Hid (b=(!qB||(a.take k).any fa))/\Hid (aw wr w.heap.size p)/\Hid (au w wr)) (fun _ i _=>s - (intOf i).toNat);case atStart=>exact⟨0,_,C9 _,rfl,rfl,aa (by rw[Ek];simp),m,T⟩
   case round=>
    obtain⟨k,b,Y,rfl,rfl,E,n,r⟩:=hrel;by_cases bn:k < s
    ·have ah:k < a.length:=by rw[<-z.out];exact bn
     obtain⟨bQ,aV,aW,aX⟩:=az.ext r;obtain⟨gb,ob,bt,bm,aM⟩:=aU.BK aV aW k ah;subst bt;have an:=aX k ah;have U:=aa (eH fa a [] ah);obtain⟨y,hy⟩:=exq (a.getD k []);rw[<-hy]at an U;obtain⟨g1,bD,aO,_,_⟩:=an.form;rw[aO]at aM;obtain⟨G,ab⟩:=exq y.length;rw[<-ab]at aM;have bC:=aa ab;have aJ:Hid (fa y= !decide (G=16)):=aa (by unfold fa;rw[ab]);clear aV aW aX bm an hy aO ab;cases b
     ·by_cases af:G=16
      ·subst af
       go_wp2_with fail
       go_roundw;case rel=>exact⟨k+1,false,by omega,by go_num,rfl,aa (by rw[U.out,aJ.out,<-EM,<-E.out];rfl),n,r⟩
       case measure=>simp[intOf];omega
      ·have aH:¬((G:Int)=16):=by omega
       have bI:((G:Int)==16)=false:=by rw[beq_eq_false_iff_ne];exact aH
       have bi:((G:Int) != 16)=true:=by rw[bne_iff_ne];exact aH
       have Hd:Hid (decide (G=16)=false):=aa (decide_eq_false af);clear af
       go_wp2_with fail
       go_roundw;case rel=>exact⟨k+1,true,by omega,by go_num,(by first | rfl | exact congrArg Value.bool bi),aa (by rw[U.out,aJ.out,Hd.out,<-EM,<-E.out];rfl),n,r⟩
       case measure=>simp[intOf];omega
     ·go_wp2_with fail
      go_roundw;case rel=>exact⟨k+1,true,by omega,by go_num,rfl,aa (by rw[U.out,<-EM,<-E.out];rfl),n,r⟩
      case measure=>simp[intOf];omega
    ·obtain rfl:k=s:=by omega
     rw[CX (by rw[<-z.out];exact CU _)]at E;have q0:=n.cell f.1;have q1:=n.cell f.2.1;have q2:=n.cell f.2.2.1;have q3:=n.cell f.2.2.2.1;have q4:=n.cell f.2.2.2.2.1;have q5:=n.cell f.2.2.2.2.2.1;have q6:=n.cell f.2.2.2.2.2.2.1;have q7:=n.cell f.2.2.2.2.2.2.2.1;have q8:=n.cell f.2.2.2.2.2.2.2.2.1;cases b
     rotate_left
     ·have HV:=aa (xe (l:=⟨6,id,d,pl,sh,c,j,a,g⟩) rfl x (by rw[HS.out];exact yq E))
      go_wp2_with fail
      go_ret;exact⟨by rw[HV.out];rfl,r⟩
     have A:Hid (bA ⟨6,id,d,pl,sh,c,j,a,g⟩=true):=aa (by rw[HS.out];obtain⟨z1,z2⟩:=vH E;rw[z1,z2];rfl)
     go_wp2_with (with_reducible refine fj ?_)
     refine ax ?_;iterate 28 (try (first | go_values | go_skip | go_guarded | go_step | go_upon | go_back | (simp only[Int.not_lt,Int.not_le]at*;go_simp) | (go_values<;>(try go_simp))))
     rw[lY];by_cases bJ:(0:Int) < (F:Int)
     ·have HV:=aa (dR (l:=⟨6,id,d,pl,sh,c,j,a,g⟩) rfl x A (fun q=>by obtain⟨B,a2,a3,a4,a5,C⟩:=H.1 q;(try dsimp only at B a2 a3 a4 a5 C);have:=K.out;have:=N.out;have:=z.out;omega))
      go_wp2_with fail
      go_ret;exact⟨by rw[HV.out];rfl,r⟩
     by_cases bK:(0:Int) < (D:Int)
     ·have HV:=aa (dR (l:=⟨6,id,d,pl,sh,c,j,a,g⟩) rfl x A (fun q=>by obtain⟨B,a2,a3,a4,a5,C⟩:=H.1 q;(try dsimp only at B a2 a3 a4 a5 C);have:=K.out;have:=N.out;have:=z.out;omega))
      go_wp2_with fail
      go_ret;exact⟨by rw[HV.out];rfl,r⟩
     by_cases aQ:j=0
     rotate_left
     ·have bM:(j==0)=false:=by rw[beq_eq_false_iff_ne];exact aQ
      have HV:=aa (dR (l:=⟨6,id,d,pl,sh,c,j,a,g⟩) rfl x A (fun q=>by obtain⟨B,a2,a3,a4,a5,C⟩:=H.1 q;(try dsimp only at B a2 a3 a4 a5 C);have:=K.out;have:=N.out;have:=z.out;omega))
      go_wp2_with fail
      go_ret;exact⟨by rw[HV.out];rfl,r⟩
     subst aQ;by_cases aP:g=0
     rotate_left
     ·have bL:(g==0)=false:=by rw[beq_eq_false_iff_ne];exact aP
      have HV:=aa (dR (l:=⟨6,id,d,pl,sh,c,0,a,g⟩) rfl x A (fun q=>by obtain⟨B,a2,a3,a4,a5,C⟩:=H.1 q;(try dsimp only at B a2 a3 a4 a5 C);have:=K.out;have:=N.out;have:=z.out;omega))
      go_wp2_with fail
      go_ret;exact⟨by rw[HV.out];rfl,r⟩
     subst aP;have hf:dU ⟨6,id,d,pl,sh,c,0,a,0⟩=true:=by refine H.2 ⟨?_,?_,?_,?_,?_,?_⟩<;>(first | exact D9 rfl | exact D9 (D9 rfl) | exact D9 (Or.inr rfl) | exact D9 trivial | exact D9 (D9 trivial) | exact D9 (Or.inr trivial) | ((try dsimp only);have:=K.out;have:=N.out;have:=z.out;omega))
     have Hf:=aa hf;clear hf;have Hl:=aa (n.load (P:=CO) Db rfl (by rw[f.out.2.2.2.2.2.2.2.2.2];kernel_rfl))
     go_wp2_with ((with_reducible refine ao ?_ Hl.out ?_);rfl)
     refine(I _ r x A).mono ?_;rintro e wz ⟨vz,rfl,aT,aI⟩;obtain⟨pz,cz,bl,_,_⟩:=aT.form;subst bl;have ar:=aa (r.trans aI);obtain⟨M,hM⟩:=exq ((bE ⟨6,id,d,pl,sh,c,0,a,0⟩).length);rw[<-hM];have HM:=aa hM;clear hM aT aI Hl;by_cases V:8000 < M
     ·have bj:(8000:Int) < (M:Int):=by omega
      have HV:=aa (qZ (l:=⟨6,id,d,pl,sh,c,0,a,0⟩) rfl x A Hf (by rw[<-HM.out];exact V));clear V
      go_wp2_with fail
      go_ret;exact⟨by rw[HV.out];rfl,ar⟩
     ·have bj:¬((8000:Int) < (M:Int)):=by omega
      have HV:=aa (rb (l:=⟨6,id,d,pl,sh,c,0,a,0⟩) rfl x A Hf (by rw[<-HM.out];exact V));clear V
      go_wp2_with fail
      go_ret;exact⟨by rw[HV.out];rfl,ar⟩
end Go.Proofs.Bl
