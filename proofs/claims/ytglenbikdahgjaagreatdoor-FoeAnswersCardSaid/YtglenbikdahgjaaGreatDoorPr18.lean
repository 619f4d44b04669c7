/- Texts that stood apart, in one: FoeSp, FoeS1, FoeS2, FoeS3. -/
import Derived.Test.YtglenbikdahgjaaGreatDoorPr13
set_option maxRecDepth 100000
set_option maxHeartbeats 16000000
open And renaming intro->DT
open Go renaming Calls->DN,Value->DG,World->DF,bodyPost_ret->DK
open Go.Region renaming wanted->DP
open Go.RowKit.Below renaming refl->DI,setCell->FC
open Go.World renaming size_alloc->DO
open List renaming eraseIdx_eq_take_drop_succ->E5,getElem?_eq_getElem->DL,getElem?_set_ne->FA,length->EW,length_eq_zero_iff->Ed,length_map->D2,length_set->Ea,map_set->F8,mem_map_of_mem->FV,take_of_length_le->DW
open Nat renaming add_zero->Gh,le_of_eq->E9,le_refl->DH,le_trans->D0,lt_of_lt_of_le->D9,mul_one->Fi,zero_add->DY,zero_le->DZ
namespace Go.Proofs.Bl
open Go Go.RowKit Go.Proofs
open Go.Proofs.Tryz renaming func66->Hi,ntmps66->G0,prog->DE,underlying26->DQ
variable {k at' y:Int}
theorem nR {w:DF} {P B f m o p r:Nat} {l:Cp} {vp vs vb:DG} {L:List Sv} {M:List Bv} (K at' y:Int) (I:av w P (cL l vp vs vb)) (d:jD w B f m o p r l vp vs vb L M) (J:P < B) (U:L.length<=30) (u:l.kind=4) (t:0 < L.length):∃(i g cap n D:Nat) (a:DF),vs=.slice (some ⟨g,0,none⟩) n cap/\a=w.alloc (.cells #[.int .i64 K,.int .i64 at',.int .i64 y] 65)/\D=w.heap.size/\
  Hid (dN K at' y l= {l with shown:=bS K i y l.shown})/\Hid (n=L.length)/\Hid (az w a)/\Hid (av a P (cL l vp (.slice (some ⟨g,0,none⟩) n cap) vb))/\Hid (jD a B f m o p r l vp (.slice (some ⟨g,0,none⟩) n cap) vb L M)/\
  Hid (P < B/\B<=f/\f<=g/\g < m/\m<=o/\o<=p/\p<=r/\r<=w.heap.size/\g < a.heap.size/\D < a.heap.size/\w.heap.size=D/\w.heap.size<=a.heap.size/\i < n/\n<=30/\n<=cap/\cap<=maxLen)/\
  Hid (∀c,Kq (fun k=>k=g) a c->c.cell? ⟨P,4,none⟩=some (.slice (some ⟨g,0,none⟩) n cap)/\c.cell? ⟨P,0,none⟩=some (.int .i64 4)/\c.cell? ⟨D,0,none⟩=some (.int .i64 K)/\c.cell? ⟨D,2,none⟩=some (.int .i64 y))/\
  Hid (DN DE 65 #[.int .i64 at',.int .i64 n] a fun e w'=>e=.returned (.int .i64 (i:Nat))/\a=w')/\
  a.cell? ⟨P,4,none⟩=some (.slice (some ⟨g,0,none⟩) n cap)/\a.cell? ⟨P,0,none⟩=some (.int .i64 4)/\a.cell? ⟨D,0,none⟩=some (.int .i64 K)/\a.cell? ⟨D,2,none⟩=some (.int .i64 y)/\a.cell? ⟨D,1,none⟩=some (.int .i64 at')/\Hid (av a D [.int .i64 K,.int .i64 at',.int .i64 y])/\
  (0:Int)<=(i:Int)/\(i:Int) < (n:Int)/\(0:Int) < (n:Int)/\¬((n:Int)=0)/\¬(n=0)/\(n:Int)<=30/\
  Hid (∀j,j < 3->(aw cS L)[i*3+j]? =(cS (L.getD i s0))[j]?)/\Hid (Pk a f 3 (.slice (some ⟨g,0,none⟩) n cap) n (aw cS L))/\Hid ((aw cS L).length=n*3)/\Hid (cf (L.getD i s0)=l.shown.getD i h0):=by
 obtain⟨X,o2,Y,Z,o5,o6⟩:=d.CL;have F:l.shown.length=L.length:=by rw[<-d.sl,D2]
 obtain⟨i,C,G,H⟩:=fK at' t;obtain⟨g,cap,W,N,ai,O,Q,aj⟩:=d.sh.1.form t;subst W;have R:=d.sh.2 g rfl;have h:=ae w (.cells #[.int .i64 K,.int .i64 at',.int .i64 y] 65);have s:=av.box (cs:=[.int .i64 K,.int .i64 at',.int .i64 y]) w 65 (fun q=>by cases q);have x:=I.ext h;have v:=d.kept (w':=w.alloc (.cells #[.int .i64 K,.int .i64 at',.int .i64 y] 65)) (fun b h1 h2=>h.block b h2) h.size (DH B);have V:=h.size;have T:=s.lt;have z:∀c,Kq (fun k=>k=g) (w.alloc (.cells #[.int .i64 K,.int .i64 at',.int .i64 y] 65)) c->c.cell? ⟨P,4,none⟩=some (.slice (some ⟨g,0,none⟩) L.length cap)/\c.cell? ⟨P,0,none⟩=some (.int .i64 4)/\c.cell? ⟨w.heap.size,0,none⟩=some (.int .i64 K)/\c.cell? ⟨w.heap.size,2,none⟩=some (.int .i64 y):=fun c E=>by have h1:=E.box (by omega) x;have h2:=E.box (by omega) s;exact⟨h1.cell (i:=4) rfl,by rw[<-u];exact h1.cell (i:=0) rfl,h2.cell (i:=0) rfl,h2.cell (i:=2) rfl⟩
 obtain⟨q4,q0,ag,ah⟩:=z _ (Kq.refl _);have A:=iP at' L.length (w.alloc (.cells #[.int .i64 K,.int .i64 at',.int .i64 y] 65)) (by omega) (by omega);rw[G]at A;exact⟨i,g,cap,L.length,_,_,rfl,rfl,rfl,aa (by unfold dN;rw[if_pos ⟨u,by rw[F];exact t⟩,F,H]),aa rfl,aa h,aa x,aa v,aa ⟨J,X,N,R,Y,Z,o5,o6,by omega,T,rfl,V,C,U,O,Q⟩,aa z,aa A,q4,q0,ag,ah,s.cell (i:=1) rfl,aa s,by omega,by omega,by omega,by omega,by omega,by omega,aa fun j S=>dk bz s0 j S L i C,aa v.sh.1,aa (dj L),aa (by rw[<-cR,d.sl])⟩
theorem ym (at' y:Int) (P B N1 N2 N3 N4 N5:Nat) (l:Cp) (vp vs vb:DG) (L:List Sv) (M:List Bv) (w:DF) (hB:av w P (cL l vp vs vb)) (hA:jD w B N1 N2 N3 N4 N5 l vp vs vb L M) (hP:P < B) (hn:L.length<=30) (hs:∀x∈L,x.2.1.2.length<=100) (h4:l.kind=4) (h0:0 < L.length):
  DN DE 66 #[.agg #[.int .i64 1,.int .i64 at',.int .i64 y],.pointer (some ⟨P,0,none⟩)] w fun e w'=>zi 1 at' y l vp vb P B w e w':=by
 obtain⟨i,g,cap,n,D,O,rfl,aD,hD,W,Z,am,al,K,A,HQ,HR,q4,q0,aS,aU,aT,bm,bo,bp,bq,br,bt,bu,N,ap,bn,ab⟩:=nR 1 at' y hB hA hP hn h4 h0;have Hs:=aa hs;clear hB hA hs hP hn h0;go_enter Hi,G0
 go_wp2_with (with_reducible refine aA (ty:=24) ?_)
 refine au ?_;rw[<-aD,<-hD];clear aD hD
 go_wp2_with fail
 refine HR.mono ?_;rintro e f ⟨rfl,o⟩;subst o;obtain⟨m1,m2,k1,k2,k3,k4,k5⟩:=K.Dc (i:=i) (by rw[<-Z.out];exact A.2.2.2.2.2.2.2.2.2.2.2.2.1);have ai:=Hs _ (aH s0 (i:=i) (L:=L) (by rw[<-Z.out];exact A.2.2.2.2.2.2.2.2.2.2.2.2.1));obtain⟨x0,hx⟩:=exq (L.getD i s0);rw[<-hx]at k4 k5 ai N ab;obtain⟨aO,⟨u1,st⟩,u2,aP⟩:=x0;have v:=aa k4;have K5:=aa k5;have K3:=aa (DT k1 (DT k2 k3));have a3:Hid (st.length<=100):=aa ai;clear k1 k2 k3 k4 k5 ai hx;by_cases U:0 < st.length
 ·obtain⟨b,p,E,aE,bf,aF,bg,aG⟩:=v.st.1.form U;simp only at E;subst E;obtain⟨V,I⟩:=exq st.length;simp only[<-I]at v K5 N aF U;have a1:=aa I;have aX:=aa (fun(f:DF) (h:Kq (fun _=>False) O f)=>kI b 0 p V st y f I U (fun j u hu=>h.cell (fun q=>q) (aG j u hu)) (Pk.there (base:=m1) (size:=1) (cap:=p) (xs:=ao .u8 st) (by have h2:=v.st.1;simp only[<-I]at h2;exact h2.kept (fun k C=>h.block k (h2.block k C).2 (fun q=>q)) h.size) (by omega)) v.bs (by have:=a3.out;omega));have X:=aa (DT aE (v.st.2 b rfl));have Y:Hid (∀f,Kq (fun _=>False) O f->f.cell? ⟨g,i*3+1,none⟩=some (.slice (some ⟨b,0,none⟩) V p)):=aa fun f C=>C.cell (fun q=>q) (ap.cell (N 1 (by decide)))
  clear aE bf aF bg aG I
  go_wp2_with fail
  clear q4 q0 aS aT aU;apply ay (Kq (fun _=>False)) (fun _ _ _=>True) 6 [36,37,38,39,40,41] [ar _,ar _,ar _,ar _,ar _,ar _] (fun w=>Kq.refl w) (fun a b c h k=>Kq.trans h k) (by kernel_rfl) (by kernel_rfl) (by kernel_rfl) (by kernel_rfl);case hsteps=>
   refine⟨?_,?_,?_,?_,?_,?_,trivial⟩;all_goals
    intro d ev J m s F G H r hd;replace F:=aa F;replace s:=aa s;replace G:=aa G;replace H:=aa H;have e2:=r 2 (by decide);have e6:=r 6 (by decide);clear r;simp only[sB]at e2 e6;simp only[sG]at hd;have z:=HQ _ (m.mono fun _ _ q=>False.elim q);have c0:=z.1;have c2:=z.2.2.2;have c3:=Y _ m;clear z;rw[if_pos (rfl:DP _ _=true)];go_simp;first | exact⟨Kq.refl _,rfl,trivial⟩ | exact⟨Kq.refl _,rfl⟩ | exact⟨DI _ _,rfl,HJ.same (by decide) s⟩
  case hmono=>exact mR
  case hR0=>exact Kq.drew _
  case hend=>
   intro u J m hJ hend;simp only[sE]at hend;simp only[sF,hend];have t:=aa m;have HF:=aa (aX J m);clear m hJ hend
   go_wp2_with fail
   refine HF.mono ?_;rintro e f ⟨rfl,j,T,o,S⟩;have a0:=aa (DT T (DT o S));clear T o S
   go_wp2_with fail
   go_end0
   obtain⟨T,o,S⟩:=a0.out;rw[DY]at o;have R:Kq (fun k=>k=b) O f:=by rw[o];exact(t.mono fun _ _ q=>False.elim q).setCell (Q:=fun k=>k=b) ⟨b,j,none⟩ rfl _
   have bi:(L.set i (aO,(.slice (some ⟨b,0,none⟩) V p,fZ st y),u2,aP)).map cf=bS 1 i y l.shown:=by rw[F8,K.out.sl];unfold bS;rw[if_pos rfl,<-ab.out];rfl
   have aI:=K5 f (aO,(.slice (some ⟨b,0,none⟩) V p,fZ st y),u2,aP) (fun b' h1 h2 h3=>R.block b' h2 (fun q=>h3 (by rw[q];exact X))) R.size (by
    rw[S,o]
    exact EP.Dt (jk _ _ _ _ _ _ _ v (DH _) (DH _) (fun b' h1 h2=>t.block b' (by have:=A.out;have:=K3.out;omega) (fun q=>q)) t.size) a1 T (oC _)) rfl
   rw[bi]at aI;exact⟨rfl,.slice (some ⟨g,0,none⟩) n cap,_,by rw[W.out];exact R.box (by have:=A.out;have:=X.out;have:=K3.out;omega) al,by rw[W.out];exact aI,((Kq.AI am).trans (R.mono fun k C q=>.inr (by have:=A.out;have:=X.out;have:=K3.out;omega)))⟩
  case hJ0=>trivial
 ·obtain⟨p1,p,E,_,_⟩:=v.st.1.AT.form;have bj:st=[]:=Ed.1 (by omega);subst bj;have E:u1=.slice p1 0 p:=E;subst E
  have HS:Hid (bS 1 i y l.shown=l.shown):=aa (by
   unfold bS;rw[if_pos rfl];have h:Bw (l.shown.getD i h0) y=l.shown.getD i h0:=by rw[<-ab.out];rfl
   rw[h]
   exact mn h0 l.shown i (by rw[<-K.out.sl,D2,<-Z.out];have:=A.out;omega))
  have Y:Hid (∀f,Kq (fun _=>False) O f->f.cell? ⟨g,i*3+1,none⟩=some (.slice p1 0 p)):=aa fun f C=>C.cell (fun q=>q) (ap.cell (N 1 (by decide)))
  clear U
  go_wp2_with fail
  clear q4 q0 aS aT aU;apply ay (Kq (fun _=>False)) (fun _ _ _=>True) 6 [36,37,38,39,40,41] [ar _,ar _,ar _,ar _,ar _,ar _] (fun w=>Kq.refl w) (fun a b c h k=>Kq.trans h k) (by kernel_rfl) (by kernel_rfl) (by kernel_rfl) (by kernel_rfl);case hsteps=>
   refine⟨?_,?_,?_,?_,?_,?_,trivial⟩;all_goals
    intro d ev J m s F G H r hd;replace F:=aa F;replace s:=aa s;replace G:=aa G;replace H:=aa H;have e2:=r 2 (by decide);have e6:=r 6 (by decide);clear r;simp only[sB]at e2 e6;simp only[sG]at hd;have z:=HQ _ (m.mono fun _ _ q=>False.elim q);have c0:=z.1;have c2:=z.2.2.2;have c3:=Y _ m;clear z;rw[if_pos (rfl:DP _ _=true)];go_simp;first | exact⟨Kq.refl _,rfl,trivial⟩ | exact⟨Kq.refl _,rfl⟩ | exact⟨DI _ _,rfl,HJ.same (by decide) s⟩
  case hmono=>exact mR
  case hR0=>exact Kq.drew _
  case hend=>
   intro u J m hJ hend;simp only[sE]at hend;simp only[sF,hend];have t:=aa m;clear m hJ hend
   go_wp2_with fail
   refine(nK p1 p y J).mono ?_;rintro e f ⟨rfl,o⟩;subst o
   go_wp2_with fail
   go_end0
   have ax:dN 1 at' y l=l:=by rw[W.out,HS.out]
   exact⟨rfl,.slice (some ⟨g,0,none⟩) n cap,L,by rw[ax];exact t.box (fun q=>q) al,by rw[ax];exact K.CR.kept fun b r hl=>⟨r,t.block b hl (fun q=>q)⟩,(Kq.AI am).trans (t.mono fun _ _ q=>False.elim q)⟩
  case hJ0=>trivial
theorem yn (at' y:Int) (P B N1 N2 N3 N4 N5:Nat) (l:Cp) (vp vs vb:DG) (L:List Sv) (M:List Bv) (w:DF) (hB:av w P (cL l vp vs vb)) (hA:jD w B N1 N2 N3 N4 N5 l vp vs vb L M) (hP:P < B) (hn:L.length<=30) (hs:∀x∈L,x.2.1.2.length<=100) (h4:l.kind=4) (h0:0 < L.length):
  DN DE 66 #[.agg #[.int .i64 2,.int .i64 at',.int .i64 y],.pointer (some ⟨P,0,none⟩)] w fun e w'=>zi 2 at' y l vp vb P B w e w':=by
 obtain⟨i,g,cap,n,D,t,rfl,az,hD,N,T,af,ae,C,s,HQ,HR,q4,q0,bg,bi,bh,bl,bs,bt,bu,bv,bw,bx,E,ag,bn,U⟩:=nR 2 at' y hB hA hP hn h4 h0;have Hs:=aa hs;clear hB hA hs hP hn h0;go_enter Hi,G0
 go_wp2_with (with_reducible refine aA (ty:=24) ?_)
 refine au ?_;rw[<-az,<-hD];clear az hD
 go_wp2_with fail
 refine HR.mono ?_;rintro e m ⟨rfl,p⟩;subst p;obtain⟨m1,m2,k1,k2,k3,k4,k5⟩:=C.Dc (i:=i) (by rw[<-T.out];exact s.2.2.2.2.2.2.2.2.2.2.2.2.1);have Z:=Hs _ (aH s0 (i:=i) (L:=L) (by rw[<-T.out];exact s.2.2.2.2.2.2.2.2.2.2.2.2.1));obtain⟨x0,hx⟩:=exq (L.getD i s0);rw[<-hx]at k4 k5 Z E U;obtain⟨aP,⟨u1,st⟩,u2,f⟩:=x0;have o:=aa k4;have K5:=aa k5;have V:=aa (DT k1 (DT k2 k3));have bm:Hid (st.length<=100):=aa Z;clear k1 k2 k3 k4 k5 Z hx;by_cases K:0 < f.length
 ·obtain⟨b,r,z,aB,a9,aC,ba,aD⟩:=o.pa.1.form K;simp only at z;subst z;obtain⟨A,J⟩:=exq f.length;simp only[<-J]at o K5 E aC K;have ak:=aa J;have Y:(f.getD 0 []).length=32/\bA (f.getD 0 []):=o.dg.get (i:=0) (by show 0 < f.length;omega);have aE:t.rangeAt b 0 (ao .u8 (f.getD 0 [])):=by have h:=dW aD o.dg (i:=0) (by show 0 < f.length;omega);simpa using h
  have aT:=aa (fun(m:DF) (h:Kq (fun _=>False) t m)=>kI b 0 32 32 (f.getD 0 []) y m Y.1.symm (by decide) (fun j u hu=>h.cell (fun q=>q) (aE j u hu)) (Pk.there (base:=m1) (size:=32) (n:=A) (cap:=r) (xs:=aN f) (by have h2:=o.pa.1;simp only[<-J]at h2;exact h2.kept (fun k I=>h.block k (h2.block k I).2 (fun q=>q)) h.size) (by omega)) Y.2 (by decide));have S:=aa (DT aB (o.pa.2 b rfl));have ai:Hid (∀m,Kq (fun _=>False) t m->m.cell? ⟨g,i*3+2,none⟩=some (.slice (some ⟨b,0,none⟩) A r)):=aa fun m I=>I.cell (fun q=>q) (ag.cell (E 2 (by decide)))
  have aF:=ai t (Kq.refl _);have bz:(0:Int) < (A:Int):=by omega
  have al:=aa K;clear aB a9 aC ba aD J aE Y
  go_wp2_with fail
  clear q4 q0 bg bh bi aF;apply ay (Kq (fun _=>False)) (fun _ _ _=>True) 8 [51,52,53,54,55,56,57,58] [ar _,ar _,ar _,ar _,ar _,ar _,ar _,ar _] (fun w=>Kq.refl w) (fun a b c h k=>Kq.trans h k) (by kernel_rfl) (by kernel_rfl) (by kernel_rfl) (by kernel_rfl);case hsteps=>
   refine⟨?_,?_,?_,?_,?_,?_,?_,?_,trivial⟩;all_goals
    intro d ev w1 v O ah aj aJ X hd;replace ah:=aa ah;replace O:=aa O;replace aj:=aa aj;replace aJ:=aa aJ;have e2:=X 2 (by decide);have e6:=X 6 (by decide);clear X;simp only[sB]at e2 e6;simp only[sG]at hd;have q3:=HQ _ (v.mono fun _ _ q=>False.elim q);have c0:=q3.1;have c2:=q3.2.2.2;have c3:=ai _ v;clear q3;rw[if_pos (rfl:DP _ _=true)];go_simp;first | exact⟨Kq.refl _,rfl,trivial⟩ | exact⟨Kq.refl _,rfl⟩ | exact⟨DI _ _,rfl,HJ.same (by decide) O⟩
  case hmono=>exact mR
  case hR0=>exact Kq.drew _
  case hend=>
   intro u w1 v hJ hend;simp only[sE]at hend;simp only[sF,hend];have R:=aa v;have HF:=aa (aT w1 v);clear v hJ hend
   go_wp2_with fail
   refine HF.mono ?_;rintro e m ⟨rfl,j,H,p,G⟩;have aX:=aa (DT H (DT p G));clear H p G
   go_wp2_with fail
   go_end0
   obtain⟨H,p,G⟩:=aX.out;rw[DY]at p;have F:Kq (fun k=>k=b) t m:=by rw[p];exact(R.mono fun _ _ q=>False.elim q).setCell (Q:=fun k=>k=b) ⟨b,j,none⟩ rfl _
   have bc:(L.set i (aP,(u1,st),.slice (some ⟨b,0,none⟩) A r,f.set 0 (fZ (f.getD 0 []) y))).map cf=bS 2 i y l.shown:=by rw[F8,C.out.sl];unfold bS;rw[if_neg (by decide),if_pos rfl,<-U.out];unfold zP;rw[if_pos (by show 0 < f.length;rw[<-ak.out];exact al.out)];rfl
   have aG:=K5 m (aP,(u1,st),.slice (some ⟨b,0,none⟩) A r,f.set 0 (fZ (f.getD 0 []) y)) (fun W h1 h2 h3=>F.block W h2 (fun q=>h3 (by rw[q];exact S))) F.size (by
    rw[G,p]
    exact EP.Ds (jk _ _ _ _ _ _ _ o (DH _) (DH _) (fun W h1 h2=>R.block W (by have:=s.out;have:=V.out;omega) (fun q=>q)) R.size) ak al H (oC _)) rfl
   rw[bc]at aG;exact⟨rfl,.slice (some ⟨g,0,none⟩) n cap,_,by rw[N.out];exact F.box (by have:=s.out;have:=S.out;have:=V.out;omega) ae,by rw[N.out];exact aG,((Kq.AI af).trans (F.mono fun k I q=>.inr (by have:=s.out;have:=S.out;have:=V.out;omega)))⟩
  case hJ0=>trivial
 ·obtain⟨p1,r,z,_,_⟩:=o.pa.1.AT.form;have bd:f=[]:=Ed.1 (by omega);subst bd;have z:u2=.slice p1 0 r:=z;subst z
  have HS:Hid (bS 2 i y l.shown=l.shown):=aa (by
   unfold bS;rw[if_neg (by decide),if_pos rfl];have h:zP (l.shown.getD i h0) y=l.shown.getD i h0:=by rw[<-U.out];rfl
   rw[h]
   exact mn h0 l.shown i (by rw[<-C.out.sl,D2,<-T.out];have:=s.out;omega))
  have aF:t.cell? ⟨g,i*3+2,none⟩=some (.slice p1 0 r):=ag.cell (E 2 (by decide));clear K
  go_wp2_with fail
  go_end0
  have ap:dN 2 at' y l=l:=by rw[N.out,HS.out]
  refine⟨rfl,.slice (some ⟨g,0,none⟩) n cap,L,by rw[ap];exact ae,by rw[ap];exact C.CR,Kq.AI af⟩
theorem yo (at' y:Int) (P B A N2 N3 N4 N5:Nat) (l:Cp) (vp vs vb:DG) (L:List Sv) (M:List Bv) (w:DF) (hB:av w P (cL l vp vs vb)) (hA:jD w B A N2 N3 N4 N5 l vp vs vb L M) (hP:P < B) (hn:L.length<=30) (hs:∀x∈L,x.2.1.2.length<=100) (h4:l.kind=4) (h0:0 < L.length):
  DN DE 66 #[.agg #[.int .i64 3,.int .i64 at',.int .i64 y],.pointer (some ⟨P,0,none⟩)] w fun e w'=>zi 3 at' y l vp vb P B w e w':=by
 obtain⟨i,g,cap,n,D,W1,rfl,aO,hD,aC,Hn,a1,a0,G,p,HQ,HR,q4,q0,bu,bw,bv,bD,bK,bL,bN,bO,bP,bQ,K,aG,ae,bF⟩:=nR 3 at' y hB hA hP hn h4 h0;have Hs:=aa hs;clear hB hA hs hP hn h0;go_enter Hi,G0
 go_wp2_with (with_reducible refine aA (ty:=24) ?_)
 refine au ?_;rw[<-aO,<-hD];clear aO hD
 go_wp2_with fail
 refine HR.mono ?_;rintro e w2 ⟨rfl,bo⟩;subst bo;have s:i < L.length/\0 < L.length:=by rw[<-Hn.out];have:=p.out;omega
 have J:Hid (∀j,j < 3->(aw cS L)[j]? =(cS (L.getD 0 s0))[j]?):=aa fun j hj=>by have h:=dk bz s0 j hj L 0 s.2;rwa[Nat.zero_mul,DY]at h
 have H:=aa (rI L i s.2 s.1);have a6:=aa (yg L i s.2 s.1);have a5:=aa (yh (w:=W1) s.2 s.1 G.okF);have af:=(G.okF _ (aH s0 s.2)).ok;have ag:=(G.okF _ (aH s0 s.1)).ok;obtain⟨x0,an⟩:=exq (L.getD 0 s0);obtain⟨xi,ao⟩:=exq (L.getD i s0);rw[<-an]at J af;rw[<-ao]at K ag;rw[<-an,<-ao]at H;obtain⟨P0,⟨bH,bx⟩,a2,bp⟩:=x0;obtain⟨Pi,⟨b1,bA⟩,b2,bq⟩:=xi;obtain⟨ax,ai,S,_,_⟩:=af.st.form;obtain⟨Y,N,U,_,_⟩:=ag.st.form;obtain⟨az,aj,T,_,_⟩:=af.pa.form;obtain⟨Z,O,V,_,_⟩:=ag.pa.form;simp only at S U T V;obtain⟨ap,aQ⟩:=exq bx.length;obtain⟨W,aT⟩:=exq bA.length;obtain⟨aq,aR⟩:=exq bp.length;obtain⟨X,aV⟩:=exq bq.length;rw[<-aQ]at S;rw[<-aT]at U;rw[<-aR]at T;rw[<-aV]at V;simp only at H;obtain⟨xs,aY⟩:=exq (aw cS L);rw[<-aY]at H aG J K ae;have ac:Hid (i*3+1 < xs.length):=aa (by rw[ae.out];have:=p.out;omega);have a8:Hid (xs[1]? =some (.slice ax ap ai)):=aa (by rw[<-S];exact J 1 (by decide));have ba:Hid (xs[i*3+1]? =some (.slice Y W N)):=aa (by rw[<-U];exact K 1 (by decide));obtain⟨t,F⟩:=exq ((xs.set (i*3+1) (.slice ax ap ai)).set 1 (.slice Y W N));have bc:=aa F;have aJ:Hid (t.length=n*3):=aa (by rw[F,Ea,Ea];exact ae);have ad:Hid (i*3+2 < t.length):=aa (by rw[aJ.out];have:=p.out;omega);have a9:Hid (t[2]? =some (.slice az aq aj)):=aa (by rw[F,FA (by omega),FA (by omega),<-T];exact J 2 (by decide));have bb:Hid (t[i*3+2]? =some (.slice Z X O)):=aa (by rw[F,FA (by omega),FA (by omega),<-V];exact K 2 (by decide));have a7:Hid ((t.set (i*3+2) (.slice az aq aj)).set 2 (.slice Z X O)=aw cS (wN L i)):=aa (by rw[F,<-S,<-U,<-T,<-V];exact H);have E:Hid (1 < xs.length/\2 < t.length):=aa (by rw[ae.out,aJ.out];have:=p.out;omega);clear s af ag an ao S U T V aQ aT aR aV H aY F J K
 go_wp2_with fail
 clear q4 q0 bu bv bw;apply ay (Kq (fun k=>k=g)) (HJ 12 (fun w'=>Pk w' A 3 (.slice (some ⟨g,0,none⟩) n cap) n xs) (fun w'=>Pk w' A 3 (.slice (some ⟨g,0,none⟩) n cap) n (xs.set (i*3+1) (.slice ax ap ai)))) 15 [67,68,69,70,71,72,73,74,75,76,77,78,79,80] [ar _,ar _,ar _,ar _,ar _,ar _,ar _,ar _,ar _,ar _,ar _,ar _,ar _,ar _,ar _] (fun w=>Kq.refl w) (fun a b c h k=>Kq.trans h k) (by kernel_rfl) (by kernel_rfl) (by kernel_rfl) (by kernel_rfl);case hsteps=>
  refine⟨?_,?_,?_,?_,?_,?_,?_,?_,?_,?_,?_,?_,?_,?_,?_,trivial⟩;all_goals
   intro d ev o v m I z C r hd;replace I:=aa I;replace m:=aa m;replace z:=aa z;replace C:=aa C;have e6:=r 6 (by decide);have e7:=r 7 (by decide);clear r;simp only[sB]at e6 e7;simp only[sG]at hd;rw[if_pos (rfl:DP _ _=true)];first
   | (have f:=HJ.get m C;have q9:=f.cell (DL ac);have f9:=f.fz ac;go_simp;first | exact⟨(Kq.refl o).setCell (Q:=fun k=>k=g) ⟨g,i*3+1,none⟩ rfl _,HJ.set (f.put ac _)⟩ | exact⟨(Kq.refl o).setCell (Q:=fun k=>k=g) ⟨g,i*3+1,none⟩ rfl _,rfl,HJ.set (f.put ac _)⟩) | (go_simp;exact⟨Kq.refl _,rfl,HJ.same (by decide) m⟩) | (have f:=HJ.get m (z 12 (by kernel_rfl));have q9:=f.cell a8;have q8:=f.cell ba;go_simp;exact⟨Kq.refl _,rfl,HJ.same (by decide) m⟩)
   | (go_simp;first | exact⟨Kq.refl _,rfl,HJ.same (by decide) m⟩ | exact⟨DI _ _,rfl,HJ.same (by decide) m⟩)
 case hmono=>exact mR
 case hR0=>exact Kq.drew _
 case hend=>
  intro u o v R hend;simp only[sE]at hend;simp only[sF,hend];have f:=HJ.CE R rfl;have HK:=aa v;have q1:=f.cell (DL (by rw[Ea];exact E.1));have f1:=f.fz (j:=1) (by rw[Ea];exact E.1);have aE:Hid (Pk (o.setCell ⟨g,1,none⟩ (.slice Y W N)) A 3 (.slice (some ⟨g,0,none⟩) n cap) n t):=aa (by rw[bc.out];exact f.put (by rw[Ea];exact E.1) _);have aD:Hid (Kq (fun k=>k=g) W1 (o.setCell ⟨g,1,none⟩ (.slice Y W N))):=aa (v.setCell (Q:=fun k=>k=g) ⟨g,1,none⟩ rfl _);clear v R hend f
  go_wp2_with fail
  obtain⟨wm,aX⟩:=exq (o.setCell ⟨g,1,none⟩ (.slice Y W N));rw[<-aX]at aE aD⊢;clear aX q1 f1 HK;apply ay (Kq (fun k=>k=g)) (HJ 12 (fun w'=>Pk w' A 3 (.slice (some ⟨g,0,none⟩) n cap) n t) (fun w'=>Pk w' A 3 (.slice (some ⟨g,0,none⟩) n cap) n (t.set (i*3+2) (.slice az aq aj)))) 15 [81,82,83,84,85,86,87,88,89,90,91,92,93,94] [ar _,ar _,ar _,ar _,ar _,ar _,ar _,ar _,ar _,ar _,ar _,ar _,ar _,ar _,ar _] (fun w=>Kq.refl w) (fun a b c h k=>Kq.trans h k) (by kernel_rfl) (by kernel_rfl) (by kernel_rfl) (by kernel_rfl);case hsteps=>
   refine⟨?_,?_,?_,?_,?_,?_,?_,?_,?_,?_,?_,?_,?_,?_,?_,trivial⟩;all_goals
    intro d ev o v m I z C r hd;replace I:=aa I;replace m:=aa m;replace z:=aa z;replace C:=aa C;have e6:=r 6 (by decide);have e7:=r 7 (by decide);clear r;simp only[sB]at e6 e7;simp only[sG]at hd;rw[if_pos (rfl:DP _ _=true)];first
    | (have f:=HJ.get m C;have q9:=f.cell (DL ad);have f9:=f.fz ad;go_simp;first | exact⟨(Kq.refl o).setCell (Q:=fun k=>k=g) ⟨g,i*3+2,none⟩ rfl _,HJ.set (f.put ad _)⟩ | exact⟨(Kq.refl o).setCell (Q:=fun k=>k=g) ⟨g,i*3+2,none⟩ rfl _,rfl,HJ.set (f.put ad _)⟩) | (go_simp;exact⟨Kq.refl _,rfl,HJ.same (by decide) m⟩) | (have f:=HJ.get m (z 12 (by kernel_rfl));have q9:=f.cell a9;have q8:=f.cell bb;go_simp;exact⟨Kq.refl _,rfl,HJ.same (by decide) m⟩)
    | (go_simp;first | exact⟨Kq.refl _,rfl,HJ.same (by decide) m⟩ | exact⟨DI _ _,rfl,HJ.same (by decide) m⟩)
  case hmono=>exact mR
  case hR0=>exact Kq.drew _
  case hend=>
   intro u o v R hend;simp only[sE]at hend;simp only[sF,hend];have f:=HJ.CE R rfl;have q1:=f.cell (DL (by rw[Ea];exact E.2));have f1:=f.fz (j:=2) (by rw[Ea];exact E.2);have aF:Hid (Pk (o.setCell ⟨g,2,none⟩ (.slice Z X O)) A 3 (.slice (some ⟨g,0,none⟩) n cap) n (aw cS (wN L i))):=aa (by rw[<-a7.out];exact f.put (by rw[Ea];exact E.2) _);have ab:Hid (Kq (fun k=>k=g) W1 (o.setCell ⟨g,2,none⟩ (.slice Z X O))):=aa (aD.trans (v.setCell (Q:=fun k=>k=g) ⟨g,2,none⟩ rfl _));clear v R hend f
   go_wp2_with fail
   go_end0
   have bn:(wN L i).map cf=bS 3 i y l.shown:=by rw[a6.out,G.out.sl];unfold bS;rw[if_neg (by decide),if_neg (by decide),if_pos rfl]
   have bm:=G.fin (w':=o.setCell ⟨g,2,none⟩ (.slice Z X O)) (vs2:=.slice (some ⟨g,0,none⟩) n cap) (L2:=wN L i) (fun b h1 h2 h3=>ab.block b h3 (by have:=p.out;omega)) (by
    rw[yf,<-Hn.out]
    exact aS.By aF.AT fun b r _=>by have:=(aF.block b r).1;have:=p.out;omega) (fun x hx=>aU _ _ _ _ _ (a5 x hx) fun b r hl=>⟨by have:=p.out;omega,ab.block b hl (by have:=p.out;omega)⟩) bn
   exact⟨rfl,.slice (some ⟨g,0,none⟩) n cap,_,by rw[aC.out];exact ab.box (by have:=p.out;omega) a0,by rw[aC.out];exact bm,(Kq.AI a1).trans (ab.mono fun k hk q=>.inr (by have:=p.out;omega))⟩
  case hJ0=>exact HJ.start (aE.kept (fun _ _=>rfl) (DH _))
 case hJ0=>exact HJ.start (aG.kept (fun _ _=>rfl) (DH _))
theorem yp (at' y:Int) (P B H N2 N3 N4 N5:Nat) (l:Cp) (vp vs vb:DG) (L:List Sv) (M:List Bv) (w:DF) (K:av w P (cL l vp vs vb)) (I:jD w B H N2 N3 N4 N5 l vp vs vb L M) (O:P < B) (T:L.length<=30) (W:∀x∈L,x.2.1.2.length<=100) (h4:l.kind=4) (h0:0 < L.length):
  DN DE 66 #[.agg #[.int .i64 4,.int .i64 at',.int .i64 y],.pointer (some ⟨P,0,none⟩)] w fun e w'=>zi 4 at' y l vp vb P B w e w':=by
 obtain⟨i,g,cap,n,D,t,rfl,R,N,r,h,F,E,d,a,HQ,Y,q4,q0,ay,aB,az,aC,aJ,aK,aL,aM,aN,aO,aE,ab,aH,aF⟩:=nR 4 at' y K I O T h4 h0;have Hs:=aa W;clear K I W O T h0;go_enter Hi,G0
 go_wp2_with (with_reducible refine aA (ty:=24) ?_)
 refine au ?_;rw[<-R,<-N];clear R N
 go_wp2_with fail
 refine Y.mono ?_;rintro e f ⟨rfl,aq⟩;subst aq;by_cases C:1 < n
 ·have ao:(1:Int) < (n:Int):=by omega
  obtain⟨m,hm⟩:∃m,n=i+1+m:=⟨n - (i+1),by have:=a.out;omega⟩;have U:∀c∈aw cS L,c.oneCell'=true:=eg fun x hx=>gP (d.okF x hx).ok
  have X:=aa (ye g cap n m H i L t ab h.symm hm (by have:=a.out;omega) U);have G:=aa hm;have ad:=aa C;clear hm U C
  go_wp2_with fail
  refine X.mono ?_;rintro e f ⟨rfl,V,z⟩;have Z:=aa V;have s:=aa z;have p:=aa (z.box (by have:=a.out;omega) E);have aP:=p.cell (i:=4) (v:=.slice (some ⟨g,0,none⟩) n cap) rfl;have f24:=p.fz (i:=4) (show 4 < 9 by decide);clear V z q4 q0 ay az aB
  go_wp2_with fail
  go_end0
  have aj:av (f.setCell ⟨P,4,none⟩ (.slice (some ⟨g,0,none⟩) (i+m) cap)) P (cL l vp (.slice (some ⟨g,0,none⟩) (i+m) cap) vb):=p.put (i:=4) (show 4 < 9 by decide) _;have A:Kq (fun k=>k=P) f (f.setCell ⟨P,4,none⟩ (.slice (some ⟨g,0,none⟩) (i+m) cap)):=(Kq.refl f).setCell (Q:=fun k=>k=P) ⟨P,4,none⟩ rfl _;have ak:(L.eraseIdx i).length=i+m:=by rw[List.length_eraseIdx_of_lt (by rw[<-h.out];have:=a.out;omega),<-h.out];have:=G.out;omega
  have ap:(L.eraseIdx i).map cf=bS 4 i y l.shown:=by unfold bS;rw[if_neg (by decide),if_neg (by decide),if_neg (by decide),if_pos rfl,if_pos (by rw[<-d.out.sl,D2,<-h.out];exact ad.out),<-d.out.sl];rw[E5,E5,List.map_append,List.map_take,List.map_drop]
  have S:∀b,b≠g->b≠P->b < t.heap.size->(f.setCell ⟨P,4,none⟩ (.slice (some ⟨g,0,none⟩) (i+m) cap)).heap[b]? =t.heap[b]? :=fun b h1 h2 o=>(A.block b (D9 o s.size) h2).trans (s.block b o h1)
  have an:=d.fin (w':=f.setCell ⟨P,4,none⟩ (.slice (some ⟨g,0,none⟩) (i+m) cap)) (vs2:=.slice (some ⟨g,0,none⟩) (i+m) cap) (L2:=L.eraseIdx i) (fun b h1 h2 o=>S b (by have:=a.out;omega) (by have:=a.out;omega) o) (by
   rw[ak]
   exact .inr ⟨g,0,cap,rfl,by have:=a.out;have:=G.out;omega,by have:=a.out;omega,fun j u hu=>A.cell (by have:=a.out;omega) (Z j u hu),fun _=>by have:=a.out;omega⟩) (fun x hx=>aU _ _ _ _ _ (d.okF x (List.mem_of_mem_eraseIdx hx)) fun b hb hl=>⟨by have:=a.out;omega,S b (by have:=a.out;omega) (by have:=a.out;omega) hl⟩) ap
  exact⟨rfl,.slice (some ⟨g,0,none⟩) (i+m) cap,_,by rw[r.out];exact aj,by rw[r.out];exact an,(Kq.AI F).trans ((s.mono fun k hk q=>.inr (by have:=a.out;omega)).trans (A.mono fun k hk q=>.inl q))⟩
 ·have ao:¬((1:Int) < (n:Int)):=by omega
  have HS:Hid (bS 4 i y l.shown=l.shown):=aa (by
   unfold bS
   rw[if_neg (by decide),if_neg (by decide),if_neg (by decide),if_pos rfl,if_neg (by rw[<-d.out.sl,D2,<-h.out];exact C)])
  go_wp2_with fail
  go_end0
  have J:dN 4 at' y l=l:=by rw[r.out,HS.out]
  refine⟨rfl,.slice (some ⟨g,0,none⟩) n cap,L,by rw[J];exact E,by rw[J];exact d.CR,Kq.AI F⟩
theorem yq (at' y:Int) (P B U V W X Y:Nat) (l:Cp) (vp vs vb:DG) (L:List Sv) (M:List Bv) (w:DF) (C:av w P (cL l vp vs vb)) (A:jD w B U V W X Y l vp vs vb L M) (F:P < B) (H:L.length<=30) (I:∀x∈L,x.2.1.2.length<=100) (h4:l.kind=4) (h0:0 < L.length):
  DN DE 66 #[.agg #[.int .i64 5,.int .i64 at',.int .i64 y],.pointer (some ⟨P,0,none⟩)] w fun e w'=>zi 5 at' y l vp vb P B w e w':=by
 obtain⟨i,g,cap,n,D,c,rfl,G,E,u,o,K,J,f,a,HQ,O,q4,q0,ay,aB,az,ag,aj,ak,am,an,ao,ap,S,m,v,T⟩:=nR 5 at' y C A F H h4 h0;have Hs:=aa I;clear C A I F H h0;go_enter Hi,G0
 go_wp2_with (with_reducible refine aA (ty:=24) ?_)
 refine au ?_;rw[<-G,<-E];clear G E
 go_wp2_with fail
 refine O.mono ?_;rintro e w2 ⟨rfl,t⟩;subst t;have R:=aa (iP y 512 c (by decide) (by decide));have N:Hid ((aw cS L).set (i*3+0) (.int .i64 (y % 512))=aw cS (L.set i (y % 512,(L.getD i s0).2))):=aa (cQ bz s0 (y % 512,(L.getD i s0).2) _ 0 (by decide) L i (by rw[<-o.out];have:=a.out;omega) rfl);have hq:∃z,c.cell? ⟨g,i*3,none⟩=some z:=⟨_,m.cell (S 0 (by decide))⟩;obtain⟨z0,ar⟩:=hq;have f30:=m.fz (j:=i*3) (by rw[v.out];have:=a.out;omega)
 go_wp2_with fail
 refine R.mono ?_;rintro e w2 ⟨rfl,t⟩;subst t
 go_wp2_with fail
 go_end0
 have d:Kq (fun k=>k=g) c (c.setCell ⟨g,i*3,none⟩ (.int .i64 (y % 512))):=(Kq.refl c).setCell (Q:=fun k=>k=g) ⟨g,i*3,none⟩ rfl _;have s:=m.put (j:=i*3) (by rw[v.out];have:=a.out;omega) (.int .i64 (y % 512));rw[show i*3=i*3+0 from rfl,N.out]at s;have ad:(L.set i (y % 512,(L.getD i s0).2)).map cf=bS 5 i y l.shown:=by rw[F8,f.out.sl];unfold bS;rw[if_neg (by decide),if_neg (by decide),if_neg (by decide),if_neg (by decide),if_pos rfl,<-T.out];rfl
 have ac:=f.fin (w':=c.setCell ⟨g,i*3,none⟩ (.int .i64 (y % 512))) (vs2:=.slice (some ⟨g,0,none⟩) n cap) (L2:=L.set i (y % 512,(L.getD i s0).2)) (fun b h1 h2 Z=>d.block b Z (by have:=a.out;omega)) (by
  rw[Ea,<-o.out]
  exact aS.By s.AT fun b p _=>by have:=(s.block b p).1;have:=a.out;omega) (fun x hx=>by
  rcases List.mem_or_eq_of_mem_set hx with hx | rfl
  ·exact aU _ _ _ _ _ (f.okF x hx) fun b p r=>⟨by have:=a.out;omega,d.block b r (by have:=a.out;omega)⟩
  ·have h:=aU _ (fun b=>B<=b) _ (c.setCell ⟨g,i*3,none⟩ (.int .i64 (y % 512))) _ (f.okF _ (aH s0 (i:=i) (L:=L) (by rw[<-o.out];have:=a.out;omega))) fun b p r=>⟨by have:=a.out;omega,d.block b r (by have:=a.out;omega)⟩
   exact⟨h.st,h.bs,h.pa,h.dg⟩) ad
 exact⟨rfl,.slice (some ⟨g,0,none⟩) n cap,_,by rw[u.out];exact d.box (by have:=a.out;omega) J,by rw[u.out];exact ac,(Kq.AI K).trans (d.mono fun k hk q=>.inr (by have:=a.out;omega))⟩
theorem yr (k:Int) (at' y:Int) (P B u v z A C:Nat) (l:Cp) (vp vs vb:DG) (L:List Sv) (M:List Bv) (w:DF) (c:av w P (cL l vp vs vb)) (a:jD w B u v z A C l vp vs vb L M) (f:P < B) (j:L.length<=30) (m:∀x∈L,x.2.1.2.length<=100) (E:l.kind=4) (h0:0 < L.length) (F:¬k=1) (G:¬k=2) (H:¬k=3) (I:¬k=4) (J:¬k=5):
  DN DE 66 #[.agg #[.int .i64 k,.int .i64 at',.int .i64 y],.pointer (some ⟨P,0,none⟩)] w fun e w'=>zi k at' y l vp vb P B w e w':=by
 obtain⟨i,g,cap,n,D,X,rfl,h,d,q,T,r,p,o,R,O,s,q4,q0,ah,aj,ai,N,Y,Z,ab,ac,ad,ae,S,Q,W,U⟩:=nR k at' y c a f j E h0;have V:=aa m;clear c a m f j h0;go_enter Hi,G0
 go_wp2_with (with_reducible refine aA (ty:=24) ?_)
 refine au ?_;rw[<-h,<-d];clear h d
 go_wp2_with fail
 refine s.mono ?_;rintro e w2 ⟨rfl,K⟩;subst K
 have t:Hid (bS k i y l.shown=l.shown):=aa (by
  unfold bS
  rw[if_neg F,if_neg G,if_neg H,if_neg I,if_neg J])
 go_wp2_with fail
 go_end0
 have b:dN k at' y l=l:=by rw[q.out,t.out]
 refine⟨rfl,.slice (some ⟨g,0,none⟩) n cap,L,by rw[b];exact p,by rw[b];exact o.CR,Kq.AI r⟩
theorem uF {l:Cp} (h:¬(l.kind=4/\0 < l.shown.length)):dN k at' y l=l:=by unfold dN;rw[if_neg h]
theorem qe {l:Cp} (h1:¬k=1) (h2:¬k=2) (a:¬k=3) (b:¬k=4) (c:¬k=5):dN k at' y l=l:=by
 unfold dN bS;rw[if_neg h1,if_neg h2,if_neg a,if_neg b,if_neg c];split<;>rfl
theorem mw (k at' y:Int) (P n:Nat) (p:Option Addr) (c:Nat) (l:Cp) (vp vb:DG) (w:DF) (h:av w P (cL l vp (.slice p n c) vb)) (a:¬l.kind=4\/(l.kind=4/\n=0)):
  DN DE 66 #[.agg #[.int .i64 k,.int .i64 at',.int .i64 y],.pointer (some ⟨P,0,none⟩)] w fun e w'=>e=.returned (.tuple #[])/\az w w':=by
 obtain⟨m,b⟩:=exq (w.alloc (.cells #[.int .i64 k,.int .i64 at',.int .i64 y] 65));have f:az w m:=by rw[b];exact ae _ _
 have g:=aa f;have d:=h.ext f;have s:=d.cell (i:=4) (v:=.slice p n c) rfl;have q:=d.cell (i:=0) (v:=.int .i64 l.kind) rfl;obtain⟨r,j⟩:=exq l.kind;rw[<-j]at q a;clear h d f j;rcases a with a | ⟨a,o⟩
 ·go_enter Hi,G0
  go_wp2_with (with_reducible refine aA (ty:=24) ?_)
  refine au ?_;rw[<-b];clear b
  go_wp2_with fail
  (try simp only[Exit.inBlock,Exit.then])
  refine DK (results_none rfl _ _ _) rfl ?_;exact⟨rfl,g⟩
 ·subst a o;go_enter Hi,G0
  go_wp2_with (with_reducible refine aA (ty:=24) ?_)
  refine au ?_;rw[<-b];clear b
  go_wp2_with fail
  (try simp only[Exit.inBlock,Exit.then])
  refine DK (results_none rfl _ _ _) rfl ?_;exact⟨rfl,g⟩
theorem eJ (k at' y:Int) (P B g h i j m:Nat) (l:Cp) (vp vs vb:DG) (L:List Sv) (M:List Bv) (w:DF) (f:av w P (cL l vp vs vb)) (d:jD w B g h i j m l vp vs vb L M) (n:P < B) (o:L.length<=30) (r:∀x∈L,x.2.1.2.length<=100):
  DN DE 66 #[.agg #[.int .i64 k,.int .i64 at',.int .i64 y],.pointer (some ⟨P,0,none⟩)] w fun e w'=>zi k at' y l vp vb P B w e w':=by
 have E:l.shown.length=L.length:=by rw[<-d.sl,D2]
 by_cases u:l.kind=4/\0 < L.length
 ·obtain⟨a,h0⟩:=u;by_cases h1:k=1
  ·subst h1;exact ym at' y P B g h i j m l vp vs vb L M w f d n o r a h0
  by_cases h2:k=2
  ·subst h2;exact yn at' y P B g h i j m l vp vs vb L M w f d n o r a h0
  by_cases v:k=3
  ·subst v;exact yo at' y P B g h i j m l vp vs vb L M w f d n o r a h0
  by_cases z:k=4
  ·subst z;exact yp at' y P B g h i j m l vp vs vb L M w f d n o r a h0
  by_cases A:k=5
  ·subst A;exact yq at' y P B g h i j m l vp vs vb L M w f d n o r a h0
  exact yr k at' y P B g h i j m l vp vs vb L M w f d n o r a h0 h1 h2 v z A
 ·obtain⟨p,c,C,_,_⟩:=d.sh.1.AT.form;subst C
  refine(mw k at' y P L.length p c l vp vb w f (by
   by_cases a:l.kind=4
   ·exact .inr ⟨a,by have:¬0 < L.length:=fun q=>u ⟨a,q⟩;omega⟩
   ·exact .inl a)).mono ?_
  rintro e w' ⟨rfl,t⟩;have s:dN k at' y l=l:=uF (by rw[E];exact u);exact⟨rfl,_,L,by rw[s];exact f.ext t,by rw[s];exact d.CR.kept fun b s D=>⟨s,t.block b D⟩,Kq.AI t⟩
theorem qg (code:Int) (l:Cp) (vp vs vb:DG) (w:DF):
  DN DE 67 #[.agg (cL l vp vs vb).toArray,.int .i64 code] w fun e w'=>e=.returned (.agg (cL ⟨7,l.id,l.obj,[],[],0,0,[],code⟩ (.slice none 0 0) (.slice none 0 0) (.slice none 0 0)).toArray)/\az w w':=by
 obtain⟨b,a⟩:=exq ((w.alloc (.cells (cL l vp vs vb).toArray 26)).alloc (.cells zL 26));have g:(w.alloc (.cells (cL l vp vs vb).toArray 26)).heap.size=w.heap.size+1:=DO _ _;have f:az w b:=by rw[a];exact(ae _ _).trans (ae _ _)
 have c:av b w.heap.size (cL l vp vs vb):=by rw[a];exact(av.box w 26 (cg _ _ _ _)).ext (ae _ _)
 have d:av b (w.heap.size+1) zL.toList:=by have h:=av.box (cs:=zL.toList) (w.alloc (.cells (cL l vp vs vb).toArray 26)) 26 (fun q=>by cases q);rw[g]at h;rw[a];exact h
 have n:=c.cell (i:=1) (v:=.int .i64 l.id) rfl;have o:=c.cell (i:=2) (v:=.int .i64 l.obj) rfl;have m:=aa (d.store (P:=DE) (cs':=cL ⟨7,l.id,l.obj,[],[],0,0,[],code⟩ (.slice none 0 0) (.slice none 0 0) (.slice none 0 0)) rfl (bk ⟨_,_,_,rfl⟩ ⟨_,_,_,rfl⟩ ⟨_,_,_,rfl⟩) (ty:=26) (by kernel_rfl));have j:=aa (d.set (cs':=cL ⟨7,l.id,l.obj,[],[],0,0,[],code⟩ (.slice none 0 0) (.slice none 0 0) (.slice none 0 0)) rfl);have k:Hid (az w (b.setCells (w.heap.size+1) 0 (cL ⟨7,l.id,l.obj,[],[],0,0,[],code⟩ (.slice none 0 0) (.slice none 0 0) (.slice none 0 0)))):=aa (aE _ _ _ _ f (Nat.le_succ _));unfold cL at a;clear g f c d;show DN DE 67 #[.agg #[.int .i64 l.kind,.int .i64 l.id,.int .i64 l.obj,vp,vs,.int .i64 l.Cq,.int .i64 l.Cs,vb,.int .i64 l.code],.int .i64 code] w _;go_enter Tryz.func67,Tryz.ntmps67
 go_wp2_with (with_reducible refine aA (ty:=3) ?_)
 refine au ?_;rw[<-a];clear a
 go_wp2_with refine ag rfl rfl m ?_
 refine DK (v:=.agg (cL ⟨7,l.id,l.obj,[],[],0,0,[],code⟩ (.slice none 0 0) (.slice none 0 0) (.slice none 0 0)).toArray) (aG rfl rfl (j.loadVar (P:=DE) DQ rfl (by kernel_rfl))) rfl ⟨rfl,k⟩
theorem dE (v:DG) (l:Cp) (w:DF) (h:dH w v l) (a9:fv l):
  DN DE 63 #[v] w fun e w'=>∃vp vs vb L M E R O N4 N5,e=.returned (.agg (cL l vp vs vb).toArray)/\jD w' w.heap.size E R O N4 N5 l vp vs vb L M/\az w w':=by
 obtain⟨ei,aY,aO,aE,L0,rfl,hc⟩:=h;obtain rfl:=hc.eq;have HC:=aa hc;obtain⟨M0,dm,ch,dn⟩:=oG hc.bl;have a5:=aa (DT dm (DT ch dn));have cU:=aa a9;have dq:L0.length=l.shown.length:=by have:=congrArg EW hc.sl;simpa using this
 have dr:M0.length=l.blocks.length:=by have:=congrArg EW ch;simpa using this
 obtain⟨J,bR⟩:=exq l.places.length;obtain⟨n,hn⟩:=exq L0.length;obtain⟨D,cu⟩:=exq M0.length;have aK:=aa (DT bR (DT hn cu));have bO:Hid (J<=100/\n<=30/\D<=600):=aa ⟨by rw[bR];exact a9.pl,by rw[hn,dq];exact a9.sh,by rw[cu,dr];exact a9.bl⟩;obtain⟨P0,bP⟩:=exq w.heap.size;obtain⟨R0,hR0⟩:=exq (w.heap.size+1);obtain⟨W2,ba⟩:=exq ((w.alloc (.cells (cL l aY aO aE).toArray 26)).alloc (.cells zL 26));have dt:(w.alloc (.cells (cL l aY aO aE).toArray 26)).heap.size=w.heap.size+1:=DO _ _;have bZ:Hid (az w W2):=aa (by rw[ba];exact(ae _ _).trans (ae _ _));have dh:av W2 P0 (cL l aY aO aE):=by rw[ba,bP];exact(av.box w 26 (cg _ _ _ _)).ext (ae _ _)
 have cc:av W2 R0 zL.toList:=by have h:=av.box (cs:=zL.toList) (w.alloc (.cells (cL l aY aO aE).toArray 26)) 26 (fun q=>by cases q);rw[dt,<-hR0]at h;rw[ba];exact h
 have bV:=aa dh;have cA:=aa cc;have H:Hid (P0=w.heap.size/\R0=w.heap.size+1/\w.heap.size+2<=W2.heap.size):=aa ⟨bP,hR0,by have:=cc.lt;omega⟩;have q3:=bV.cell (i:=3) (v:=aY) rfl;have bY:=aa (rB aY l.places W2 (hc.pl.ext bZ) (by have:=a9.pl;omega));rw[<-bR]at bY;unfold cL at ba;clear hc dm ch dn a9 dq dr bR hn cu dt dh cc;show DN DE 63 #[.agg #[.int .i64 l.kind,.int .i64 l.id,.int .i64 l.obj,aY,aO,.int .i64 l.Cq,.int .i64 l.Cs,aE,.int .i64 l.code]] w _;go_enter Tryz.func63,Tryz.ntmps63
 go_wp2_with (with_reducible refine aA (ty:=23) ?_)
 refine au ?_;rw[<-ba,<-hR0,<-bP];clear ba bP hR0
 go_wp2_with fail
 refine bY.mono ?_;rintro e wa ⟨va,rfl,af,B⟩;obtain⟨pa,V,d4,_,_⟩:=(bh.AS af).form;subst d4;have cN:Hid (az w wa):=aa (bZ.trans B);have bF:=aa (bV.ext B);have bW:=aa (cA.ext B);have cW:Hid (Pq (w.heap.size+2) wa.heap.size wa 1 (.slice pa J V) J (ao .i64 l.places)):=aa ((Pq.AS af).kept H.2.2 (DH _) (fun _ _ _=>rfl) (DH _));have d8:=bF.cell (i:=3) (v:=aY) rfl;have dU:=bF.fz (i:=3) (show 3 < 9 by decide);have bH:Hid (av (wa.setCell ⟨P0,3,none⟩ (.slice pa J V)) P0 (cL l (.slice pa J V) aO aE)):=aa (bF.put (i:=3) (show 3 < 9 by decide) (.slice pa J V));have a0:Hid (Kq (fun k=>k=P0) wa (wa.setCell ⟨P0,3,none⟩ (.slice pa J V))):=aa ((Kq.refl wa).setCell (Q:=fun k=>k=P0) ⟨P0,3,none⟩ rfl _);have d9:=bH.cell (i:=4) (v:=aO) rfl;clear af B q3 bY bZ bV cA
 go_wp2_with fail
 obtain⟨wb,cw⟩:=exq (wa.setCell ⟨P0,3,none⟩ (.slice pa J V));rw[<-cw]at bH a0⊢;have bM:Hid (az w wb):=aa (by rw[cw];exact FC cN (E9 H.1.symm) _);obtain⟨E,ci⟩:=exq wb.heap.size;have ap:Hid (E=wb.heap.size/\w.heap.size+2<=E):=aa ⟨ci,by have:=a0.size;have:=bW.lt;have:=H.out;omega⟩;have cX:Hid (Pq (w.heap.size+2) E wb 1 (.slice pa J V) J (ao .i64 l.places)):=aa (cW.kept (DH _) (by rw[ci];exact a0.size) (fun b z bb=>a0.block b bb (by have:=H.out;omega)) a0.size);have cE:=aa (a0.box (by have:=H.out;omega) bW);clear cw ci d8 dU d9 bF bW cW a0 cN;refine(rC aO L0 wb (bh.ext HC.sh.rd bM) (fun x hx=>(HC.sh.ok x hx).ext bM) (by have:=bO.out;have:=aK.2.1;omega)).mono ?_;rintro e wc ⟨vc,rfl,af,B⟩;rw[<-aK.out.2.1]at af;obtain⟨T,I,d5,_,_⟩:=(bh.AS af).form;subst d5;have cO:Hid (az w wc):=aa (bM.trans B);have bI:=aa (bH.ext B);have cF:=aa (cE.ext B);have cY:=aa (cX.kept (DH _) (DH _) (fun b _ bb=>B.block b (by rw[<-ap.out.1];exact bb)) B.size);have c1:Hid (Pq E wc.heap.size wc 3 (.slice T n I) n (aw cS L0)):=aa ((Pq.AS af).kept (by rw[ap.out.1];exact DH _) (DH _) (fun _ _ _=>rfl) (DH _));have b2:Hid (E<=wc.heap.size):=aa (by rw[ap.out.1];exact B.size);have ea:=bI.cell (i:=4) (v:=aO) rfl;have dV:=bI.fz (i:=4) (show 4 < 9 by decide);have bi:Hid (av (wc.setCell ⟨P0,4,none⟩ (.slice T n I)) P0 (cL l (.slice pa J V) (.slice T n I) aE)):=aa (bI.put (i:=4) (show 4 < 9 by decide) (.slice T n I));have aJ:Hid (Kq (fun k=>k=P0) wc (wc.setCell ⟨P0,4,none⟩ (.slice T n I))):=aa ((Kq.refl wc).setCell (Q:=fun k=>k=P0) ⟨P0,4,none⟩ rfl _);have dv:=bi.cell (i:=4) (v:=.slice T n I) rfl;clear af B bH cE cX bM
 go_wp2_with fail
 obtain⟨wd,cx⟩:=exq (wc.setCell ⟨P0,4,none⟩ (.slice T n I));rw[<-cx]at bi aJ dv⊢;have cP:Hid (az w wd):=aa (by rw[cx];exact FC cO (E9 H.1.symm) _);obtain⟨R,cj⟩:=exq wd.heap.size;have a6:Hid (R=wd.heap.size/\E<=R):=aa ⟨cj,by have:=aJ.size;have:=b2.out;omega⟩;have cZ:=aa (cY.kept (DH _) (DH _) (fun b z bb=>aJ.block b (by have:=b2.out;omega) (by have:=H.out;omega)) aJ.size);have c2:Hid (Pq E R wd 3 (.slice T n I) n (aw cS L0)):=aa (c1.kept (DH _) (by rw[cj];exact aJ.size) (fun b z bb=>aJ.block b bb (by have:=H.out;have:=ap.out;omega)) aJ.size);have cG:=aa (aJ.box (by have:=H.out;omega) cF);clear cx cj ea dV bI cF cY c1 aJ cO b2;go_loopw [18] (fun x wr=>∃(i:Nat) (L:List Sv),i<=n/\x=.int .i64 i/\Hid (Pq E R wr 3 (.slice T n I) n (aw cS L)/\Sq EP wr.heap.size wr (L.take i) R/\L.length=n/\L.drop i=L0.drop i/\L.map cf=l.shown)/\Hid (Kq (fun k=>E<=k) wd wr)) (fun x _=>n - (intOf x).toNat);case atStart=>exact⟨0,L0,DZ _,rfl,aa ⟨c2,E9 a6.1,aK.2.1.symm,rfl,HC.sl⟩,aa (Kq.refl _)⟩
 case round=>
  obtain⟨i,L,hi,rfl,o,C⟩:=hrel;have aQ:Hid (az w wr):=aa (cP.trans' C (by have:=ap.out;omega));by_cases a1:i < n
  ·have S:i < L.length:=by rw[o.out.2.2.1];exact a1
   have aT:i < L0.length:=by rw[<-aK.out.2.1];exact a1
   obtain⟨g,cap,hf,bt,bu,cq,cr,bT⟩:=o.1.1.form (by omega);injection hf with co _ cp;subst co cp;have bv:g < R:=o.1.2 g rfl;have cn:wr.rangeAt g (i*3) (cS (L.getD i s0)):=by have h:=oc s0 bT (fun x _=>bz x) S;rwa[DY]at h
   have bA:L.getD i s0=L0.getD i s0:=nL s0 o.2.2.2.1;have bw:=(HC.sh.ok _ (aH s0 aT)).ext aQ;have aB:=cU.st (cf (L0.getD i s0)) (by rw[<-HC.out.sl];exact FV (aH s0 aT));rw[<-bA]at bw aB;have b6:Hid (∀j,j < 3->(aw cS L)[i*3+j]? =(cS (L.getD i s0))[j]?):=aa fun j hj=>dk bz s0 j hj L i S
   have dc:Hid (∀a b,((aw cS L).set (i*3+1) a).set (i*3+2) b=aw cS (L.set i ((L.getD i s0).1,(a,(L.getD i s0).2.1.2),b,(L.getD i s0).2.2.2))):=aa fun a b=>by rw[cQ bz s0 ((L.getD i s0).1,(a,(L.getD i s0).2.1.2),(L.getD i s0).2.2.1,(L.getD i s0).2.2.2) a 1 (by decide) L i S rfl];rw[cQ bz s0 ((L.getD i s0).1,(a,(L.getD i s0).2.1.2),b,(L.getD i s0).2.2.2) b 2 (by decide) _ i (by rw[Ea];exact S) (by rw[ja s0 _ L i S];rfl),List.set_set]
   have db:Hid (∀a b,(L.set i ((L.getD i s0).1,(a,(L.getD i s0).2.1.2),b,(L.getD i s0).2.2.2)).map cf=l.shown):=aa fun a b=>by rw[pQ cf s0 ((L.getD i s0).1,(a,(L.getD i s0).2.1.2),b,(L.getD i s0).2.2.2) L i S rfl];exact o.2.2.2.2
   have b0:Hid (∀y,(L.set i y).take (i+1)=L.take i++[y]/\(L.set i y).drop (i+1)=L0.drop (i+1)/\(L.set i y).length=n):=aa fun y=>⟨j7 L i y S,by rw[pP L i y S];exact nM o.2.2.2.1,by rw[Ea];exact o.2.2.1⟩
   obtain⟨x0,hx⟩:=exq (L.getD i s0);rw[<-hx]at cn bw aB b6 dc db;obtain⟨be,⟨u1,st⟩,u2,F⟩:=x0;have b8:=aa bw;have da:=aa aB;have c9:=aa (run_loadAt_mid (P:=DE) wr g (i*3) 57 _ _ cn Tryz.underlying57 rfl (by rw[bz];kernel_rfl));obtain⟨di,dl⟩:=av.fresh (cs:=cS (be,(u1,st),u2,F)) wr 57 fj rfl (pd _);have dd:=aa (aI (P:=DE) (cs:=cS (be,(u1,st),u2,F)) wr 57 fj rfl (gP bw) (ty:=57) (by rw[bz];kernel_rfl));have bE:=aa di;have X:=aa dl;have ax:Hid (E<=g/\g < R/\g < wr.heap.size/\P0 < E/\R<=wr.heap.size):=aa ⟨bt,bv,bu,by have:=H.out;have:=ap.out;omega,by have:=C.size;have:=a6.out;omega⟩;have d0:(0:Int)<=(i:Int):=by omega
   have d1:(i:Int) < (n:Int):=by omega
   have d2:(i:Int)<=30:=by have:=bO.out;omega
   clear cn bw aB di dl bt bu cq cr bT bv S aT bA hx
   go_wp2_with first | refine ak rfl c9 ?_ | (with_reducible refine aC (ty:=57) ?_)
   refine au ?_;refine ag rfl rfl dd ?_;obtain⟨w5,du⟩:=exq ((wr.alloc (.cells fj 57)).setCells wr.heap.size 0 (cS (be,(u1,st),u2,F)));obtain⟨D4,cd⟩:=exq wr.heap.size;rw[<-du]at bE X⊢;rw[<-cd]at bE⊢;have cJ:Hid (D4=wr.heap.size/\D4 < w5.heap.size):=aa ⟨cd,bE.lt⟩;have b5:=aa (o.1.1.ext X);have ee:=aa (aQ.trans X);have b9:=aa (b8.ext X);have b4:Hid (∀t,Kq (fun k=>k=g\/w5.heap.size<=k) w5 t->t.cell? ⟨P0,4,none⟩=some (.slice (some ⟨g,0,none⟩) n I)/\t.cell? ⟨D4,1,none⟩=some u1/\t.cell? ⟨D4,2,none⟩=some u2):=aa fun t hk=>by have h1:=(C.box (by have:=ax.out;omega) bi).ext X;have h2:=hk.box (by have:=ax.out;have:=X.size;omega) h1;have h3:=hk.box (by have:=ax.out;have:=cJ.out;omega) bE;exact⟨h2.cell (i:=4) rfl,h3.cell (i:=1) rfl,h3.cell (i:=2) rfl⟩
   have ah:Hid (i*3+1 < (aw cS L).length/\i*3+2 < (aw cS L).length/\g < w5.heap.size):=aa ⟨by rw[dj,o.out.2.2.1];omega,by rw[dj,o.out.2.2.1];omega,by have:=ax.out;have:=cJ.out;omega⟩;have bX:Hid (∀t,az w5 t->DN DE 45 #[u1] t fun e w'=>∃v',e=.returned v'/\w'.ownsRow t.heap.size 5 1 v' st.length (ao .u8 st)/\az t w'):=aa fun t h2=>dZ u1 st t (b9.st.ext h2) (by have:=da.1;have h4:st.length<=100:=this;omega)
   have dB:Hid (∀t,az w5 t->DN DE 111 #[u2] t fun e w'=>∃v',e=.returned v'/\w'.ownsRow t.heap.size 54 32 v' F.length (aN F)/\az t w'):=aa fun t h2=>rE u2 F t (bh.ext b9.pa h2) b9.dg (by have:=da.2;have h4:F.length<=40:=this;omega)
   clear du cd dd c9
   go_wp2_with fail
   apply ay (Kq (fun k=>k=g\/w5.heap.size<=k)) (qD E n I g i st F (aw cS L) w5) 17 [23,24,25,26,27,28,29,30,31,32,33,34,35,36,37,38] [ar _,ar _,ar _,ar _,ar _,ar _,ar _,ar _,bK,ar _,ar _,bK,ar _,ar _,ar _,ar _,ar _] (fun w=>Kq.refl w) (fun a b c h k=>Kq.trans h k) (by kernel_rfl) (by kernel_rfl) (by kernel_rfl) (by kernel_rfl);case hsteps=>
    refine⟨?_,?_,?_,?_,?_,?_,?_,?_,?_,?_,?_,?_,?_,?_,?_,?_,?_,trivial⟩;all_goals
     intro d ev A aS G al aq aU z hd;replace al:=aa al;replace G:=aa G;replace aq:=aa aq;replace aU:=aa aU;have e1:=z 1 (by decide);have e3:=z 3 (by decide);have e4:=z 4 (by decide);clear z;simp only[sB]at e1 e3 e4;simp only[sG]at hd;have q3:=b4 _ aS;have eg:=q3.1;have de:=q3.2.1;have ef:=q3.2.2;clear q3;rw[if_pos (rfl:DP _ _=true)];first
     | (have hr:=G.r aU;obtain⟨Z,Y,aD,_,_⟩:=(G.b (al 8 (by kernel_rfl))).1.AT.form;have q9:=hr.cell (b6 1 (by decide));have f9:=hr.fz ah.1;go_simp;first | exact⟨(Kq.refl A).setCell (Q:=fun k=>k=g\/w5.heap.size<=k) ⟨g,i*3+1,none⟩ (.inl rfl) _,G.Dv (al 8 (by kernel_rfl)) (al 11 (by kernel_rfl)) aU ah.2.2 ah.1 aD⟩ | exact⟨(Kq.refl A).setCell (Q:=fun k=>k=g\/w5.heap.size<=k) ⟨g,i*3+1,none⟩ (.inl rfl) _,rfl,G.Dv (al 8 (by kernel_rfl)) (al 11 (by kernel_rfl)) aU ah.2.2 ah.1 aD⟩)
     | (go_simp;first | exact⟨Kq.refl _,rfl,G.same (by decide)⟩ | (go_at_call 45;have bq:=bX A (G.k (aq 14 (by kernel_rfl)));(with_reducible refine bq.mono ?_);rintro e t ⟨v9,rfl,k1,k2⟩;exact⟨_,rfl,Kq.AI k2,trivial,G.one (aq 11 (by kernel_rfl)) (aq 14 (by kernel_rfl)) k1 k2⟩) | (go_at_call 111;have bq:=dB A (G.k (aq 14 (by kernel_rfl)));(with_reducible refine bq.mono ?_);rintro e t ⟨v9,rfl,k1,k2⟩;exact⟨_,rfl,Kq.AI k2,trivial,G.two (al 8 (by kernel_rfl)) (aq 14 (by kernel_rfl)) k1 k2⟩) | exact⟨DI _ _,rfl,HJ.same (by decide) G⟩)
   case hmono=>exact mR
   case hR0=>exact Kq.drew _
   case hend=>
    intro u A aS hJ hend;simp only[sE]at hend;simp only[sF,hend];have z:=hJ.b rfl;obtain⟨bQ,bS⟩:=hJ.c rfl;have hr:=hJ.r2 rfl;obtain⟨Z,Y,aD,_,_⟩:=z.1.AT.form;obtain⟨p8,c8,cv,_,_⟩:=bQ.1.AT.form;rw[aD]at z bS hr;rw[cv]at bQ bS;have q9:A.cell? ⟨g,i*3+2,none⟩=some u2:=hr.cell (by rw[FA (by omega)];exact b6 2 (by decide));have f9:=hr.fz (j:=i*3+2) (by rw[Ea];exact ah.2.1)
    have bj:Hid (Pk (A.setCell ⟨g,i*3+2,none⟩ (.slice p8 F.length c8)) E 3 (.slice (some ⟨g,0,none⟩) n I) n (aw cS (L.set i (be,(.slice Z st.length Y,st),.slice p8 F.length c8,F)))):=aa (by
     rw[<-dc.out]
     exact hr.put (by rw[Ea];exact ah.2.1) _)
    have U:Hid (Kq (fun k=>k=g\/w5.heap.size<=k) w5 (A.setCell ⟨g,i*3+2,none⟩ (.slice p8 F.length c8))):=aa (aS.setCell (Q:=fun k=>k=g\/w5.heap.size<=k) ⟨g,i*3+2,none⟩ (.inl rfl) _);have ad:Kq (fun k=>k=g) A (A.setCell ⟨g,i*3+2,none⟩ (.slice p8 F.length c8)):=(Kq.refl A).setCell (Q:=fun k=>k=g) ⟨g,i*3+2,none⟩ rfl _;have cM:Hid (EP w5.heap.size (A.setCell ⟨g,i*3+2,none⟩ (.slice p8 F.length c8)).heap.size (A.setCell ⟨g,i*3+2,none⟩ (.slice p8 F.length c8)) (be,(.slice Z st.length Y,st),.slice p8 F.length c8,F)):=aa ⟨z.kept (DH _) ad.size (fun b h1 h2=>ad.block b h2 (by have:=ah.2.2;omega)) ad.size,bQ.kept (DH _) ad.size (fun b h1 h2=>ad.block b h2 (by have:=ah.2.2;omega)) ad.size,bS,b8.bs,b8.dg⟩;simp only[aD,cv];clear z bQ bS hr ad aS hJ hend aD cv
    go_wp2_with fail
    obtain⟨w9,bx⟩:=exq (A.setCell ⟨g,i*3+2,none⟩ (.slice p8 F.length c8));rw[<-bx]at bj U cM⊢;clear bx q9 f9;go_roundw
    case rel=>exact⟨i+1,L.set i (be,(.slice Z st.length Y,st),.slice p8 F.length c8,F),by omega,by go_num,aa ⟨⟨bj,fun b z=>o.1.2 b z⟩,by
      rw[(b0.out _).1];refine Sq.snoc jk (m:=wr.heap.size) (D0 X.size U.size) ?_ ?_
      ·exact jk _ _ _ _ _ _ _ cM X.size (DH _) (fun _ _ _=>rfl) (DH _)
      ·exact o.2.1.kept jk (D0 X.size U.size) fun b h1 h2=>(U.block b (D9 h2 X.size) (by have:=ax.out;have:=X.size;omega)).trans (X.block b h2),(b0 _).2.2,(b0 _).2.1,db _ _⟩,aa (C.trans ((Kq.AI X).trans (U.mono fun k hk q=>by have:=ax.out;have:=X.size;omega)))⟩
    case measure=>simp[intOf];omega
   case hJ0=>exact qD.start ((DI _ _).drew) (b5.kept (fun _ _=>rfl) (DH _))
  ·obtain rfl:i=n:=by omega
   have dD:Hid (L.take i=L):=aa (DW (by rw[o.out.2.2.1];exact DH _));obtain⟨O,ck⟩:=exq wr.heap.size;have a7:Hid (O=wr.heap.size/\R<=O):=aa ⟨ck,by have:=C.size;have:=a6.out;omega⟩;have c3:Hid (Sq EP O wr L R):=aa (by have h:=o.2.1;rw[dD.out,<-ck]at h;exact h);have c5:=aa o.1;have cT:=aa (DT o.2.2.1 o.2.2.2.2);have bg:=aa (C.box (by have:=H.out;have:=ap.out;omega) bi);have cC:=aa (C.box (by have:=H.out;have:=ap.out;omega) cG);have cV:=aa (cZ.kept (DH _) (DH _) (fun b h1 h2=>C.block b (by have:=a6.out;omega) (by omega)) C.size);have q7:=bg.cell (i:=7) (v:=aE) rfl;clear o a1 ck C bi cG cZ cP c2 dv
   go_wp2_with fail
   refine(rD aE M0 wr (bh.ext a5.1 aQ) (fun x hx=>by obtain⟨p,c,hf,_⟩:=(a5.2.2 x hx).form;exact⟨p,_,c,hf⟩) (by have:=bO.out;have:=aK.2.2;omega)).mono ?_;rintro e we ⟨ve,rfl,af,B⟩;rw[<-aK.out.2.2]at af;obtain⟨W,ce,d6,_,_⟩:=(bh.AS af).form;subst d6;have cR:Hid (az w we):=aa (aQ.trans B);have bJ:=aa (bg.ext B);have cH:=aa (cC.ext B);have c0:=aa (cV.kept (DH _) (DH _) (fun b _ h2=>B.block b (by have:=a7.out;have:=a6.out;omega)) B.size);have c4:=aa (c3.kept jk B.size (fun b _ h2=>B.block b (by have:=a7.out;omega)));have c6:=aa (c5.kept (DH _) (DH _) (fun b _ h2=>B.block b (by have:=a7.out;omega)) B.size);have cI:Hid (Pq O we.heap.size we 1 (.slice W D ce) D (aw cB M0)):=aa ((Pq.AS af).kept (by rw[a7.out.1];exact DH _) (DH _) (fun _ _ _=>rfl) (DH _));have b3:Hid (O<=we.heap.size):=aa (by rw[a7.out.1];exact B.size);have eb:=bJ.cell (i:=7) (v:=aE) rfl;have dW:=bJ.fz (i:=7) (show 7 < 9 by decide);have bL:Hid (av (we.setCell ⟨P0,7,none⟩ (.slice W D ce)) P0 (cL l (.slice pa J V) (.slice T i I) (.slice W D ce))):=aa (bJ.put (i:=7) (show 7 < 9 by decide) (.slice W D ce));have ac:Hid (Kq (fun k=>k=P0) we (we.setCell ⟨P0,7,none⟩ (.slice W D ce))):=aa ((Kq.refl we).setCell (Q:=fun k=>k=P0) ⟨P0,7,none⟩ rfl _);have ec:=bL.cell (i:=7) (v:=.slice W D ce) rfl;clear af B q7 bg cC cV c3 c5 aQ
   go_wp2_with fail
   obtain⟨wf,cy⟩:=exq (we.setCell ⟨P0,7,none⟩ (.slice W D ce));rw[<-cy]at bL ac ec⊢;have dC:Hid (az w wf):=aa (by rw[cy];exact FC cR (E9 H.1.symm) _);obtain⟨N4,cl⟩:=exq wf.heap.size;have K:Hid (P0 < E/\E<=R/\R<=O/\O<=we.heap.size/\w.heap.size+2<=E):=aa ⟨by have:=H.out;have:=ap.out;omega,a6.2,a7.2,b3,ap.2⟩;have a8:Hid (N4=wf.heap.size/\O<=N4):=aa ⟨cl,by have:=ac.size;have:=b3.out;omega⟩;have dG:=aa (c0.kept (DH _) (DH _) (fun b h1 h2=>ac.block b (by have:=K.out;omega) (by have:=H.out;omega)) ac.size);have dJ:=aa (c4.kept jk ac.size (fun b h1 h2=>ac.block b (by have:=K.out;omega) (by have:=K.out;omega)));have dI:=aa (c6.kept (DH _) (DH _) (fun b h1 h2=>ac.block b (by have:=K.out;omega) (by have:=K.out;omega)) ac.size);have dA:Hid (Pq O N4 wf 1 (.slice W D ce) D (aw cB M0)):=aa (cI.kept (DH _) (by rw[cl];exact ac.size) (fun b h1 h2=>ac.block b h2 (by have:=K.out;omega)) ac.size);have dz:=aa (ac.box (by have:=H.out;omega) cH);clear cy cl eb dW bJ cH c0 c4 c6 cI ac cR b3;go_loopw [47] (fun x wr=>∃(j:Nat) (M:List Bv),j<=D/\x=.int .i64 j/\Hid (Pq O N4 wr 1 (.slice W D ce) D (aw cB M)/\Sq EB wr.heap.size wr (M.take j) N4/\M.length=D/\M.drop j=M0.drop j/\M.map (·.2)=l.blocks)/\Hid (Kq (fun k=>O<=k) wf wr)) (fun x _=>D - (intOf x).toNat);case atStart=>exact⟨0,M0,DZ _,rfl,aa ⟨dA,E9 a8.1,aK.2.2.symm,rfl,a5.2.1⟩,aa (Kq.refl _)⟩
   case round=>
    obtain⟨j,M,hj,rfl,o,C⟩:=hrel;have aQ:Hid (az w wr):=aa (dC.trans' C (by have:=K.out;omega));by_cases a1:j < D
    ·have S:j < M.length:=by rw[o.out.2.2.1];exact a1
     have aT:j < M0.length:=by rw[<-aK.out.2.2];exact a1
     obtain⟨g,cap,hf,bt,bu,cq,cr,bT⟩:=o.1.1.form (by omega);injection hf with co _ cp;subst co cp;have bv:g < N4:=o.1.2 g rfl;have bA:M.getD j (.slice none 0 0,[])=M0.getD j (.slice none 0 0,[]):=nL _ o.2.2.2.1;have bd:=(a5.2.2 _ (aH (.slice none 0 0,[]) aT)).ext aQ;have aB:=cU.bs (M0.getD j (.slice none 0 0,[])).2 (by rw[<-a5.out.2.1];exact FV (aH (.slice none 0 0,[]) aT));have bo:=HC.Ct (M0.getD j (.slice none 0 0,[])).2 (by rw[<-a5.out.2.1];exact FV (aH (.slice none 0 0,[]) aT));rw[<-bA]at bd aB bo;have bp:(aw cB M)[j]? =some (M.getD j (.slice none 0 0,[])).1:=by have h:=dk (f:=cB) (s:=1) (fun _=>rfl) (.slice none 0 0,[]) 0 (by decide) M j S;rw[Fi,Gh]at h;exact h
     have ca:Hid (∀a,(aw cB M).set j a=aw cB (M.set j (a,(M.getD j (.slice none 0 0,[])).2))):=aa fun a=>by have h:=cQ (f:=cB) (s:=1) (fun _=>rfl) (.slice none 0 0,[]) (a,(M.getD j (.slice none 0 0,[])).2) a 0 (by decide) M j S rfl;rw[Fi,Gh]at h;exact h
     have b7:Hid (∀a,(M.set j (a,(M.getD j (.slice none 0 0,[])).2)).map (·.2)=l.blocks):=aa fun a=>by rw[pQ (·.2) (.slice none 0 0,[]) (a,(M.getD j (.slice none 0 0,[])).2) M j S rfl];exact o.2.2.2.2
     have b1:Hid (∀y,(M.set j y).take (j+1)=M.take j++[y]/\(M.set j y).drop (j+1)=M0.drop (j+1)/\(M.set j y).length=D):=aa fun y=>⟨j7 M j y S,by rw[pP M j y S];exact nM o.2.2.2.1,by rw[Ea];exact o.2.2.1⟩
     obtain⟨x0,hx⟩:=exq (M.getD j (.slice none 0 0,[]));rw[<-hx]at bd aB bo bp ca b7;obtain⟨u1,st⟩:=x0;simp only at bd aB bo bp ca b7;obtain⟨p1,de,d3,_,_⟩:=bd.form;subst d3;have dM:=aa bd;have c7:=aa (DT aB bo);have dY:=o.1.1.cell bp;have b5:=aa o.1.1;have dK:=aa bp;have bg:=aa (C.box (by have:=K.out;omega) bL);have ax:Hid (O<=g/\g < N4/\g < wr.heap.size/\N4<=wr.heap.size):=aa ⟨bt,bv,bu,by have:=C.size;have:=a8.out;omega⟩;have b4:Hid (∀t,Kq (fun _=>False) wr t->t.cell? ⟨P0,7,none⟩=some (.slice (some ⟨g,0,none⟩) D ce)):=aa fun t hk=>(hk.box (fun q=>q) bg).cell (i:=7) rfl
     have bX:Hid (∀t,az wr t->DN DE 45 #[.slice p1 st.length de] t fun e w'=>∃v',e=.returned v'/\w'.ownsRow t.heap.size 5 1 v' st.length (ao .u8 st)/\az t w'):=aa fun t h2=>dZ _ st t (dM.ext h2) (by have:=c7.1;omega)
     have ah:Hid (j < (aw cB M).length):=aa (by rw[bG (s:=1) (fun _ _=>rfl),o.out.2.2.1];omega);have d0:(0:Int)<=(j:Int):=by omega
     have d1:(j:Int) < (D:Int):=by omega
     have d2:(j:Int)<=600:=by have:=bO.out;omega
     clear bd aB bo bp bt bu cq cr bT bv S aT bA hx
     go_wp2_with fail
     clear dY;apply ay (Kq (fun _=>False)) (mO st wr) 6 [52,53,54,55,56,57] [ar _,ar _,ar _,ar _,bK,ar _] (fun w=>Kq.refl w) (fun a b c h k=>Kq.trans h k) (by kernel_rfl) (by kernel_rfl) (by kernel_rfl) (by kernel_rfl);case hsteps=>
      refine⟨?_,?_,?_,?_,?_,?_,trivial⟩;all_goals
       intro d ev A aS G al aq aU z hd;replace al:=aa al;replace G:=aa G;replace aq:=aa aq;replace aU:=aa aU;have e1:=z 1 (by decide);have e5:=z 5 (by decide);have e6:=z 6 (by decide);clear z;simp only[sB]at e1 e5 e6;simp only[sG]at hd;have eh:=b4 _ aS;rw[if_pos (rfl:DP _ _=true)];go_simp;first | exact⟨Kq.refl _,rfl,G.same (by decide)⟩ | (go_at_call 45;have bq:=bX A G.k;(with_reducible refine bq.mono ?_);rintro e t ⟨v9,rfl,k1,k2⟩;exact⟨_,rfl,Kq.AI k2,trivial,G.one k1 k2⟩) | exact⟨DI _ _,rfl,HJ.same (by decide) G⟩
     case hmono=>exact mR
     case hR0=>exact Kq.drew _
     case hend=>
      intro u A aS hJ hend;simp only[sE]at hend;simp only[sF,hend];have z:=hJ.b rfl;have hk:=hJ.k;obtain⟨Z,Y,aD,_,_⟩:=z.1.AT.form;rw[aD]at z;have bN:=b5.ext hk;have q9:=bN.cell dK;have f9:=bN.fz ah
      have bj:Hid (Pk (A.setCell ⟨g,j,none⟩ (.slice Z st.length Y)) O 1 (.slice (some ⟨g,0,none⟩) D ce) D (aw cB (M.set j (.slice Z st.length Y,st)))):=aa (by
       rw[<-ca.out]
       exact bN.put ah _)
      have ad:Kq (fun k=>k=g) A (A.setCell ⟨g,j,none⟩ (.slice Z st.length Y)):=(Kq.refl A).setCell (Q:=fun k=>k=g) ⟨g,j,none⟩ rfl _;have U:Hid (Kq (fun k=>k=g) wr (A.setCell ⟨g,j,none⟩ (.slice Z st.length Y))):=aa ((Kq.AI hk).trans ad);have cK:Hid (EB wr.heap.size (A.setCell ⟨g,j,none⟩ (.slice Z st.length Y)).heap.size (A.setCell ⟨g,j,none⟩ (.slice Z st.length Y)) (.slice Z st.length Y,st)):=aa ⟨z.kept (DH _) ad.size (fun b h1 h2=>ad.block b h2 (by have:=ax.out;omega)) ad.size,c7.2⟩;simp only[aD];clear z hk ad aS hJ hend aD bN
      go_wp2_with fail
      obtain⟨w9,bx⟩:=exq (A.setCell ⟨g,j,none⟩ (.slice Z st.length Y));rw[<-bx]at bj U cK⊢;clear bx q9 f9;go_roundw
      case rel=>exact⟨j+1,M.set j (.slice Z st.length Y,st),by omega,by go_num,aa ⟨⟨bj,fun b z=>o.1.2 b z⟩,by
        rw[(b1.out _).1];refine Sq.snoc pO (m:=wr.heap.size) U.size cK ?_
        exact o.2.1.kept pO U.size fun b h1 h2=>U.block b h2 (by have:=ax.out;omega),(b1 _).2.2,(b1 _).2.1,b7 _⟩,aa (C.trans (U.mono fun k hk q=>by have:=ax.out;omega))⟩
      case measure=>simp[intOf];omega
     case hJ0=>exact mO.start ((DI _ _).drew)
    ·obtain rfl:j=D:=by omega
     have dF:Hid (M.take j=M):=aa (DW (by rw[o.out.2.2.1];exact DH _));have dx:=aa (C.box (by have:=K.out;omega) bL);have cD:=aa (C.box (by have:=K.out;have:=H.out;omega) dz)
     have dw:Hid (jD wr (w.heap.size+2) E R O N4 wr.heap.size l (.slice pa J V) (.slice T i I) (.slice W j ce) L M):=aa ⟨by
       rw[<-aK.out.1];exact dG.kept (DH _) (DH _) (fun b h1 h2=>C.block b (by have:=K.out;have:=a8.out;omega) (by have:=K.out;omega)) C.size,by
       rw[cT.out.1];exact dI.kept (DH _) (DH _) (fun b h1 h2=>C.block b (by have:=K.out;have:=a8.out;omega) (by have:=K.out;omega)) C.size,dJ.kept jk C.size (fun b h1 h2=>C.block b (by have:=K.out;have:=a8.out;omega) (by omega)),cT.2,by
       rw[o.out.2.2.1];exact o.1,by
       have h:=o.2.1;rw[dF.out]at h
       exact h,o.2.2.2.2,DH _,K.2.2.2.2,K.2.1,a8.2⟩
     have dL:=aa (dx.load (P:=DE) DQ rfl (by kernel_rfl));have ds:∀c∈cL l (.slice pa J V) (.slice T i I) (.slice W j ce),c.oneCell'=true:=bk ⟨_,_,_,rfl⟩ ⟨_,_,_,rfl⟩ ⟨_,_,_,rfl⟩;have dN:=aa (cD.store (P:=DE) (cs':=cL l (.slice pa J V) (.slice T i I) (.slice W j ce)) rfl ds (ty:=26) (by kernel_rfl));have dy:=aa (cD.set (cs':=cL l (.slice pa J V) (.slice T i I) (.slice W j ce)) rfl);have U:Hid (Kq (fun k=>k=R0) wr (wr.setCells R0 0 (cL l (.slice pa J V) (.slice T i I) (.slice W j ce)))):=aa ((Kq.refl wr).setCells (Q:=fun k=>k=R0) rfl 0 _);clear o ds a1
     go_wp2_with first | refine ak rfl dL ?_ | refine ag rfl rfl dN ?_
     refine DK (v:=.agg (cL l (.slice pa J V) (.slice T i I) (.slice W j ce)).toArray) (aG rfl rfl (dy.loadVar (P:=DE) DQ rfl (by kernel_rfl))) rfl ?_;exact⟨_,_,_,L,M,E,R,O,N4,_,rfl,dw.kept (fun b h1 h2=>U.block b h2 (by have:=H.out;omega)) U.size (Nat.le_add_right _ 2),aQ.trans' (N:=w.heap.size) (U.mono fun k hk q=>by have:=H.out;omega) (DH _)⟩
end Go.Proofs.Bl
