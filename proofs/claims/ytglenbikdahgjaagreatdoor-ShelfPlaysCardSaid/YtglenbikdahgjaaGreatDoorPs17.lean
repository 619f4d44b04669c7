/- Texts that stood apart, in one: WSv3, WSv4, WSv5. -/
import Derived.Test.YtglenbikdahgjaaGreatDoorPs15
set_option maxRecDepth 100000
set_option maxHeartbeats 16000000
open And renaming intro->Dj
open Go renaming Calls->CZ,Value->CQ,World->CP,bodyPost_ret->De,maxLen->Dc,zeroValue->FT
open Go.Instr renaming build->FL,lookup->ER
open Go.Region renaming wanted->C8
open Go.RowKit.Below renaming refl->CT
open Go.World renaming size_alloc->C4
open Int renaming eq_ofNat_of_zero_le->DK,toNat_natCast->Dy
open List renaming getD_eq_getElem?_getD->CR,length->Ej,length_drop->C6,length_map->CY,length_take->Da,map_append->D3,take_of_length_le->CX
open Nat renaming le_refl->CU,le_trans->Dk,lt_of_lt_of_le->Dd,zero_add->Dq
open Option.some renaming inj->Ei
namespace Go.Proofs.Bl
open Go Go.RowKit Go.Proofs
open Go.Proofs.Tryz renaming prog->CO,underlying26->C5,underlying3->DP,underlying84->D7
def za (w:CP) (l':BC) (e:Ending) (w':CP):Prop:=∃vp vs vb L,e=.returned (.agg (cL l' vp vs vb).toArray)/\cn (fun k=>w.heap.size<=k) w' l' vp vs vb L/\au w w'
theorem mH (ps:List (List Int)) (i:Nat) (h:ps.length<=512):dd (gu ps i):=lK _ _ i (CU _) (by rw[CY];omega) (jj ps)
theorem mI (all:List (List Int)) (ps:List Int) (i:Nat) (h:i < ps.length):gY all (ps.take (i+1))=gY all (ps.take i)++[(ps.getD i 0,all.getD (ps.getD i 0).toNat [],gu all (ps.getD i 0).toNat)]:=by
 unfold gY;rw[aF 0 ps i h,D3];rfl
theorem fS.el {N:Nat->Prop} {w:CP} {v:CQ} {st:List (List Int)} (h:fS N w v st) {i:Nat} (q:i < st.length):∃(b:Nat) (c:Nat) (p1:Option Addr) (a:Nat),v=.slice (some ⟨b,0,none⟩) st.length c/\st.length<=c/\c<=Dc/\b < w.heap.size/\w.cell? ⟨b,i,none⟩=some (.slice p1 (st.getD i []).length a)/\Bu w .u8 (.slice p1 (st.getD i []).length a) (st.getD i []):=by
 obtain⟨M,h1,h2,j⟩:=h;have k:M.length=st.length:=by rw[<-j,CY]
 obtain⟨g,c,p,_,n,l,hm,o⟩:=h1.form (by omega);have f:i < M.length:=by omega
 have hx:=(h2 _ (aJ kl f)).1.BD;have d:=o i _ (jW M i f);rw[Dq]at d;have e:(M.getD i kl).2=st.getD i []:=by rw[<-j,CR,CR,List.getElem?_map,List.getElem?_eq_getElem f];rfl
 rw[e]at hx;obtain⟨p1,a,m,_,_⟩:=hx.form;rw[m]at d hx;exact⟨g,c,p1,a,by rw[<-k];exact p,by rw[<-k];exact l,hm,n,d,hx⟩
theorem vB (p:Int) (e f:Option Addr) (c a d b:Nat) (w:CP):(FL 57 #[(0,.int .i64 p),(1,.slice e c a),(2,.slice f d b)]).run CO w=.ok (.agg #[.int .i64 p,.slice e c a,.slice f d b]) w:=run_build w _ _ _ (by kernel_rfl)
theorem sZ (b:Nat) (N Q:Nat->Prop) (s:bL) (v:CQ) (l:BC) (w:CP) (S:List Nat) (a:Nat->Addr) (hS:gx N Q w b s) (cq:cH s) (hL:eg w v l) (hc:aR l=0) (W:l.kind=3) (hg:eZ w) (he:ix S a w) (s1:1∈S) (all:List (List Int)) (ha:bn s l.obj=some all):
  CZ CO 38 #[.pointer (some ⟨b,0,none⟩),v] w fun e w'=>za w (gv s l) e w':=by
 have HL:=aa hL;obtain⟨dT,vp,vs,vb,L,rfl,aO⟩:=hL;obtain rfl:=aO.eq;obtain⟨m,sb,mp,hR⟩:=hS;obtain⟨v0,ci,bG⟩:=hR.some ha;obtain⟨dw,dy,cp⟩:=cq.get ha;obtain⟨cr,dA,ct⟩:=qv hc W;obtain⟨pl,cl,dF,_,_⟩:=aO.pl.form;subst dF;obtain⟨V,aE,_,_,dD,cm,dt,cd,_,_⟩:=bG.el (i:=0) (by omega);subst dD;obtain⟨n,hn⟩:=exq all.length;obtain⟨k,a6⟩:=exq l.places.length;have z:=aa (Dj hn (Dj a6 (Dj cp ct)));have aV:=aa bG;have cW:Hid ((∀p∈l.places,p < (n:Int))->gv s l=mj l all):=aa fun q=>by unfold gv;rw[ha];simp only;rw[if_pos (by rw[<-hn];exact q)]
 have cY:Hid (∀i,i < k->¬l.places.getD i 0 < (n:Int)->gv s l=dh l 1):=aa fun i hi q=>by unfold gv;rw[ha];simp only;rw[if_neg (fun h=>q (by rw[hn];exact h _ (aJ 0 (by omega))))];rfl
 rw[<-hn]at cm;have aU:Hid (1<=n/\n<=512/\1<=k/\k<=12/\n<=aE/\aE<=Dc):=aa (by omega);obtain⟨an,dr⟩:∃an:BC,an=⟨4,l.id,l.obj,[],[],0,0,[],0⟩:=⟨_,rfl⟩;obtain⟨W1,R⟩:=exq ((w.alloc (.cells (cL l (.slice pl l.places.length cl) vs vb).toArray 26)).alloc (.cells zL 26));have bm:au w W1:=by rw[R];exact(ae _ _).trans (ae _ _)
 have cz:W1.heap.size=w.heap.size+1+1:=by rw[R,C4,C4]
 have a1:aw W1 w.heap.size (cL l (.slice pl l.places.length cl) vs vb):=by rw[R];exact(aw.box w 26 (bR _ _ _ _)).ext (ae _ _)
 have bl:aw W1 (w.heap.size+1) zL.toList:=by rw[R];exact fQ w _ zL.toList _ _ (fun h=>by cases h)
 obtain⟨O,hR0⟩:=exq (w.heap.size+1);obtain⟨P0,bp⟩:=exq w.heap.size;rw[<-hR0]at bl;rw[<-bp]at a1;have cM:=aa bm;have ap:=aa a1;have bP:=aa bl;have ab:Hid (P0=w.heap.size/\O=w.heap.size+1/\W1.heap.size=w.heap.size+1+1):=aa ⟨bp,hR0,cz⟩;have a4:=hR.ext bm;have cb:=a4.bx.cell (i:=0) (v:=.map (some m)) rfl;have ce:=a4.bx.lt;have aQ:=ap.cell (i:=2) (v:=.int .i64 l.obj) rfl;have cA:=ap.lt;have bi:Hid (∀g,au W1 g->(ER 84 (.map (some m)) (.int .i64 l.obj) true).run CO g=.ok (.tuple #[.slice (some ⟨V,0,none⟩) n aE,.bool true]) g):=aa fun g h2=>by
  have hz:(FT 22).run CO g=.ok (.slice none 0 0) g:=by first | rfl | kernel_rfl | (simp[go_sem];done)
  have h:=(a4.mt.ext h2).lookup (P:=CO) D7 DP hz l.obj;rw[ci,<-hn]at h;exact h
 have HG:=aa (Dj hg (Dj he s1));have bV:=aa (Dj aO.pl (iE.one aO));have bX:Hid (V < w.heap.size):=aa cd;obtain⟨oj,bz⟩:=exq l.obj;rw[<-bz]at bi aQ;have dP:=aa bz;rw[<-a6]at R a1 ap HL bV;unfold cL at R;clear aO hR ci bG dw dy cp cr dA ct cq hc W hg he ha bm a1 bl a4 cd hn cm dt cz hR0 bp bz;rw[<-a6];show CZ CO 38 #[.pointer (some ⟨b,0,none⟩),.agg #[.int .i64 l.kind,.int .i64 l.id,.int .i64 l.obj,.slice pl k cl,vs,.int .i64 l.BE,.int .i64 l.BG,vb,.int .i64 l.code]] w _;clear a6;go_enter Tryz.func38,Tryz.ntmps38
 go_wp2_with fail
 rw[<-R];rw[show w.heap.size+1=O from ab.out.2.1.symm,show w.heap.size=P0 from ab.out.1.symm];clear R;apply az (au) (fun _ _ _=>True) 12 [13,14,15,16,17,18,19,12,20,21,5,6] [ar _,ar _,ar _,ar _,ar _,ar _,ar _,ar _,ar _,ar _,ar _,ar _] (fun w=>CT _ w) (fun a b c h k=>au.trans h k) (by kernel_rfl) (by kernel_rfl) (by kernel_rfl) (by kernel_rfl);case hsteps=>
  refine⟨?_,?_,?_,?_,?_,?_,?_,?_,?_,?_,?_,?_,trivial⟩;all_goals
   intro d ev T C E t K J I f;replace t:=aa t;replace E:=aa E;replace K:=aa K;replace J:=aa J;have e0:=I 0 (by decide);have e3:=I 3 (by decide);clear I;simp only[sB]at e0 e3;simp only[sG]at f;have hc:=(ay C).1;have dR:=(hc _ 0 ce).trans cb;have c2:=(hc _ 2 cA).trans aQ;have lk:=bi _ C;simp only[C8,if_true];go_simp;first | exact⟨CT _ _,rfl,trivial⟩ | exact⟨CT _ _,rfl⟩ | exact CT _ _
 case hmono=>exact mR
 case hR0=>exact(CT _ _).drew
 case hend=>
  intro u T C hJ hend;simp only[sE]at hend;simp only[sF,hend];have be:Hid (au w T):=aa (cM.trans C);have aq:=aa (ap.ext C);have bc:=aa (bP.ext C);obtain⟨W2,br⟩:=exq T;rw[<-br]at be aq bc⊢;have cV:Hid (w.heap.size+2<=W2.heap.size):=aa (by rw[br];have:=C.size;have:=ab.out;omega);clear C hend hJ cb ce aQ cA ap bP bi br;obtain⟨aI,aL⟩:=aw.fresh (cs:=cL an ag ag ag) W2 26 zL rfl (bR _ _ _ _);have b2:=aa (aH (P:=CO) (cs:=cL an ag ag ag) W2 26 zL rfl (bk ⟨_,_,_,rfl⟩ ⟨_,_,_,rfl⟩ ⟨_,_,_,rfl⟩) (ty:=26) (by kernel_rfl));have dH:=aq.cell (i:=1) (v:=.int .i64 l.id) rfl;have aQ:=aq.cell (i:=2) (v:=.int .i64 l.obj) rfl;subst dr
  go_wp2_with (with_reducible refine aC (ty:=26) ?_)
  refine ax ?_;refine ak rfl rfl b2 ?_;obtain⟨W3,b9⟩:=exq ((W2.alloc (.cells zL 26)).setCells W2.heap.size 0 (cL ⟨4,l.id,l.obj,[],[],0,0,[],0⟩ ag ag ag));obtain⟨Y,hY⟩:=exq W2.heap.size;rw[<-b9]at aI aL⊢;rw[<-hY]at aI⊢;obtain⟨B,hB⟩:=exq W3.heap.size;have A:Hid (O < Y/\Y < B/\P0 < O/\w.heap.size<=Y/\B=W3.heap.size/\w.heap.size<=B):=aa (by have:=aI.lt;have:=cV.out;have:=ab.out;omega);have cN:Hid (au w W3):=aa (be.trans aL);have bN:=aa (aq.ext aL);have cF:=aa (bc.ext aL);have cD:=aa aI;have dI:=bN.cell (i:=3) (v:=.slice pl k cl) rfl;clear aI aL b2 aq bc b9 hY hB dH aQ be
  go_wp2_with fail
  clear dI;go_loopw [34] (fun x wr=>∃(i:Nat) (o:CQ) (M:List Sv),i<=k/\x=.int .i64 i/\Hid (GQ cS 3 fD (fun b=>B<=b) B wr Y 4 ((cL ⟨4,l.id,l.obj,[],[],0,0,[],0⟩ ag ag ag).set 4 o) o M/\M.map cC=gY all (l.places.take i)/\∀p∈l.places.take i,p < (n:Int))/\Hid (Kq (fun k=>k=Y\/B<=k) W3 wr)) (fun x _=>k - (intOf x).toNat);case atStart=>exact⟨0,.slice none 0 0,[],Nat.zero_le _,rfl,aa ⟨GQ.start cD rfl,rfl,fun p hp=>(by simp at hp)⟩,aa (Kq.refl _)⟩
  case round=>
   obtain⟨i,o,M,hi,rfl,G,av⟩:=hrel;have F:Hid (au w wr):=aa ((cN.trans' (N:=w.heap.size) (av.mono fun j _ q=>by have:=A.out;omega) (CU _)));have bw:∀X,X < B->X≠Y->¬(X=Y\/B<=X):=fun X h1 h2 q=>by omega
   have bO:=aa (av.box (bw P0 (by have:=A.out;omega) (by have:=A.out;omega)) bN);have bd:=aa (av.box (bw O (by have:=A.out;omega) (by have:=A.out;omega)) cF);have aS:Hid (B<=wr.heap.size):=aa (by have:=av.size;have:=A.out;omega);clear bw;by_cases bv:i < k
   ·have aP:i < l.places.length:=by rw[<-z.out.2.1];exact bv
    obtain⟨dc,op,c2,hq,_,_,cf,dC,a5⟩:=Bu.pos bV.1 (by omega);rw[z.out.2.1]at hq;injection hq with Z bB bC;subst Z bC;have bt:=((ay F).1 dc (op+i) cf).trans (a5 i aP);have a7:=z.2.2.2 _ (aJ 0 aP);obtain⟨p,hp⟩:=exq (l.places.getD i 0);rw[<-hp]at bt a7;have Hp:=aa hp;have dU:(0:Int)<=(i:Int):=by omega
    have dV:(i:Int) < (k:Int):=by omega
    have dW:(i:Int)<=12:=by have:=aU.out;omega
    have dz:=a7.1;have cr:=a7.2;clear dC a5 bB hp a7 cf
    go_wp2_with fail
    have a8:p=l.places.getD i 0:=Hp.out;have aW:Hid (∀st r,st=all.getD p.toNat []->r=gu all p.toNat->gY all (l.places.take (i+1))=gY all (l.places.take i)++[(p,st,r)]):=aa fun st r h1 h2=>by rw[mI all l.places i aP,<-a8,h1,h2]
    have b3:Hid (p < (n:Int)->∀x∈l.places.take (i+1),x < (n:Int)):=aa fun q x hx=>by
     rw[aF 0 l.places i aP,<-a8]at hx;rcases List.mem_append.1 hx with hx | hx
     ·exact G.2.2 x hx
     ·obtain rfl:x=p:=by simpa using hx
      exact q
    clear aP;by_cases cu:p < (n:Int)
    ·obtain⟨pi,rfl⟩:=DK dz;have bA:pi < n:=by omega
     have cx:=aV.BF.ext F;rw[Dy]at aW;obtain⟨dQ,dS,p1,c1,hq,_,_,ds,bs,bE⟩:=aV.el (i:=pi) (by rw[<-z.out.1];exact bA);injection hq with Z bB bC;injection Z with Z;injection Z with Z;subst Z bC;have bb:=z.2.2.1 _ (aJ (L:=all) [] (i:=pi) (by rw[<-z.out.1];exact bA));obtain⟨st,bH⟩:=exq (all.getD pi []);obtain⟨r,a9⟩:=exq (gu all pi);have cg:dd r:=by rw[a9];exact mH all pi (by rw[<-z.out.1];exact aU.2.1)
     rw[<-bH]at bs bE bb;have cy:=aW st r bH a9;have c7:=aa cy;have bj:=aa (Dj bb.1 (Dj bb.2 cg));have db:Hid (aY (fun j=>j < w.heap.size) w (.slice p1 st.length c1) st.length (aj .u8 st)):=aa (aY.By bE fun j _ D=>D);have bh:=aa (su (.slice (some ⟨V,0,none⟩) n aE) all pi wr (by rw[z.out.1];exact cx) (HG.1.ext F) (fun x hx=>(z.2.2.1 x hx).2) (fun x hx=>by have:=(z.2.2.1 x hx).1;omega) (by rw[<-z.out.1];exact aU.2.1) (by rw[<-z.out.1];exact bA));rw[<-a9]at bh;have bY:Hid (∀g,au wr g->g.cell? ⟨V,pi,none⟩=some (.slice p1 st.length c1)):=aa fun g h2=>((ay (F.trans h2)).1 V pi bX).trans bs
     clear cx bB bs bE bb bH a9 cg aW aV cy a8 ds;refine bh.mono ?_;rintro e U ⟨v9,rfl,bF,ck,ah⟩;obtain⟨p9,c9,dE,_,_⟩:=bF.form;subst dE;have bT:=aa (G.1.ext bD ah);have cP:Hid (∀j,wr.heap.size<=j->j≠Y/\o.ownBlock≠some j/\B<=j):=aa fun j D=>⟨fun q=>by have:=aS.out;have:=A.out;omega,fun q=>by have:=(G.1.own.block j q).2;omega,by have:=aS.out;omega⟩
     have cU:Hid (wV cS 3 fD (fun b=>B<=b) B Y 4 ((cL ⟨4,l.id,l.obj,[],[],0,0,[],0⟩ ag ag ag).set 4 o) o M (.slice p9 r.length c9) r U):=aa ⟨⟨bT,by have:=aS.out;have:=ah.size;omega⟩,aY.By bF fun j D _=>cP j (ck j D)⟩;have aT:=aa ah;have dO:Hid (B<=U.heap.size):=aa (by have:=aS.out;have:=ah.size;omega);have cB:=bT.cell;have cj:=bY U ah;have c4:Hid (∀g,Kq (fun k=>B<=k) U g->g.cell? ⟨Y,4,none⟩=some o/\g.cell? ⟨V,pi,none⟩=some (.slice p1 st.length c1)):=aa fun g W=>⟨W.cell (by have:=A.out;omega) cB,W.cell (by have:=A.out;have:=bX.out;omega) cj⟩
     have cK:Hid (∀g,Kq (fun k=>B<=k) U g->wV cS 3 fD (fun b=>B<=b) B Y 4 ((cL ⟨4,l.id,l.obj,[],[],0,0,[],0⟩ ag ag ag).set 4 o) o M (.slice p9 r.length c9) r g->CZ CO 45 #[.slice p1 st.length c1] g fun e w'=>∃v',e=.returned v'/\xE cS 3 fD (fun b=>B<=b) B Y 4 ((cL ⟨4,l.id,l.obj,[],[],0,0,[],0⟩ ag ag ag).set 4 o) o M (.slice p9 r.length c9) r st v' w'/\au g w'):=aa fun g W hp=>by have dB:=(db.kept (F':=fun _=>True) (w':=g) fun j D hl=>⟨trivial,(W.block j (by have:=F.size;have:=aT.size;omega) (by have:=A.out;omega)).trans ((F.trans aT).block j hl)⟩).BD;refine(eD _ st g dB (by have:=bj.1;omega)).mono ?_;rintro e w' ⟨v',rfl,ho,hE⟩;refine⟨v',rfl,⟨aY.By (aX.AS ho) fun j D _=> ?_,hp.ext bD hE⟩,hE⟩;have h1:=(ho.lt j D).1;have h2:=hp.1.1.box.lt;refine⟨by omega,fun q=> ?_,by have:=hp.1.2;omega⟩;have:=(hp.1.1.own.block j q).2;omega
     have Hm:Hid (M.length+1<=Dc/\(M.length+1)*56<=140737488355328):=aa (by
      have h1:=congrArg Ej G.2.1;unfold gY at h1;rw[CY,CY,Da]at h1;have:=aU.out;unfold Dc
      omega)
     clear bF ck ah bh bY cB cj bt
     go_wp2_with fail
     apply az (Kq (fun k=>B<=k)) (ew (wV cS 3 fD (fun b=>B<=b) B Y 4 ((cL ⟨4,l.id,l.obj,[],[],0,0,[],0⟩ ag ag ag).set 4 o) o M (.slice p9 r.length c9) r) [(7,55,xE cS 3 fD (fun b=>B<=b) B Y 4 ((cL ⟨4,l.id,l.obj,[],[],0,0,[],0⟩ ag ag ag).set 4 o) o M (.slice p9 r.length c9) r st),(9,57,A1 cS 3 fD (fun b=>B<=b) B Y 4 ((cL ⟨4,l.id,l.obj,[],[],0,0,[],0⟩ ag ag ag).set 4 o) o M (fun y=>cC y=((pi:Int),st,r))),(10,58,A2 cS 3 fD (fun b=>B<=b) B Y 4 ((cL ⟨4,l.id,l.obj,[],[],0,0,[],0⟩ ag ag ag).set 4 o) o M (fun y=>cC y=((pi:Int),st,r))),(11,59,A3 cS 3 fD (fun b=>B<=b) B Y 4 ((cL ⟨4,l.id,l.obj,[],[],0,0,[],0⟩ ag ag ag).set 4 o) o M (fun y=>cC y=((pi:Int),st,r)))]) 13 [48,49,50,51,52,53,54,55,56,57,58,59,60] [ar _,ar _,ar _,ar _,ar _,ar _,ar _,cR,ar _,cR,cR,cR,ar _] (fun w=>Kq.refl w) (fun a b c h k=>Kq.trans h k) (by kernel_rfl) (by kernel_rfl) (by kernel_rfl) (by kernel_rfl);case hsteps=>
      refine⟨?_,?_,?_,?_,?_,?_,?_,?_,?_,?_,?_,?_,?_,trivial⟩;all_goals
       intro d ev T C E t K J I f;replace t:=aa t;replace E:=aa E;replace K:=aa K;replace J:=aa J;have e5:=I 5 (by decide);have e7:=I 7 (by decide);have e9:=I 9 (by decide);have di:=I 10 (by decide);clear I;simp only[sB]at e5 e7 e9 di;simp only[sG]at f;have q3:=c4 _ C;have c1:=q3.1;have c2:=q3.2;clear q3;rw[if_pos (rfl:C8 _ _=true)];first
       | (have h1:=(E.2 (t 7 (by kernel_rfl))).1 J;obtain⟨pb,df,cc,_,_⟩:=h1.1.BD.form;(with_reducible refine lQ ?_ ?_ ?_ ?_ (vB (pi:Int) pb p9 st.length df r.length c9 T) ?_);exact fun w=>Kq.refl w;exact(by first | ((repeat(first | exact f | exact f.2 | replace f:=f.1));done) | ((repeat(first | exact f | exact f.1 | replace f:=f.2));first | done | fail));exact cc;exact(by first | ((repeat(first | exact f | exact f.2 | replace f:=f.1));done) | ((repeat(first | exact f | exact f.1 | replace f:=f.2));first | done | fail));exact⟨trivial,ew.s2 (xE.CG h1 cc bj.2.1 bj.2.2) (t 7 (by kernel_rfl)) (K 10 (by kernel_rfl)) rfl rfl⟩) | (have h2:=((E.2 (t 7 (by kernel_rfl))).2 (t 9 (by kernel_rfl))).1 J;(with_reducible refine dx (v:=ev 57) wD (by decide) ?_ h2.size ?_);rfl;exact⟨Kq.AI (ae _ _),trivial,ew.s3 (h2.a2 bD _) (t 7 (by kernel_rfl)) (t 9 (by kernel_rfl)) (K 11 (by kernel_rfl)) rfl rfl⟩) | (have h3:=(((E.2 (t 7 (by kernel_rfl))).2 (t 9 (by kernel_rfl))).2 (t 10 (by kernel_rfl))).1 J;(with_reducible refine oJ wD bD h3 ?_ ?_ Hm.out.1 Hm.out.2 ?_);rfl;exact(by first | ((repeat(first | exact f | exact f.2 | replace f:=f.1));done) | ((repeat(first | exact f | exact f.1 | replace f:=f.2));first | done | fail));exact fun v' w' k1 k2=>⟨k1,trivial,ew.s4 k2 (t 7 (by kernel_rfl)) (t 9 (by kernel_rfl)) (t 10 (by kernel_rfl)) trivial rfl rfl⟩)
       | (go_simp;first | exact⟨Kq.refl _,rfl,E.same rfl⟩ | (go_at_call 45;have h0:=E.1 J;(with_reducible refine(cK.out T C h0).mono ?_);rintro e g ⟨v',rfl,k1,k2⟩;exact⟨_,rfl,Kq.AI k2,trivial,ew.s1 k1 (K 9 (by kernel_rfl)) rfl⟩) | exact⟨CT _ _,rfl,HJ.same (by decide) E⟩)
     case hmono=>exact mR
     case hR0=>exact Kq.drew _
     case hend=>
      intro u T C hJ hend;simp only[sE]at hend;simp only[sF,hend];obtain⟨y,p7,de,hu,cw,a5,du,b7⟩:=(((hJ.2 rfl).2 rfl).2 rfl).2 rfl;have H:=aa b7;have cQ:=aa C;have c3:=aa cw;rw[hu]at H;simp only[hu];clear b7 C hend hJ hu cw
      go_wp2_with fail
      obtain⟨w8,bI⟩:=exq (T.setCell ⟨Y,4,none⟩ (.slice p7 (M.length+1) de));have cT:Hid (Kq (fun k=>k=Y\/B<=k) wr w8):=aa (by rw[bI];exact((Kq.AI aT).trans (cQ.mono fun j _ q=>.inr q)).setCell (Q:=fun k=>k=Y\/B<=k) ⟨Y,4,none⟩ (.inl rfl) _);rw[<-bI]at H⊢;clear bI a5 du;go_roundw;case rel=>exact⟨i+1,_,M++[y],by omega,by go_num,aa ⟨by have h:=H.out;rw[List.set_set]at h;exact h,by rw[D3,G.out.2.1,c7.out,List.map_cons,List.map_nil,c3.out],b3 cu⟩,aa (av.trans cT)⟩
      case measure=>simp[intOf];omega
     case hJ0=>exact ew.start (cU.ext bD (CT _ _).drew)
    ·have b0:=aa (vi (.slice (some ⟨V,0,none⟩) n aE) all p wr (a 1) (by have h:=aV.BF.ext F;rw[z.out.1];exact h) ((HG.2.1.ext F).cell 1 HG.2.2) (fun q=>cu (by rw[z.out.1];exact q.2.2)));have c5:=aa (cY i bv (by have h:=Hp.out;omega));clear bt a8 aW b3;refine b0.mono ?_;rintro e U ⟨rfl,aK⟩;have aT:=aa aK;have cE:=aa (bO.ext aK);have cG:=aa (bd.ext aK);have bS:Hid (au w U):=aa (F.trans aK);have c0:=aa (cE.load (P:=CO) C5 rfl (by kernel_rfl));clear aK b0
     go_wp2_with refine ao rfl c0 ?_
     refine(dK _ l 1 U (HL.ext bS)).mono ?_;rintro e w6 ⟨rfl,bo⟩;have cO:=aa bo;have bQ:=aa (cG.ext bo);clear bo;have c8:=aa (bQ.store (P:=CO) (cs':=cL (dh l 1) ag ag ag) rfl (bk ⟨_,_,_,rfl⟩ ⟨_,_,_,rfl⟩ ⟨_,_,_,rfl⟩) (ty:=26) (by kernel_rfl));have cI:=aa (bQ.set (cs':=cL (dh l 1) ag ag ag) rfl)
     go_wp2_with refine ak rfl rfl c8 ?_
     refine De (v:=.agg (cL (dh l 1) ag ag ag).toArray) (aB rfl rfl (cI.loadVar (P:=CO) C5 rfl (by kernel_rfl))) rfl ?_;rw[c5.out];exact⟨_,_,_,_,rfl,cn.nil _ _ _ _ _ _ _ _,aA _ _ _ _ (bS.trans cO) (by have:=ab.out;omega)⟩
   ·obtain rfl:i=k:=by omega
    have bW:Hid (l.places.take i=l.places):=aa (CX (by rw[<-z.out.2.1];exact CU _));obtain⟨pv,cv,dG⟩:=G.1.form;subst dG;have H:=aa G.1;have c6:Hid (M.map cC=gY all l.places):=aa (by have h:=G.2.1;rw[bW.out]at h;exact h);have cX:=aa (cW (by have h:=G.2.2;rw[bW.out]at h;exact h));have cZ:=aa (H.box.load (P:=CO) C5 rfl (by kernel_rfl));have da:=aa (bd.store (P:=CO) (cs':=(cL ⟨4,l.id,l.obj,[],[],0,0,[],0⟩ ag ag ag).set 4 (.slice pv M.length cv)) rfl (bk (l:=⟨4,l.id,l.obj,[],[],0,0,[],0⟩) (vp:=ag) (vs:=.slice pv M.length cv) (vb:=ag) ⟨_,_,_,rfl⟩ ⟨_,_,_,rfl⟩ ⟨_,_,_,rfl⟩) (ty:=26) (by kernel_rfl));have cJ:=aa (bd.set (cs':=(cL ⟨4,l.id,l.obj,[],[],0,0,[],0⟩ ag ag ag).set 4 (.slice pv M.length cv)) rfl);have bg:Hid (Kq (fun k=>k=O) wr (wr.setCells O 0 ((cL ⟨4,l.id,l.obj,[],[],0,0,[],0⟩ ag ag ag).set 4 (.slice pv M.length cv)))):=aa ((Kq.refl wr).setCells (Q:=fun k=>k=O) rfl 0 _);have dX:=bO.lt;clear G bv
    go_wp2_with first | refine ao rfl cZ ?_ | refine ak rfl rfl da ?_
    refine De (v:=.agg ((cL ⟨4,l.id,l.obj,[],[],0,0,[],0⟩ ag ag ag).set 4 (.slice pv M.length cv)).toArray) (aB rfl rfl (cJ.loadVar (P:=CO) C5 rfl (by kernel_rfl))) rfl ?_;rw[cX.out];refine⟨_,_,_,M,rfl,⟨aY.nil _,?_,fun x hx=> ?_,c6,[],aY.nil _,fun x hx=>(by cases hx),rfl⟩,?_⟩
    ·exact aY.By (bg.BD H.own.BD fun j D q=>by have:=(H.own.block j D).1;have:=A.out;omega) fun j D _=>by have:=(H.own.block j D).1;have:=A.out;omega
    ·exact bD _ _ _ _ _ (H.ok x hx) fun j D hl=>⟨by have:=D.2.2;have:=A.out;omega,bg.block j hl (fun q=>by have:=D.2.2;have:=A.out;omega)⟩
    ·exact F.trans' (N:=w.heap.size) (bg.mono fun j _ q=>by have:=ab.out;omega) (CU _)
 case hJ0=>trivial
structure JF (bs:List (List Int)) (i o f:Int) (B q:Nat) (d:Nat->Bool) (u:Nat->CQ) (w:CP):Prop where
 le:B<=w.heap.size
 a:d 11=true->∃(g:Nat) (M:List Bv),u 51=.slice (some ⟨g,0,none⟩) q q/\B<=g/\Pk w g 1 (u 51) M.length (aD cB M)/\(∀y∈M,ju (fun k=>g < k/\∀D,d 13=true->u 8=.pointer (some ⟨D,0,none⟩)->k≠D) w y)/\M.map (·.2)=bs/\g < w.heap.size/\∀D,d 13=true->u 8=.pointer (some ⟨D,0,none⟩)->g≠D
 al:d 13=true->∃D,u 8=.pointer (some ⟨D,0,none⟩)/\aw w D zL.toList/\B<=D
 bd:d 12=true->d 11=true/\u 52=.agg #[.int .i64 6,.int .i64 i,.int .i64 o,ag,ag,.int .i64 f,.int .i64 0,u 51,.int .i64 0]
section
variable {bs:List (List Int)} {i o f:Int} {B q:Nat} {d:Nat->Bool} {u:Nat->CQ} {w w':CP}
theorem JF.start (h:B<=w.heap.size):JF bs i o f B q (fun _=>false) u w:=⟨h,fun q=>(by cases q),fun q=>(by cases q),fun q=>(by cases q)⟩
theorem JF.same {j t:Nat} {v:CQ} (h:JF bs i o f B q d u w) (k:(decide (j=11)||decide (j=12)||decide (j=13)||decide (t=51)||decide (t=52)||decide (t=8))=false):JF bs i o f B q (bW d j) (bH (some t) u v) w:=by
 simp only[Bool.or_eq_false_iff,decide_eq_false_iff_not]at k;obtain⟨⟨⟨⟨⟨h1,h2⟩,m⟩,n⟩,p⟩,r⟩:=k;have b:bW d j 11=d 11:=if_neg (fun e=>h1 e.symm);have a2:bW d j 12=d 12:=if_neg (fun e=>h2 e.symm);have a3:bW d j 13=d 13:=if_neg (fun e=>m e.symm);have c:bH (some t) u v 51=u 51:=if_neg (fun e=>n e.symm);have l:bH (some t) u v 52=u 52:=if_neg (fun e=>p e.symm);have g:bH (some t) u v 8=u 8:=if_neg (fun e=>r e.symm);exact⟨h.le,by rw[b,a3,c,g];exact h.a,by rw[a3,g];exact h.al,by rw[a2,b,l,c];exact h.bd⟩
theorem JF.call {M:List Bv} {v:CQ} (h:JF bs i o f B q d u w) (m:d 12=false) (l:v=.slice (some ⟨w.heap.size,0,none⟩) q q) (hp:Pk w' w.heap.size 1 v M.length (aD cB M)) (p:∀y∈M,ju (fun k=>w.heap.size < k) w' y) (hm:M.map (·.2)=bs) (j:au w w'):JF bs i o f B q (bW d 11) (bH (some 51) u v) w':=by
 have g:∀D,d 13=true->u 8=.pointer (some ⟨D,0,none⟩)->D < w.heap.size:=fun D h1 h2=>by obtain⟨s,a,c,_⟩:=h.al h1;rw[h2]at a;injection a with a;injection a with a;injection a with a;subst a;exact c.lt
 refine⟨Dk h.le j.size,fun _=>⟨w.heap.size,M,l,h.le,hp,fun y hy=>bQ _ _ _ _ _ (p y hy) fun b n _=>⟨⟨n,fun D h1 h2 e=>by have:=g D h1 h2;omega⟩,rfl⟩,hm,(hp.block _ (by rw[l];rfl)).2,fun D h1 h2 e=>by have:=g D h1 h2;omega⟩,fun h1=> ?_,fun h1=> ?_⟩
 ·obtain⟨D,a,c,r⟩:=h.al h1;exact⟨D,a,c.ext j,r⟩
 ·have h1:d 12=true:=h1;rw[m]at h1;cases h1
theorem JF.BS {v:CQ} (h:JF bs i o f B q d u w) (b:d 11=true) (c:v=.agg #[.int .i64 6,.int .i64 i,.int .i64 o,ag,ag,.int .i64 f,.int .i64 0,u 51,.int .i64 0]):JF bs i o f B q (bW d 12) (bH (some 52) u v) w:=
 ⟨h.le,h.a,h.al,fun _=>⟨b,c⟩⟩
theorem JF.make (h:JF bs i o f B q d u w) (e:TypeId):JF bs i o f B q (bW d 13) (bH (some 8) u (.pointer (some ⟨w.heap.size,0,none⟩))) (w.alloc (.cells zL e)):=by
 have c:=ae w (.cells zL e);refine⟨Dk h.le c.size,fun h1=> ?_,fun _=>⟨w.heap.size,rfl,aw.box (cs:=zL.toList) w e (fun q=>by cases q),h.le⟩,h.bd⟩;obtain⟨g,M,l,m,n,p,r,s,_⟩:=h.a h1;refine⟨g,M,l,m,n.ext c,fun y hy=>bQ _ _ _ _ _ (p y hy) fun b j k=>⟨⟨j.1,fun D _ h2 e=> ?_⟩,c.block b k⟩,r,Dd s c.size,fun D _ h2 e=> ?_⟩
 ·have h2:(Value.pointer (some ⟨w.heap.size,0,none⟩))=.pointer (some ⟨D,0,none⟩):=h2;injection h2 with h2;injection h2 with h2;injection h2 with h2;omega
 ·have h2:(Value.pointer (some ⟨w.heap.size,0,none⟩))=.pointer (some ⟨D,0,none⟩):=h2;injection h2 with h2;injection h2 with h2;injection h2 with h2;omega
end
theorem s6 (i o f:Int) (c:Option Addr) (b a:Nat) (w:CP):(FL 26 #[(0,.int .i64 6),(1,.int .i64 i),(2,.int .i64 o),(5,.int .i64 f),(7,.slice c b a)]).run CO w=.ok (.agg #[.int .i64 6,.int .i64 i,.int .i64 o,.slice none 0 0,.slice none 0 0,.int .i64 f,.int .i64 0,.slice c b a,.int .i64 0]) w:=run_build w _ _ _ (by kernel_rfl)
theorem s9 (b:Nat) (N Q:Nat->Prop) (s:bL) (v:CQ) (l:BC) (w:CP) (S:List Nat) (a:Nat->Addr) (hS:gx N Q w b s) (ai:cH s) (X:eg w v l) (o:aR l=0) (hk:l.kind=5) (he:ix S a w) (s1:1∈S) (s3:3∈S) (s4:4∈S) (s7:7∈S) (s8:8∈S) (F:bn s l.obj=none):
  CZ CO 39 #[.pointer (some ⟨b,0,none⟩),v] w fun e w'=>za w (fe s l) e w':=by
 have HL:=aa X;obtain⟨aT,vp,vs,vb,L,rfl,ab⟩:=X;obtain rfl:=ab.eq;obtain⟨m,sb,mp,D⟩:=hS;have ac:=D.none F;have ax:Hid (fe s l=dh l 11):=aa (by unfold fe;rw[F];rfl);obtain⟨j,g⟩:=exq ((w.alloc (.cells (cL l vp vs vb).toArray 26)).alloc (.cells zL 26));have A:au w j:=by rw[g];exact(ae _ _).trans (ae _ _)
 have aj:j.heap.size=w.heap.size+1+1:=by rw[g,C4,C4]
 have y:aw j w.heap.size (cL l vp vs vb):=by rw[g];exact(aw.box w 26 (bR _ _ _ _)).ext (ae _ _)
 have z:aw j (w.heap.size+1) zL.toList:=by rw[g];exact fQ w _ zL.toList _ _ (fun h=>by cases h)
 obtain⟨V,hR0⟩:=exq (w.heap.size+1);obtain⟨P0,C⟩:=exq w.heap.size;rw[<-hR0]at z;rw[<-C]at y;have an:=aa A;have p:=aa y;have K:=aa z;have q:Hid (P0=w.heap.size/\V=w.heap.size+1/\j.heap.size=w.heap.size+1+1):=aa ⟨C,hR0,aj⟩;have r:=D.ext A;have Y:=r.bx.cell (i:=0) (v:=.map (some m)) rfl;have Z:=r.bx.lt;have H:=p.cell (i:=2) (v:=.int .i64 l.obj) rfl;have al:=p.lt;have x:Hid (∀n,au j n->(ER 84 (.map (some m)) (.int .i64 l.obj) true).run CO n=.ok (.tuple #[.slice none 0 0,.bool false]) n):=aa fun n h2=>by
  have hz:(FT 22).run CO n=.ok (.slice none 0 0) n:=by first | rfl | kernel_rfl | (simp[go_sem];done)
  have h:=(r.mt.ext h2).lookup (P:=CO) D7 DP hz l.obj;rw[ac]at h;exact h
 have HG:=aa (Dj he (Dj s1 (Dj s3 (Dj s4 (Dj s7 s8)))));obtain⟨oj,ah⟩:=exq l.obj;rw[<-ah]at x H;unfold cL at g;have aI:=Dj ai (Dj o hk);clear aI ai ab D ac o hk he F A y z r aj hR0 C ah;show CZ CO 39 #[.pointer (some ⟨b,0,none⟩),.agg #[.int .i64 l.kind,.int .i64 l.id,.int .i64 l.obj,vp,vs,.int .i64 l.BE,.int .i64 l.BG,vb,.int .i64 l.code]] w _;go_enter Tryz.func39,Tryz.ntmps39
 go_wp2_with fail
 rw[<-g];rw[show w.heap.size+1=V from q.out.2.1.symm,show w.heap.size=P0 from q.out.1.symm];clear g;apply az (au) (fun _ _ _=>True) 12 [10,11,12,13,14,15,16,9,17,18,5,6] [ar _,ar _,ar _,ar _,ar _,ar _,ar _,ar _,ar _,ar _,ar _,ar _] (fun w=>CT _ w) (fun a b c h k=>au.trans h k) (by kernel_rfl) (by kernel_rfl) (by kernel_rfl) (by kernel_rfl);case hsteps=>
  refine⟨?_,?_,?_,?_,?_,?_,?_,?_,?_,?_,?_,?_,trivial⟩;all_goals
   intro d ev I f R T U af G hd;replace T:=aa T;replace R:=aa R;replace U:=aa U;replace af:=aa af;have e0:=G 0 (by decide);have e3:=G 3 (by decide);clear G;simp only[sB]at e0 e3;simp only[sG]at hd;have o:=(ay f).1;have c0:=(o _ 0 Z).trans Y;have c2:=(o _ 2 al).trans H;have lk:=x _ f;simp only[C8,if_true];go_simp;first | exact⟨CT _ _,rfl,trivial⟩ | exact⟨CT _ _,rfl⟩ | exact CT _ _
 case hmono=>exact mR
 case hR0=>exact(CT _ _).drew
 case hend=>
  intro u I f hJ hend;simp only[sE]at hend;simp only[sF,hend];have t:Hid (au w I):=aa (an.trans f);have J:=aa (p.ext f);have M:=aa (K.ext f);obtain⟨W,E⟩:=exq I;rw[<-E]at t J M⊢;have aP:Hid (w.heap.size+2<=W.heap.size):=aa (by rw[E];have:=f.size;have:=q.out;omega);clear f hend hJ Y Z H al p K x E;have av:=aa (J.load (P:=CO) C5 rfl (by kernel_rfl))
  go_wp2_with refine ao rfl av ?_
  refine(dK _ l 11 W (HL.ext t)).mono ?_;rintro e w9 ⟨rfl,B⟩;have ap:=aa B;have O:=aa (M.ext B);clear B;have aC:=aa (O.store (P:=CO) (cs':=cL (dh l 11) ag ag ag) rfl (bk ⟨_,_,_,rfl⟩ ⟨_,_,_,rfl⟩ ⟨_,_,_,rfl⟩) (ty:=26) (by kernel_rfl));have am:=aa (O.set (cs':=cL (dh l 11) ag ag ag) rfl)
  go_wp2_with refine ak rfl rfl aC ?_
  refine De (v:=.agg (cL (dh l 11) ag ag ag).toArray) (aB rfl rfl (am.loadVar (P:=CO) C5 rfl (by kernel_rfl))) rfl ?_;rw[ax.out];exact⟨_,_,_,_,rfl,cn.nil _ _ _ _ _ _ _ _,aA _ _ _ _ (t.trans ap) (by have:=q.out;omega)⟩
 case hJ0=>trivial
theorem td (b:Nat) (N Q:Nat->Prop) (s:bL) (v:CQ) (l:BC) (w:CP) (S:List Nat) (a:Nat->Addr) (hS:gx N Q w b s) (ce:cH s) (hL:eg w v l) (hc:aR l=0) (O:l.kind=5) (he:ix S a w) (s1:1∈S) (s3:3∈S) (s4:4∈S) (s7:7∈S) (s8:8∈S) (all:List (List Int)) (ha:bn s l.obj=some all):
  CZ CO 39 #[.pointer (some ⟨b,0,none⟩),v] w fun e w'=>za w (fe s l) e w':=by
 have HL:=aa hL;obtain⟨c4,vp,vs,vb,L,rfl,b1⟩:=hL;obtain rfl:=b1.eq;obtain⟨m,sb,mp,hR⟩:=hS;obtain⟨v0,b7,bt⟩:=hR.some ha;obtain⟨ca,cb,cc⟩:=ce.get ha;obtain⟨⟨cJ,cK⟩,b8,cM⟩:=uV hc O;obtain⟨bl,U,_,_,cN,b9,cI,bY,_,_⟩:=bt.el (i:=0) (by omega);subst cN;obtain⟨n,W⟩:=exq all.length;have ab:=aa (Dj W cc);have cy:=aa bt.BF;have cW:=aa bY;have cv:Hid ((n:Int)<=l.BE->fe s l=dh l 1):=aa fun q=>by unfold fe;rw[ha];simp only;rw[if_pos (by rw[<-W];exact q)];rfl
 have cu:Hid (¬(n:Int)<=l.BE->aR (ki l all)=0->fe s l=ki l all):=aa fun q q2=>by unfold fe;rw[ha];simp only;rw[if_neg (by rw[<-W];exact q),if_pos q2]
 have cw:Hid (¬(n:Int)<=l.BE->¬aR (ki l all)=0->fe s l=dh l 3):=aa fun q q2=>by unfold fe;rw[ha];simp only;rw[if_neg (by rw[<-W];exact q),if_neg q2];rfl
 rw[<-W]at b9 ca cb;have Hn:Hid (1<=n/\n<=512/\n<=U/\U<=Dc):=aa (by omega);obtain⟨W1,V⟩:=exq ((w.alloc (.cells (cL l vp vs vb).toArray 26)).alloc (.cells zL 26));have bi:au w W1:=by rw[V];exact(ae _ _).trans (ae _ _)
 have ci:W1.heap.size=w.heap.size+1+1:=by rw[V,C4,C4]
 have bg:aw W1 w.heap.size (cL l vp vs vb):=by rw[V];exact(aw.box w 26 (bR _ _ _ _)).ext (ae _ _)
 have bh:aw W1 (w.heap.size+1) zL.toList:=by rw[V];exact fQ w _ zL.toList _ _ (fun h=>by cases h)
 obtain⟨R0,hR0⟩:=exq (w.heap.size+1);obtain⟨P0,bj⟩:=exq w.heap.size;rw[<-hR0]at bh;rw[<-bj]at bg;have cr:=aa bi;have aP:=aa bg;have bD:=aa bh;have I:Hid (P0=w.heap.size/\R0=w.heap.size+1/\W1.heap.size=w.heap.size+1+1):=aa ⟨bj,hR0,ci⟩;have aT:=hR.ext bi;have bW:=aT.bx.cell (i:=0) (v:=.map (some m)) rfl;have bZ:=aT.bx.lt;have aq:=aP.cell (i:=2) (v:=.int .i64 l.obj) rfl;have bw:=aP.lt;have ba:Hid (∀o,au W1 o->(ER 84 (.map (some m)) (.int .i64 l.obj) true).run CO o=.ok (.tuple #[.slice (some ⟨bl,0,none⟩) n U,.bool true]) o):=aa fun o h2=>by
  have hz:(FT 22).run CO o=.ok (.slice none 0 0) o:=by first | rfl | kernel_rfl | (simp[go_sem];done)
  have h:=(aT.mt.ext h2).lookup (P:=CO) D7 DP hz l.obj;rw[b7,<-W]at h;exact h
 have Z:=aa (Dj he (Dj s1 (Dj s3 (Dj s4 (Dj s7 s8)))));obtain⟨oj,cd⟩:=exq l.obj;rw[<-cd]at ba aq;unfold cL at V;clear b1 hR b7 ce hc O he ha bi bg bh aT ci hR0 bj cd bt ca cb cc bY W b9 cI;show CZ CO 39 #[.pointer (some ⟨b,0,none⟩),.agg #[.int .i64 l.kind,.int .i64 l.id,.int .i64 l.obj,vp,vs,.int .i64 l.BE,.int .i64 l.BG,vb,.int .i64 l.code]] w _;go_enter Tryz.func39,Tryz.ntmps39
 go_wp2_with fail
 rw[<-V];rw[show w.heap.size+1=R0 from I.out.2.1.symm,show w.heap.size=P0 from I.out.1.symm];clear V;apply az (au) (fun _ _ _=>True) 12 [10,11,12,13,14,15,16,9,17,18,5,6] [ar _,ar _,ar _,ar _,ar _,ar _,ar _,ar _,ar _,ar _,ar _,ar _] (fun w=>CT _ w) (fun a b c h k=>au.trans h k) (by kernel_rfl) (by kernel_rfl) (by kernel_rfl) (by kernel_rfl);case hsteps=>
  refine⟨?_,?_,?_,?_,?_,?_,?_,?_,?_,?_,?_,?_,trivial⟩;all_goals
   intro d ev A t E T ad aN K g;replace T:=aa T;replace E:=aa E;replace ad:=aa ad;replace aN:=aa aN;have e0:=K 0 (by decide);have e3:=K 3 (by decide);clear K;simp only[sB]at e0 e3;simp only[sG]at g;have hc:=(ay t).1;have c0:=(hc _ 0 bZ).trans bW;have c2:=(hc _ 2 bw).trans aq;have lk:=ba _ t;simp only[C8,if_true];go_simp;first | exact⟨CT _ _,rfl,trivial⟩ | exact⟨CT _ _,rfl⟩ | exact CT _ _
 case hmono=>exact mR
 case hR0=>exact(CT _ _).drew
 case hend=>
  intro u A t hJ hend;simp only[sE]at hend;simp only[sF,hend];have aF:Hid (au w A):=aa (cr.trans t);have H:=aa (aP.ext t);have aQ:=aa (bD.ext t);obtain⟨J,bo⟩:=exq A;rw[<-bo]at aF H aQ⊢;have aG:Hid (w.heap.size+2<=J.heap.size):=aa (by rw[bo];have:=t.size;have:=I.out;omega);clear t hend hJ bW bZ aq bw aP bD ba bo;have bv:=H.cell (i:=5) (v:=.int .i64 l.BE) rfl;have cm:=H.cell (i:=6) (v:=.int .i64 l.BG) rfl;by_cases b5:(n:Int)<=l.BE
  ·have bc:=aa (cv b5);have bb:=aa (H.load (P:=CO) C5 rfl (by kernel_rfl))
   go_wp2_with refine ao rfl bb ?_
   refine(dK _ l 1 J (HL.ext aF)).mono ?_;rintro e Y ⟨rfl,z⟩;have a5:=aa z;have bG:=aa (aQ.ext z);clear z;have aJ:=aa (bG.store (P:=CO) (cs':=cL (dh l 1) ag ag ag) rfl (bk ⟨_,_,_,rfl⟩ ⟨_,_,_,rfl⟩ ⟨_,_,_,rfl⟩) (ty:=26) (by kernel_rfl));have aE:=aa (bG.set (cs':=cL (dh l 1) ag ag ag) rfl)
   go_wp2_with refine ak rfl rfl aJ ?_
   refine De (v:=.agg (cL (dh l 1) ag ag ag).toArray) (aB rfl rfl (aE.loadVar (P:=CO) C5 rfl (by kernel_rfl))) rfl ?_;rw[bc.out];exact⟨_,_,_,_,rfl,cn.nil _ _ _ _ _ _ _ _,aA _ _ _ _ (aF.trans a5) (by have:=I.out;omega)⟩
  ·obtain⟨f,hf⟩:=DK b8;obtain⟨ct,bq⟩:=DK (show 0<=l.BG by omega);have a7:=aa (cu (by omega));have a9:=aa (cw (by omega));obtain⟨p,aK⟩:=exq ((all.drop f).take ct);have ap:ki l all=⟨6,l.id,l.obj,[],[],f,0,p,0⟩:=by unfold ki;rw[aK,hf,bq,Dy,Dy]
   rw[ap]at a7 a9;obtain⟨B,b2⟩:∃B:Nat,B=min (f+ct) n:=⟨_,rfl⟩;have db:min ((f:Int)+(ct:Int)) (n:Int)=(B:Int):=by omega
   have bs:f < n:=by omega
   have hq:p.length=B - f:=by rw[aK,Da,C6,<-ab.out.1];omega
   have b4:f < B:=by omega
   have ch:aU w (.slice (some ⟨bl,f,none⟩) (B - f) (U - f)) p:=by
    have h1:=aU.drop cy f (by rw[<-ab.out.1];exact bs);have h2:=aU.take h1 (B - f) (by rw[C6,<-ab.out.1];omega);rw[Dq]at h2;have e:(all.drop f).take (B - f)=p:=by
     rw[aK,b2];by_cases q:f+ct<=n
     ·rw[Nat.min_eq_left q,show f+ct - f=ct by omega]
     ·rw[Nat.min_eq_right (by omega),CX (by rw[C6,<-ab.out.1];omega),CX (by rw[C6,<-ab.out.1];omega)]
    rw[e]at h2;exact h2
   have b0:∀x∈p,x.length=16/\bI x:=fun x hx=>ab.2 x (List.mem_of_mem_drop (List.mem_of_mem_take (by rw[aK]at hx;exact hx)))
   have ac:=aa (Dj hq (Dj ch b0));rw[hf]at bv b5 b8 cM;rw[bq]at cm cJ cK;have cl:=H.cell (i:=1) (v:=.int .i64 l.id) rfl;have aq:=H.cell (i:=2) (v:=.int .i64 l.obj) rfl;have bw:=H.lt;have c9:¬(n:Int)<=(f:Int):=by omega
   have c8:(f:Int)<=(B:Int):=by omega
   have c7:(B:Int)<=(U:Int):=by have:=Hn.out;omega
   have cG:=Hn.2.2.2;have c6:¬(U=f):=by have:=Hn.out;omega
   have dc:=Hn.2.1;have bA:Hid (∀o,Kq (fun _=>False) J o->CZ CO 48 #[.slice (some ⟨bl,f,none⟩) (B - f) (U - f)] o fun e w'=>y9 p o e w'):=aa fun o O=>gU _ p o (ac.2.1.ext (aF.trans (O.ext fun _ q=>q.elim))) (fun x hx=>(ac.2.2 x hx).2) (by rw[ac.out.1];have:=Hn.out;omega) (fun x hx=>by have:=(ac.2.2 x hx).1;omega)
   have bN:Hid (∀o,Kq (fun _=>False) J o->o.cell? ⟨P0,1,none⟩=some (.int .i64 l.id)/\o.cell? ⟨P0,2,none⟩=some (.int .i64 l.obj)/\o.cell? ⟨P0,5,none⟩=some (.int .i64 f)):=aa fun o O=>⟨O.cell (fun q=>q) cl,O.cell (fun q=>q) aq,O.cell (fun q=>q) bv⟩
   have cV:Hid (f < B/\f < n):=aa ⟨b4,bs⟩;obtain⟨q,cg⟩:=exq (B - f);have bO:=aa cg;unfold Dc at cG;clear aK ap b2 bs hq ch b0 b4 hf bq cg cl aq
   go_wp2_with fail
   clear bv cm;apply az (Kq (fun _=>False)) (JF p l.id l.obj (f:Int) J.heap.size q) 14 [40,41,42,43,44,45,46,47,48,49,50,51,52,8] [ar _,ar _,ar _,ar _,ar _,ar _,ar _,ar _,ar _,ar _,ar _,cR,cR,cR] (fun w=>Kq.refl w) (fun a b c h k=>Kq.trans h k) (by kernel_rfl) (by kernel_rfl) (by kernel_rfl) (by kernel_rfl);case hsteps=>
    refine⟨?_,?_,?_,?_,?_,?_,?_,?_,?_,?_,?_,?_,?_,?_,trivial⟩;all_goals
     intro d ev A t E T ad aN K g;replace T:=aa T;replace E:=aa E;replace ad:=aa ad;replace aN:=aa aN;have e3:=K 3 (by decide);have e5:=K 5 (by decide);have e7:=K 7 (by decide);clear K;simp only[sB]at e3 e5 e7;simp only[sG]at g;have q3:=bN _ t;have c1:=q3.1;have c2:=q3.2.1;have c5:=q3.2.2;clear q3;rw[if_pos (rfl:C8 _ _=true)];first
     | (have h1:=E.a (T 11 (by kernel_rfl));obtain⟨g9,M9,bX,_⟩:=h1;(with_reducible refine jo ?_ ?_ ?_ ?_ ?_ (s6 l.id l.obj (f:Int) (some ⟨g9,0,none⟩) q q A) ?_);exact fun w=>Kq.refl w;exact(by first | ((repeat(first | exact g | exact g.2 | replace g:=g.1));done) | ((repeat(first | exact g | exact g.1 | replace g:=g.2));first | done | fail));exact(by first | ((repeat(first | exact g | exact g.2 | replace g:=g.1));done) | ((repeat(first | exact g | exact g.1 | replace g:=g.2));first | done | fail));exact(by first | ((repeat(first | exact g | exact g.2 | replace g:=g.1));done) | ((repeat(first | exact g | exact g.1 | replace g:=g.2));first | done | fail));exact bX;exact⟨trivial,E.BS (T 11 (by kernel_rfl)) (by rw[bX])⟩)
     | (go_simp;first | exact⟨Kq.refl _,rfl,E.same (by decide)⟩ | (go_at_call 48;(with_reducible refine(bA.out A t).mono ?_);rintro e o ⟨M,rfl,k1,k2,k3,k4⟩;exact⟨_,rfl,Kq.AI k4,trivial,E.call (ad 12 (by kernel_rfl)) (by rw[ac.out.1,bO.out]) k1 k2 k3 k4⟩) | exact⟨Kq.AI (ae _ _),trivial,E.make _⟩ | exact⟨CT _ _,rfl,HJ.same (by decide) E⟩)
   case hmono=>exact mR
   case hR0=>exact Kq.drew _
   case hend=>
    intro u A t hJ hend;simp only[sE]at hend;simp only[sF,hend];obtain⟨D,aV,bT,hD⟩:=hJ.al rfl;obtain⟨_,bu⟩:=hJ.bd rfl;obtain⟨g9,M,cj,b6,k1,k2,k3,k4,k5⟩:=hJ.a rfl;rw[cj]at bu k1;have bJ:Hid (au w A):=aa (aF.trans (t.ext fun _ q=>q.elim));have bB:=aa (H.ext (t.ext fun _ q=>q.elim));have bE:=aa (aQ.ext (t.ext fun _ q=>q.elim));have F:Hid (Pk A g9 1 (.slice (some ⟨g9,0,none⟩) q q) M.length (aD cB M)/\(∀y∈M,ju (fun k=>g9 < k/\k≠D) A y)/\M.map (·.2)=p/\g9≠D/\J.heap.size<=g9/\J.heap.size<=D):=aa ⟨k1,fun y hy=>bQ _ _ _ _ _ (k2 y hy) fun j C _=>⟨⟨C.1,C.2 D rfl aV⟩,rfl⟩,k3,k5 D rfl aV,b6,hD⟩;have a2:=aa bT;simp only[aV,bu];clear t hend hJ aV cj bu bT hD b6 k1 k2 k3 k4 k5 bA bN H aQ;have bP:=aa (a2.store (P:=CO) (cs':=cL ⟨6,l.id,l.obj,[],[],f,0,p,0⟩ ag ag (.slice (some ⟨g9,0,none⟩) q q)) rfl (bk ⟨_,_,_,rfl⟩ ⟨_,_,_,rfl⟩ ⟨_,_,_,rfl⟩) (ty:=26) (by kernel_rfl));have av:=aa (a2.set (cs':=cL ⟨6,l.id,l.obj,[],[],f,0,p,0⟩ ag ag (.slice (some ⟨g9,0,none⟩) q q)) rfl);have R:Hid (Kq (fun k=>k=D) A (A.setCells D 0 (cL ⟨6,l.id,l.obj,[],[],f,0,p,0⟩ ag ag (.slice (some ⟨g9,0,none⟩) q q)))):=aa ((Kq.refl A).setCells (Q:=fun k=>k=D) rfl 0 _)
    go_wp2_with (with_reducible refine aC (ty:=26) ?_)
    refine ax ?_;refine ak rfl rfl bP ?_;obtain⟨w8,ck⟩:=exq (A.setCells D 0 (cL ⟨6,l.id,l.obj,[],[],f,0,p,0⟩ ag ag (.slice (some ⟨g9,0,none⟩) q q)));rw[<-ck]at av R⊢;have hX:∀X,X < J.heap.size->X≠D:=fun X h1 q=>by have:=F.2.2.2.2.2;omega
    have a4:Hid (au w w8):=aa (bJ.trans' (N:=w.heap.size) (R.mono fun j _ q=>by have:=F.2.2.2.2.2;have:=aG.out;omega) (CU _));have bC:=aa (R.box (hX P0 (by have:=I.out;have:=aG.out;omega)) bB);have bF:=aa (R.box (hX R0 (by have:=I.out;have:=aG.out;omega)) bE)
    have aS:Hid (cn (fun k=>w.heap.size+2<=k) w8 ⟨6,l.id,l.obj,[],[],f,0,p,0⟩ ag ag (.slice (some ⟨g9,0,none⟩) q q) []):=aa ⟨aY.nil _,aY.nil _,fun x hx=>(by cases hx),rfl,M,by
     have h:=F.1.BD;refine aY.By (R.BD ?_ fun j C r=> ?_) fun j C _=> ?_
     ·have e:M.length=q:=by have h1:=congrArg Ej F.2.2.1;rw[CY,ac.out.1,<-bO.out]at h1;exact h1
      rw[e]at h⊢;exact h
     ·have e:g9=j:=Ei C;exact F.2.2.2.1 (e.trans r)
     ·have e:g9=j:=Ei C
      have:=F.2.2.2.2.1;have:=aG.out;omega,fun y hy=>bQ _ _ _ _ _ (F.2.1 y hy) fun j C hl=>⟨by have:=F.2.2.2.2.1;have:=aG.out;have:=C.1;omega,R.block j hl C.2⟩,F.2.2.1⟩
    have a8:Hid (eg w8 (.agg (cL ⟨6,l.id,l.obj,[],[],f,0,p,0⟩ ag ag (.slice (some ⟨g9,0,none⟩) q q)).toArray) ⟨6,l.id,l.obj,[],[],f,0,p,0⟩):=aa ⟨_,_,_,_,_,rfl,aS.BH⟩;have aH:=aa (av.load (P:=CO) C5 rfl (by kernel_rfl));clear hX ck bP R bB bE bJ a2 F;obtain⟨G,ap⟩:∃G:BC,G=⟨6,l.id,l.obj,[],[],f,0,p,0⟩:=⟨_,rfl⟩;rw[<-ap]at aS a8 aH av a7 a9;have cU:=aa ap;clear ap
    go_wp2_with refine ao rfl aH ?_
    refine(fB _ G w8 S a a8 (Z.1.ext a4) Z.2.1 Z.2.2.1 Z.2.2.2.1 Z.2.2.2.2.1 Z.2.2.2.2.2).mono ?_;rintro e Y ⟨rfl,z⟩;have a6:Hid (au w Y):=aa (a4.trans z);have cq:=aa (bC.ext z);have a3:=aa (bF.ext z);have cp:=aa (av.ext z);have cs:Hid (cn (fun k=>w.heap.size+2<=k) Y G ag ag (.slice (some ⟨g9,0,none⟩) q q) []):=aa (aS.kept fun j C hl=>⟨C,z.block j hl⟩);clear z aH bC bF av aS a8 a4;by_cases an:aR G=0
    ·have Hr:=aa (a7 an);rw[an,ef];have aH:=aa (cp.load (P:=CO) C5 rfl (by kernel_rfl));have aJ:=aa (a3.store (P:=CO) (cs':=cL G ag ag (.slice (some ⟨g9,0,none⟩) q q)) rfl (bk ⟨_,_,_,rfl⟩ ⟨_,_,_,rfl⟩ ⟨_,_,_,rfl⟩) (ty:=26) (by kernel_rfl));have aE:=aa (a3.set (cs':=cL G ag ag (.slice (some ⟨g9,0,none⟩) q q)) rfl);have bK:Hid (Kq (fun k=>k=R0) Y (Y.setCells R0 0 (cL G ag ag (.slice (some ⟨g9,0,none⟩) q q)))):=aa ((Kq.refl Y).setCells (Q:=fun k=>k=R0) rfl 0 _);clear an
     go_wp2_with first | refine ao rfl aH ?_ | refine ak rfl rfl aJ ?_
     refine De (v:=.agg (cL G ag ag (.slice (some ⟨g9,0,none⟩) q q)).toArray) (aB rfl rfl (aE.loadVar (P:=CO) C5 rfl (by kernel_rfl))) rfl ?_;rw[Hr.out];exact⟨_,_,_,_,rfl,cs.kept fun j C hl=>⟨by omega,bK.block j hl (fun r=>by have:=I.out;omega)⟩,a6.trans' (N:=w.heap.size) (bK.mono fun j _ r=>by have:=I.out;omega) (CU _)⟩
    ·have bc:=aa (a9 an);obtain⟨er,b3⟩:∃er,nY a (aR G)=.iface 233 (.pointer (some er)):=⟨_,da a _ an⟩;rw[b3];clear an b3;have bb:=aa (cq.load (P:=CO) C5 rfl (by kernel_rfl))
     go_wp2_with refine ao rfl bb ?_
     refine(dK _ l 3 Y (HL.ext a6)).mono ?_;rintro e wa ⟨rfl,z⟩;have a5:=aa z;have bH:=aa (a3.ext z);clear z;have aJ:=aa (bH.store (P:=CO) (cs':=cL (dh l 3) ag ag ag) rfl (bk ⟨_,_,_,rfl⟩ ⟨_,_,_,rfl⟩ ⟨_,_,_,rfl⟩) (ty:=26) (by kernel_rfl));have aE:=aa (bH.set (cs':=cL (dh l 3) ag ag ag) rfl)
     go_wp2_with refine ak rfl rfl aJ ?_
     refine De (v:=.agg (cL (dh l 3) ag ag ag).toArray) (aB rfl rfl (aE.loadVar (P:=CO) C5 rfl (by kernel_rfl))) rfl ?_;rw[bc.out];exact⟨_,_,_,_,rfl,cn.nil _ _ _ _ _ _ _ _,aA _ _ _ _ (a6.trans a5) (by have:=I.out;omega)⟩
   case hJ0=>exact JF.start (Kq.drew (Q:=fun _=>False) J).size
 case hJ0=>trivial
theorem vC (b:Nat) (N Q:Nat->Prop) (s:bL) (v:CQ) (l:BC) (w:CP) (S:List Nat) (a:Nat->Addr) (d:gx N Q w b s) (h:cH s) (c:eg w v l) (f:aR l=0) (g:l.kind=5) (he:ix S a w) (s1:1∈S) (i:3∈S) (j:4∈S) (k:7∈S) (m:8∈S):
  CZ CO 39 #[.pointer (some ⟨b,0,none⟩),v] w fun e w'=>za w (fe s l) e w':=by
 cases ha:bn s l.obj with
 | some all=>exact td b N Q s v l w S a d h c f g he s1 i j k m all ha
 | none=>exact s9 b N Q s v l w S a d h c f g he s1 i j k m ha
theorem vD (b:Nat) (N Q:Nat->Prop) (s:bL) (v:CQ) (l:BC) (w:CP) (S:List Nat) (a:Nat->Addr) (f:gx N Q w b s) (n:cH s) (d:eg w v l) (h:aR l=0) (k:l.kind=3) (j:eZ w) (he:ix S a w) (s1:1∈S):
  CZ CO 38 #[.pointer (some ⟨b,0,none⟩),v] w fun e w'=>za w (gv s l) e w':=by
 cases ha:bn s l.obj with
 | some all=>exact sZ b N Q s v l w S a f n d h k j he s1 all ha
 | none=>obtain⟨m,o,mp,c⟩:=f;refine(oR b m o mp v l w ⟨c.bx.cell (i:=0) rfl,c.bx.cell (i:=1) rfl⟩ c.mt d (c.none ha)).mono ?_;rintro e w' ⟨rfl,g⟩;rw[show gv s l=dh l 11 by unfold gv;rw[ha];rfl];exact⟨_,_,_,_,rfl,cn.nil _ _ _ _ _ _ _ _,g⟩
def tf (N Q:Nat->Prop) (b:Nat) (s:bL) (l:BC) (w:CP) (e:Ending) (w':CP):Prop:=∃vp vs vb L,e=.returned (.tuple #[.agg (cL (bC s l).1 vp vs vb).toArray,.bool (bC s l).2])/\cn (fun k=>w.heap.size<=k) w' (bC s l).1 vp vs vb L/\iI N Q w w' b (cm s l)
theorem iI.store {N Q:Nat->Prop} {w e n c:CP} {b a:Nat} {l:bL} (h:iI (fun i=>N i\/i=a) Q e n b l) (d:au w e) (z:w.heap.size<=a/\a < e.heap.size) (j:∀i,(Q i\/i=b)->i < w.heap.size) (k:Kq (fun i=>i=a) n c):iI N Q w c b l:=by
 obtain⟨u,o,Q',⟨m,y,mp,h1⟩,h2,f,p,s,g,t⟩:=h;have v:Kq Q w c:=by
  have x:Kq (fun i=>Q i\/i=a) w c:=((Kq.AI d).trans (u.mono fun i _ q=>.inl q)).trans (k.mono fun i _ q=>.inr q);exact x.mono fun i A q=>by
   rcases q with q | q
   ·exact q
   ·omega
 refine⟨v,o,Q',⟨m,y,mp,h1.kept k (fun i q=>⟨f i (.inr q),fun r=> ?_,fun r=> ?_⟩) fun i q=>.inl q⟩,fun i q=> ?_,fun i q=>f i (.inl q),p,s,fun i q=> ?_,fun i q=>Dd (t i q) k.size⟩
 ·rcases g i r with r | r
  ·have:=j i (.inl r);omega
  ·omega
 ·have:=j i (.inr r);omega
 ·rcases h2 i q with q | q
  ·rcases q with q | q
   ·exact .inl q
   ·exact .inr (by omega)
  ·exact .inr (Dk d.size q)
 ·rcases g i q with q | q
  ·exact .inl q
  ·exact .inr (Dk d.size q)
theorem oX (b:Nat) (N Q:Nat->Prop) (s:bL) (v:CQ) (l:BC) (w:CP) (S:List Nat) (a:Nat->Addr) (hS:gx N Q w b s) (aJ:cH s) (aE:∀i,Q i->N i) (aF:∀i,N i->i < w.heap.size) (hL:vv N w v l) (hg:eZ w) (he:ix S a w) (s1:1∈S) (s3:3∈S) (s4:4∈S) (s7:7∈S) (s8:8∈S):
  CZ CO 10 #[.pointer (some ⟨b,0,none⟩),v] w fun e w'=>tf N Q b s l w e w':=by
 have HL:=aa hL;have U:=aa hS;have ac:=aa hL.CJ;have x:=aa (Dj hg (Dj he (Dj s1 (Dj s3 (Dj s4 (Dj s7 s8))))));have H:=aa (Dj aE (Dj aF aJ));have aB:Hid (∀i,(Q i\/i=b)->i < w.heap.size):=aa fun i hi=>by
  obtain⟨m,sb,mp,Z⟩:=hS;rcases hi with q | q
  ·exact Z.sz i q
  ·rw[q];exact Z.bx.lt
 obtain⟨vp,vs,vb,L,rfl,aU⟩:=hL;obtain⟨J,E⟩:=exq ((w.alloc (.cells (cL l vp vs vb).toArray 26)).alloc (.cells zL 26));have Y:au w J:=by rw[E];exact(ae _ _).trans (ae _ _)
 have aK:J.heap.size=w.heap.size+1+1:=by rw[E,C4,C4]
 have X:aw J w.heap.size (cL l vp vs vb):=by rw[E];exact(aw.box w 26 (bR _ _ _ _)).ext (ae _ _)
 have ai:aw J (w.heap.size+1) zL.toList:=by rw[E];exact fQ w _ zL.toList _ _ (fun h=>by cases h)
 obtain⟨c,hR0⟩:=exq (w.heap.size+1);obtain⟨P0,am⟩:=exq w.heap.size;rw[<-hR0]at ai;rw[<-am]at X;have ay:=aa Y;have ap:=aa X;have ar:=aa ai;have o:Hid (P0=w.heap.size/\c=w.heap.size+1/\J.heap.size=w.heap.size+1+1):=aa ⟨am,hR0,aK⟩;have aA:=aa (X.load (P:=CO) C5 rfl (by kernel_rfl));have av:=aa (fB _ l J S a (ac.ext Y) (he.ext Y) s1 s3 s4 s7 s8);unfold cL at E;clear hS aJ aE aF hg he aU Y aK X ai hR0 am;show CZ CO 10 #[.pointer (some ⟨b,0,none⟩),.agg #[.int .i64 l.kind,.int .i64 l.id,.int .i64 l.obj,vp,vs,.int .i64 l.BE,.int .i64 l.BG,vb,.int .i64 l.code]] w _;go_enter Tryz.func10,Tryz.ntmps10
 go_wp2_with (with_reducible refine aV (ty:=26) ?_)
 rw[<-E];rw[show w.heap.size+1=c from o.out.2.1.symm,show w.heap.size=P0 from o.out.1.symm];clear E;refine ax ?_;refine ao rfl aA ?_
 go_wp2_with fail
 refine av.mono ?_;rintro e d ⟨rfl,O⟩;have n:Hid (au w d):=aa (ay.trans O);have aq:=aa (ap.ext O);have M:=aa (ar.ext O);have I:Hid (w.heap.size+2<=d.heap.size):=aa (by have:=O.size;have:=o.out;omega);have aZ:=aq.cell (i:=0) (v:=.int .i64 l.kind) rfl;have ad:=aa (aq.load (P:=CO) C5 rfl (by kernel_rfl));have aS:Hid (∀f,iI (fun i=>N i\/i=c) Q d f b (fF s l)->∀G,Kq (fun i=>i=c) f G->iI N Q w G b (fF s l)):=aa fun f K G h4=>K.store n (by have:=o.out;have:=I.out;omega) aB h4
 have W:Hid (∀G,au w G->iI N Q w G b s):=aa fun G h4=>gx.go U H.1 H.2.1 h4
 have V:Hid (gx N Q d b s/\gx (fun i=>N i\/i=c) Q d b s/\vv (fun i=>N i\/i=c) d (.agg (cL l vp vs vb).toArray) l):=aa ⟨U.ext n,by
  obtain⟨m,sb,mp,Z⟩:=U.out
  exact⟨m,sb,mp,Z.kept (Q2:=fun _=>False) (Kq.AI n) (fun _ q=>q.elim) fun i q=>by
   rcases q with q | q
   ·exact .inl q
   ·exact .inr (by have:=o.out;omega)⟩,HL.kept fun k hk T=>⟨fun q=>by
   rcases q with q | q
   ·exact hk q
   ·have:=o.out;omega,n.block k T⟩⟩
 clear O av aA ap ar HL U ay;by_cases F:aR l=0
 ·rw[F,ef];have C:=aa F;clear F;by_cases h1:l.kind=1
  ·have p:Hid (bC s l=(eE s l,true)/\cm s l=fF s l):=aa (by unfold bC cm;rw[if_pos C.out,if_pos h1,if_pos ⟨C.out,h1⟩];exact⟨rfl,rfl⟩)
   have aC:=aa (vA b (fun i=>N i\/i=c) Q s _ l d V.2.1 (fun i q=>.inl (H.1 i q)) (fun i q=>by
    rcases q with q | q
    ·exact Dd (H.2.1 i q) n.size
    ·have:=o.out;have:=I.out;omega) V.2.2 C h1)
   go_wp2_with refine ao rfl ad ?_
   refine aC.mono ?_;rintro e f ⟨rfl,aj⟩;have aQ:=aa aj;have g:=aa (aj.1.box (fun q=>by have:=aB c (.inl q);have:=o.out;omega) M)
   have t:Hid (cn (fun k=>w.heap.size<=k) f (eE s l) ag ag ag []):=aa (by
    unfold eE
    repeat' split
    all_goals exact cn.nil _ _ _ _ _ _ _ _)
   clear aj aC;have y:=aa (g.store (P:=CO) (cs':=cL (eE s l) ag ag ag) rfl (iE.one (t.BH)) (ty:=26) (by kernel_rfl));have u:=aa (g.set (cs':=cL (eE s l) ag ag ag) rfl);have r:Hid (Kq (fun k=>k=c) f (f.setCells c 0 (cL (eE s l) ag ag ag))):=aa ((Kq.refl f).setCells (Q:=fun k=>k=c) rfl 0 _)
   go_wp2_with refine ak rfl rfl y ?_
   refine De (v:=.tuple #[.agg (cL (eE s l) ag ag ag).toArray,.bool true]) (aI rfl rfl (u.loadVar (P:=CO) C5 rfl (by kernel_rfl)) rfl) rfl ?_;unfold tf;rw[p.out.1,p.out.2];refine⟨_,_,_,[],rfl,?_,aS _ aQ _ r⟩;unfold eE
   repeat' split
   all_goals exact cn.nil _ _ _ _ _ _ _ _
  by_cases K:l.kind=3
  ·have p:Hid (bC s l=(gv s l,true)/\cm s l=s):=aa (by unfold bC cm;rw[if_pos C.out,if_neg h1,if_pos K,if_neg (fun q=>h1 q.2)];exact⟨rfl,rfl⟩)
   go_wp2_with refine ao rfl ad ?_
   refine(vD b N Q s _ l d S a V.1 H.2.2 (ac.ext n) C K (x.1.ext n) (x.2.1.ext n) x.2.2.1).mono ?_;rintro e f ⟨A,B,z,L3,rfl,R,D⟩;have t:=aa R;have ab:=aa D;have g:=aa (M.ext D);clear R D;have y:=aa (g.store (P:=CO) (cs':=cL (gv s l) A B z) rfl (iE.one (t.BH)) (ty:=26) (by kernel_rfl));have u:=aa (g.set (cs':=cL (gv s l) A B z) rfl);have r:Hid (Kq (fun k=>k=c) f (f.setCells c 0 (cL (gv s l) A B z))):=aa ((Kq.refl f).setCells (Q:=fun k=>k=c) rfl 0 _)
   go_wp2_with refine ak rfl rfl y ?_
   refine De (v:=.tuple #[.agg (cL (gv s l) A B z).toArray,.bool true]) (aI rfl rfl (u.loadVar (P:=CO) C5 rfl (by kernel_rfl)) rfl) rfl ?_;unfold tf;rw[p.out.1,p.out.2];exact⟨_,_,_,_,rfl,t.kept fun j hj T=>⟨by have:=I.out;omega,r.block j T (fun q=>by have:=o.out;have:=I.out;omega)⟩,W _ ((n.trans ab).trans' (N:=w.heap.size) (r.mono fun j _ q=>by have:=o.out;omega) (CU _))⟩
  by_cases h5:l.kind=5
  ·have p:Hid (bC s l=(fe s l,true)/\cm s l=s):=aa (by unfold bC cm;rw[if_pos C.out,if_neg h1,if_neg K,if_pos h5,if_neg (fun q=>h1 q.2)];exact⟨rfl,rfl⟩)
   go_wp2_with refine ao rfl ad ?_
   refine(vC b N Q s _ l d S a V.1 H.2.2 (ac.ext n) C h5 (x.2.1.ext n) x.2.2.1 x.2.2.2.1 x.2.2.2.2.1 x.2.2.2.2.2.1 x.2.2.2.2.2.2).mono ?_;rintro e f ⟨A,B,z,L3,rfl,R,D⟩;have t:=aa R;have ab:=aa D;have g:=aa (M.ext D);clear R D;have y:=aa (g.store (P:=CO) (cs':=cL (fe s l) A B z) rfl (iE.one (t.BH)) (ty:=26) (by kernel_rfl));have u:=aa (g.set (cs':=cL (fe s l) A B z) rfl);have r:Hid (Kq (fun k=>k=c) f (f.setCells c 0 (cL (fe s l) A B z))):=aa ((Kq.refl f).setCells (Q:=fun k=>k=c) rfl 0 _)
   go_wp2_with refine ak rfl rfl y ?_
   refine De (v:=.tuple #[.agg (cL (fe s l) A B z).toArray,.bool true]) (aI rfl rfl (u.loadVar (P:=CO) C5 rfl (by kernel_rfl)) rfl) rfl ?_;unfold tf;rw[p.out.1,p.out.2];exact⟨_,_,_,_,rfl,t.kept fun j hj T=>⟨by have:=I.out;omega,r.block j T (fun q=>by have:=o.out;have:=I.out;omega)⟩,W _ ((n.trans ab).trans' (N:=w.heap.size) (r.mono fun j _ q=>by have:=o.out;omega) (CU _))⟩
  ·have p:Hid (bC s l=(dW,false)/\cm s l=s):=aa (by unfold bC cm;rw[if_pos C.out,if_neg h1,if_neg K,if_neg h5,if_neg (fun q=>h1 q.2)];exact⟨rfl,rfl⟩);have t:Hid (cn (fun k=>w.heap.size<=k) d dW ag ag ag []):=aa (cn.nil _ _ _ _ _ _ _ _);have g:=M;have y:=aa (g.store (P:=CO) (cs':=cL (dW) ag ag ag) rfl (iE.one (t.BH)) (ty:=26) (by kernel_rfl));have u:=aa (g.set (cs':=cL (dW) ag ag ag) rfl);have r:Hid (Kq (fun k=>k=c) d (d.setCells c 0 (cL (dW) ag ag ag))):=aa ((Kq.refl d).setCells (Q:=fun k=>k=c) rfl 0 _)
   go_wp2_with refine ak rfl rfl y ?_
   refine De (v:=.tuple #[.agg (cL (dW) ag ag ag).toArray,.bool false]) (aI rfl rfl (u.loadVar (P:=CO) C5 rfl (by kernel_rfl)) rfl) rfl ?_;unfold tf;rw[p.out.1,p.out.2];exact⟨_,_,_,[],rfl,cn.nil _ _ _ _ _ _ _ _,W _ (n.trans' (N:=w.heap.size) (r.mono fun j _ q=>by have:=o.out;omega) (CU _))⟩
 ·have p:Hid (bC s l=(dW,false)/\cm s l=s):=aa (by unfold bC cm;rw[if_neg F,if_neg (fun q=>F q.1)];exact⟨rfl,rfl⟩);obtain⟨er,aG⟩:∃er,nY a (aR l)=.iface 233 (.pointer (some er)):=⟨_,da a _ F⟩;rw[aG];clear F aG;have t:Hid (cn (fun k=>w.heap.size<=k) d dW ag ag ag []):=aa (cn.nil _ _ _ _ _ _ _ _);have g:=M;have y:=aa (g.store (P:=CO) (cs':=cL (dW) ag ag ag) rfl (iE.one (t.BH)) (ty:=26) (by kernel_rfl));have u:=aa (g.set (cs':=cL (dW) ag ag ag) rfl);have r:Hid (Kq (fun k=>k=c) d (d.setCells c 0 (cL (dW) ag ag ag))):=aa ((Kq.refl d).setCells (Q:=fun k=>k=c) rfl 0 _)
  go_wp2_with refine ak rfl rfl y ?_
  refine De (v:=.tuple #[.agg (cL (dW) ag ag ag).toArray,.bool false]) (aI rfl rfl (u.loadVar (P:=CO) C5 rfl (by kernel_rfl)) rfl) rfl ?_;unfold tf;rw[p.out.1,p.out.2];exact⟨_,_,_,[],rfl,cn.nil _ _ _ _ _ _ _ _,W _ (n.trans' (N:=w.heap.size) (r.mono fun j _ q=>by have:=o.out;omega) (CU _))⟩
end Go.Proofs.Bl
