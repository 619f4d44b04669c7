/- Texts that stood apart, in one: WSv3, WSv4, WSv5. -/
import Derived.Test.YtglenbikdahgjaaGreatDoorPr15
set_option maxRecDepth 100000
set_option maxHeartbeats 16000000
open And renaming intro->DT
open Go renaming Calls->DN,Value->DG,World->DF,bodyPost_ret->DK,maxLen->DV
open Go.Instr renaming build->GI,lookup->GG
open Go.Region renaming wanted->DP
open Go.RowKit.Below renaming refl->DI
open Go.World renaming size_alloc->DO
open Int renaming eq_ofNat_of_zero_le->En,toNat_natCast->Eo
open List renaming getD_eq_getElem?_getD->DJ,length->EW,length_drop->DR,length_map->D2,length_take->DX,map_append->EF,take_of_length_le->DW
open Nat renaming le_refl->DH,le_trans->D0,lt_of_lt_of_le->D9,zero_add->DY
open Option.some renaming inj->Fk
namespace Go.Proofs.Bl
open Go Go.RowKit Go.Proofs
open Go.Proofs.Tryz renaming prog->DE,underlying26->DQ,underlying3->FR,underlying84->Ga
def AA (w:DF) (l':Cp) (e:Ending) (w':DF):Prop:=∃vp vs vb L,e=.returned (.agg (cL l' vp vs vb).toArray)/\bZ (fun k=>w.heap.size<=k) w' l' vp vs vb L/\az w w'
theorem nP (ps:List (List Int)) (i:Nat) (h:ps.length<=512):dm (gA ps i):=l6 _ _ i (DH _) (by rw[D2];omega) (jx ps)
theorem nQ (all:List (List Int)) (ps:List Int) (i:Nat) (h:i < ps.length):ie all (ps.take (i+1))=ie all (ps.take i)++[(ps.getD i 0,all.getD (ps.getD i 0).toNat [],gA all (ps.getD i 0).toNat)]:=by
 unfold ie;rw[aP 0 ps i h,EF];rfl
theorem ig.el {N:Nat->Prop} {w:DF} {v:DG} {st:List (List Int)} (h:ig N w v st) {i:Nat} (q:i < st.length):∃(b:Nat) (c:Nat) (p1:Option Addr) (a:Nat),v=.slice (some ⟨b,0,none⟩) st.length c/\st.length<=c/\c<=DV/\b < w.heap.size/\w.cell? ⟨b,i,none⟩=some (.slice p1 (st.getD i []).length a)/\Rd w .u8 (.slice p1 (st.getD i []).length a) (st.getD i []):=by
 obtain⟨M,h1,h2,j⟩:=h;have k:M.length=st.length:=by rw[<-j,D2]
 obtain⟨g,c,p,_,n,l,hm,o⟩:=h1.form (by omega);have f:i < M.length:=by omega
 have hx:=(h2 _ (aH kJ f)).1.AT;have d:=o i _ (j9 M i f);rw[DY]at d;have e:(M.getD i kJ).2=st.getD i []:=by rw[<-j,DJ,DJ,List.getElem?_map,List.getElem?_eq_getElem f];rfl
 rw[e]at hx;obtain⟨p1,a,m,_,_⟩:=hx.form;rw[m]at d hx;exact⟨g,c,p1,a,by rw[<-k];exact p,by rw[<-k];exact l,hm,n,d,hx⟩
theorem xh (p:Int) (e f:Option Addr) (c a d b:Nat) (w:DF):(GI 57 #[(0,.int .i64 p),(1,.slice e c a),(2,.slice f d b)]).run DE w=.ok (.agg #[.int .i64 p,.slice e c a,.slice f d b]) w:=run_build w _ _ _ (by kernel_rfl)
theorem uy (b:Nat) (N Q:Nat->Prop) (s:eb) (v:DG) (l:Cp) (w:DF) (S:List Nat) (a:Nat->Addr) (hS:lE N Q w b s) (cq:ey s) (hL:dH w v l) (hc:aW l=0) (W:l.kind=3) (hg:fO w) (he:kz S a w) (s1:1∈S) (all:List (List Int)) (ha:dv s l.obj=some all):
  DN DE 38 #[.pointer (some ⟨b,0,none⟩),v] w fun e w'=>AA w (gB s l) e w':=by
 have HL:=aa hL;obtain⟨dS,vp,vs,vb,L,rfl,aN⟩:=hL;obtain rfl:=aN.eq;obtain⟨m,sb,mp,hR⟩:=hS;obtain⟨v0,cj,bF⟩:=hR.some ha;obtain⟨dt,du,cp⟩:=cq.get ha;obtain⟨cr,dx,ct⟩:=rr hc W;obtain⟨pl,cl,dC,_,_⟩:=aN.pl.form;subst dC;obtain⟨V,aA,_,_,dA,cn,dq,cc,_,_⟩:=bF.el (i:=0) (by omega);subst dA;obtain⟨n,hn⟩:=exq all.length;obtain⟨k,a6⟩:=exq l.places.length;have z:=aa (DT hn (DT a6 (DT cp ct)));have aX:=aa bF;have cU:Hid ((∀p∈l.places,p < (n:Int))->gB s l=mN l all):=aa fun q=>by unfold gB;rw[ha];simp only;rw[if_pos (by rw[<-hn];exact q)]
 have cW:Hid (∀i,i < k->¬l.places.getD i 0 < (n:Int)->gB s l=dO l 1):=aa fun i hi q=>by unfold gB;rw[ha];simp only;rw[if_neg (fun h=>q (by rw[hn];exact h _ (aH 0 (by omega))))];rfl
 rw[<-hn]at cn;have aV:Hid (1<=n/\n<=512/\1<=k/\k<=12/\n<=aA/\aA<=DV):=aa (by omega);obtain⟨an,dn⟩:∃an:Cp,an=⟨4,l.id,l.obj,[],[],0,0,[],0⟩:=⟨_,rfl⟩;obtain⟨W1,R⟩:=exq ((w.alloc (.cells (cL l (.slice pl l.places.length cl) vs vb).toArray 26)).alloc (.cells zL 26));have bn:az w W1:=by rw[R];exact(ae _ _).trans (ae _ _)
 have cz:W1.heap.size=w.heap.size+1+1:=by rw[R,DO,DO]
 have a1:av W1 w.heap.size (cL l (.slice pl l.places.length cl) vs vb):=by rw[R];exact(av.box w 26 (cg _ _ _ _)).ext (ae _ _)
 have bm:av W1 (w.heap.size+1) zL.toList:=by rw[R];exact gy w _ zL.toList _ _ (fun h=>by cases h)
 obtain⟨O,hR0⟩:=exq (w.heap.size+1);obtain⟨P0,bp⟩:=exq w.heap.size;rw[<-hR0]at bm;rw[<-bp]at a1;have cK:=aa bn;have ap:=aa a1;have bO:=aa bm;have ab:Hid (P0=w.heap.size/\O=w.heap.size+1/\W1.heap.size=w.heap.size+1+1):=aa ⟨bp,hR0,cz⟩;have a4:=hR.ext bn;have ca:=a4.bx.cell (i:=0) (v:=.map (some m)) rfl;have cd:=a4.bx.lt;have aQ:=ap.cell (i:=2) (v:=.int .i64 l.obj) rfl;have cA:=ap.lt;have bj:Hid (∀g,az W1 g->(GG 84 (.map (some m)) (.int .i64 l.obj) true).run DE g=.ok (.tuple #[.slice (some ⟨V,0,none⟩) n aA,.bool true]) g):=aa fun g h2=>by
  have hz:(zeroValue 22).run DE g=.ok (.slice none 0 0) g:=by first | rfl | kernel_rfl | (simp[go_sem];done)
  have h:=(a4.mt.ext h2).lookup (P:=DE) Ga FR hz l.obj;rw[cj,<-hn]at h;exact h
 have HG:=aa (DT hg (DT he s1));have bT:=aa (DT aN.pl (kA.one aN));have bV:Hid (V < w.heap.size):=aa cc;obtain⟨oj,bz⟩:=exq l.obj;rw[<-bz]at bj aQ;have dM:=aa bz;rw[<-a6]at R a1 ap HL bT;unfold cL at R;clear aN hR cj bF dt du cp cr dx ct cq hc W hg he ha bn a1 bm a4 cc hn cn dq cz hR0 bp bz;rw[<-a6];show DN DE 38 #[.pointer (some ⟨b,0,none⟩),.agg #[.int .i64 l.kind,.int .i64 l.id,.int .i64 l.obj,.slice pl k cl,vs,.int .i64 l.Cq,.int .i64 l.Cs,vb,.int .i64 l.code]] w _;clear a6;go_enter Tryz.func38,Tryz.ntmps38
 go_wp2_with fail
 rw[<-R];rw[show w.heap.size+1=O from ab.out.2.1.symm,show w.heap.size=P0 from ab.out.1.symm];clear R;apply ay (az) (fun _ _ _=>True) 12 [13,14,15,16,17,18,19,12,20,21,5,6] [ar _,ar _,ar _,ar _,ar _,ar _,ar _,ar _,ar _,ar _,ar _,ar _] (fun w=>DI _ w) (fun a b c h k=>az.trans h k) (by kernel_rfl) (by kernel_rfl) (by kernel_rfl) (by kernel_rfl);case hsteps=>
  refine⟨?_,?_,?_,?_,?_,?_,?_,?_,?_,?_,?_,?_,trivial⟩;all_goals
   intro d ev T C E t K J I f;replace t:=aa t;replace E:=aa E;replace K:=aa K;replace J:=aa J;have e0:=I 0 (by decide);have e3:=I 3 (by decide);clear I;simp only[sB]at e0 e3;simp only[sG]at f;have hc:=(aD C).1;have dQ:=(hc _ 0 cd).trans ca;have c2:=(hc _ 2 cA).trans aQ;have lk:=bj _ C;simp only[DP,if_true];go_simp;first | exact⟨DI _ _,rfl,trivial⟩ | exact⟨DI _ _,rfl⟩ | exact DI _ _
 case hmono=>exact mR
 case hR0=>exact(DI _ _).drew
 case hend=>
  intro u T C hJ hend;simp only[sE]at hend;simp only[sF,hend];have be:Hid (az w T):=aa (cK.trans C);have aq:=aa (ap.ext C);have bc:=aa (bO.ext C);obtain⟨W2,br⟩:=exq T;rw[<-br]at be aq bc⊢;have cT:Hid (w.heap.size+2<=W2.heap.size):=aa (by rw[br];have:=C.size;have:=ab.out;omega);clear C hend hJ ca cd aQ cA ap bO bj br;obtain⟨aF,aK⟩:=av.fresh (cs:=cL an ah ah ah) W2 26 zL rfl (cg _ _ _ _);have b1:=aa (aI (P:=DE) (cs:=cL an ah ah ah) W2 26 zL rfl (bk ⟨_,_,_,rfl⟩ ⟨_,_,_,rfl⟩ ⟨_,_,_,rfl⟩) (ty:=26) (by kernel_rfl));have dE:=aq.cell (i:=1) (v:=.int .i64 l.id) rfl;have aQ:=aq.cell (i:=2) (v:=.int .i64 l.obj) rfl;subst dn
  go_wp2_with (with_reducible refine aC (ty:=26) ?_)
  refine au ?_;refine ag rfl rfl b1 ?_;obtain⟨W3,b8⟩:=exq ((W2.alloc (.cells zL 26)).setCells W2.heap.size 0 (cL ⟨4,l.id,l.obj,[],[],0,0,[],0⟩ ah ah ah));obtain⟨Y,hY⟩:=exq W2.heap.size;rw[<-b8]at aF aK⊢;rw[<-hY]at aF⊢;obtain⟨B,hB⟩:=exq W3.heap.size;have A:Hid (O < Y/\Y < B/\P0 < O/\w.heap.size<=Y/\B=W3.heap.size/\w.heap.size<=B):=aa (by have:=aF.lt;have:=cT.out;have:=ab.out;omega);have cM:Hid (az w W3):=aa (be.trans aK);have bM:=aa (aq.ext aK);have cE:=aa (bc.ext aK);have cC:=aa aF;have dF:=bM.cell (i:=3) (v:=.slice pl k cl) rfl;clear aF aK b1 aq bc b8 hY hB dE aQ be
  go_wp2_with fail
  clear dF;go_loopw [34] (fun x wr=>∃(i:Nat) (o:DG) (M:List Sv),i<=k/\x=.int .i64 i/\Hid (GQ cS 3 ez (fun b=>B<=b) B wr Y 4 ((cL ⟨4,l.id,l.obj,[],[],0,0,[],0⟩ ah ah ah).set 4 o) o M/\M.map cf=ie all (l.places.take i)/\∀p∈l.places.take i,p < (n:Int))/\Hid (Kq (fun k=>k=Y\/B<=k) W3 wr)) (fun x _=>k - (intOf x).toNat);case atStart=>exact⟨0,.slice none 0 0,[],Nat.zero_le _,rfl,aa ⟨GQ.start cC rfl,rfl,fun p hp=>(by simp at hp)⟩,aa (Kq.refl _)⟩
  case round=>
   obtain⟨i,o,M,hi,rfl,G,aw⟩:=hrel;have F:Hid (az w wr):=aa ((cM.trans' (N:=w.heap.size) (aw.mono fun j _ q=>by have:=A.out;omega) (DH _)));have bw:∀X,X < B->X≠Y->¬(X=Y\/B<=X):=fun X h1 h2 q=>by omega
   have bN:=aa (aw.box (bw P0 (by have:=A.out;omega) (by have:=A.out;omega)) bM);have bd:=aa (aw.box (bw O (by have:=A.out;omega) (by have:=A.out;omega)) cE);have aR:Hid (B<=wr.heap.size):=aa (by have:=aw.size;have:=A.out;omega);clear bw;by_cases bv:i < k
   ·have aO:i < l.places.length:=by rw[<-z.out.2.1];exact bv
    obtain⟨da,op,c2,hq,_,_,ce,dz,a5⟩:=Rd.pos bT.1 (by omega);rw[z.out.2.1]at hq;injection hq with Z bB bC;subst Z bC;have bt:=((aD F).1 da (op+i) ce).trans (a5 i aO);have a7:=z.2.2.2 _ (aH 0 aO);obtain⟨p,hp⟩:=exq (l.places.getD i 0);rw[<-hp]at bt a7;have Hp:=aa hp;have dT:(0:Int)<=(i:Int):=by omega
    have dU:(i:Int) < (k:Int):=by omega
    have dV:(i:Int)<=12:=by have:=aV.out;omega
    have dw:=a7.1;have cr:=a7.2;clear dz a5 bB hp a7 ce
    go_wp2_with fail
    have a8:p=l.places.getD i 0:=Hp.out;have aY:Hid (∀st r,st=all.getD p.toNat []->r=gA all p.toNat->ie all (l.places.take (i+1))=ie all (l.places.take i)++[(p,st,r)]):=aa fun st r h1 h2=>by rw[nQ all l.places i aO,<-a8,h1,h2]
    have b2:Hid (p < (n:Int)->∀x∈l.places.take (i+1),x < (n:Int)):=aa fun q x hx=>by
     rw[aP 0 l.places i aO,<-a8]at hx;rcases List.mem_append.1 hx with hx | hx
     ·exact G.2.2 x hx
     ·obtain rfl:x=p:=by simpa using hx
      exact q
    clear aO;by_cases cu:p < (n:Int)
    ·obtain⟨pi,rfl⟩:=En dw;have bA:pi < n:=by omega
     have cx:=aX.CB.ext F;rw[Eo]at aY;obtain⟨dN,dR,p1,c1,hq,_,_,dp,bs,bD⟩:=aX.el (i:=pi) (by rw[<-z.out.1];exact bA);injection hq with Z bB bC;injection Z with Z;injection Z with Z;subst Z bC;have bb:=z.2.2.1 _ (aH (L:=all) [] (i:=pi) (by rw[<-z.out.1];exact bA));obtain⟨st,bG⟩:=exq (all.getD pi []);obtain⟨r,a9⟩:=exq (gA all pi);have ch:dm r:=by rw[a9];exact nP all pi (by rw[<-z.out.1];exact aV.2.1)
     rw[<-bG]at bs bD bb;have cy:=aY st r bG a9;have c5:=aa cy;have bl:=aa (DT bb.1 (DT bb.2 ch));have c8:Hid (aS (fun j=>j < w.heap.size) w (.slice p1 st.length c1) st.length (ao .u8 st)):=aa (aS.By bD fun j _ D=>D);have bi:=aa (tV (.slice (some ⟨V,0,none⟩) n aA) all pi wr (by rw[z.out.1];exact cx) (HG.1.ext F) (fun x hx=>(z.2.2.1 x hx).2) (fun x hx=>by have:=(z.2.2.1 x hx).1;omega) (by rw[<-z.out.1];exact aV.2.1) (by rw[<-z.out.1];exact bA));rw[<-a9]at bi;have bW:Hid (∀g,az wr g->g.cell? ⟨V,pi,none⟩=some (.slice p1 st.length c1)):=aa fun g h2=>((aD (F.trans h2)).1 V pi bV).trans bs
     clear cx bB bs bD bb bG a9 ch aY aX cy a8 dp;refine bi.mono ?_;rintro e U ⟨v9,rfl,bE,cm,ai⟩;obtain⟨p9,c9,dB,_,_⟩:=bE.form;subst dB;have bR:=aa (G.1.ext aU ai);have cO:Hid (∀j,wr.heap.size<=j->j≠Y/\o.ownBlock≠some j/\B<=j):=aa fun j D=>⟨fun q=>by have:=aR.out;have:=A.out;omega,fun q=>by have:=(G.1.own.block j q).2;omega,by have:=aR.out;omega⟩
     have cR:Hid (yc cS 3 ez (fun b=>B<=b) B Y 4 ((cL ⟨4,l.id,l.obj,[],[],0,0,[],0⟩ ah ah ah).set 4 o) o M (.slice p9 r.length c9) r U):=aa ⟨⟨bR,by have:=aR.out;have:=ai.size;omega⟩,aS.By bE fun j D _=>cO j (cm j D)⟩;have aT:=aa ai;have dL:Hid (B<=U.heap.size):=aa (by have:=aR.out;have:=ai.size;omega);have cB:=bR.cell;have ck:=bW U ai;have c0:Hid (∀g,Kq (fun k=>B<=k) U g->g.cell? ⟨Y,4,none⟩=some o/\g.cell? ⟨V,pi,none⟩=some (.slice p1 st.length c1)):=aa fun g W=>⟨W.cell (by have:=A.out;omega) cB,W.cell (by have:=A.out;have:=bV.out;omega) ck⟩
     have cJ:Hid (∀g,Kq (fun k=>B<=k) U g->yc cS 3 ez (fun b=>B<=b) B Y 4 ((cL ⟨4,l.id,l.obj,[],[],0,0,[],0⟩ ah ah ah).set 4 o) o M (.slice p9 r.length c9) r g->DN DE 45 #[.slice p1 st.length c1] g fun e w'=>∃v',e=.returned v'/\yQ cS 3 ez (fun b=>B<=b) B Y 4 ((cL ⟨4,l.id,l.obj,[],[],0,0,[],0⟩ ah ah ah).set 4 o) o M (.slice p9 r.length c9) r st v' w'/\az g w'):=aa fun g W hp=>by have dy:=(c8.kept (F':=fun _=>True) (w':=g) fun j D hl=>⟨trivial,(W.block j (by have:=F.size;have:=aT.size;omega) (by have:=A.out;omega)).trans ((F.trans aT).block j hl)⟩).AT;refine(dZ _ st g dy (by have:=bl.1;omega)).mono ?_;rintro e w' ⟨v',rfl,ho,hE⟩;refine⟨v',rfl,⟨aS.By (bh.AS ho) fun j D _=> ?_,hp.ext aU hE⟩,hE⟩;have h1:=(ho.lt j D).1;have h2:=hp.1.1.box.lt;refine⟨by omega,fun q=> ?_,by have:=hp.1.2;omega⟩;have:=(hp.1.1.own.block j q).2;omega
     have Hm:Hid (M.length+1<=DV/\(M.length+1)*56<=140737488355328):=aa (by
      have h1:=congrArg EW G.2.1;unfold ie at h1;rw[D2,D2,DX]at h1;have:=aV.out;unfold DV
      omega)
     clear bE cm ai bi bW cB ck bt
     go_wp2_with fail
     apply ay (Kq (fun k=>B<=k)) (eT (yc cS 3 ez (fun b=>B<=b) B Y 4 ((cL ⟨4,l.id,l.obj,[],[],0,0,[],0⟩ ah ah ah).set 4 o) o M (.slice p9 r.length c9) r) [(7,55,yQ cS 3 ez (fun b=>B<=b) B Y 4 ((cL ⟨4,l.id,l.obj,[],[],0,0,[],0⟩ ah ah ah).set 4 o) o M (.slice p9 r.length c9) r st),(9,57,A1 cS 3 ez (fun b=>B<=b) B Y 4 ((cL ⟨4,l.id,l.obj,[],[],0,0,[],0⟩ ah ah ah).set 4 o) o M (fun y=>cf y=((pi:Int),st,r))),(10,58,A2 cS 3 ez (fun b=>B<=b) B Y 4 ((cL ⟨4,l.id,l.obj,[],[],0,0,[],0⟩ ah ah ah).set 4 o) o M (fun y=>cf y=((pi:Int),st,r))),(11,59,A3 cS 3 ez (fun b=>B<=b) B Y 4 ((cL ⟨4,l.id,l.obj,[],[],0,0,[],0⟩ ah ah ah).set 4 o) o M (fun y=>cf y=((pi:Int),st,r)))]) 13 [48,49,50,51,52,53,54,55,56,57,58,59,60] [ar _,ar _,ar _,ar _,ar _,ar _,ar _,bK,ar _,bK,bK,bK,ar _] (fun w=>Kq.refl w) (fun a b c h k=>Kq.trans h k) (by kernel_rfl) (by kernel_rfl) (by kernel_rfl) (by kernel_rfl);case hsteps=>
      refine⟨?_,?_,?_,?_,?_,?_,?_,?_,?_,?_,?_,?_,?_,trivial⟩;all_goals
       intro d ev T C E t K J I f;replace t:=aa t;replace E:=aa E;replace K:=aa K;replace J:=aa J;have e5:=I 5 (by decide);have e7:=I 7 (by decide);have e9:=I 9 (by decide);have de:=I 10 (by decide);clear I;simp only[sB]at e5 e7 e9 de;simp only[sG]at f;have q3:=c0 _ C;have c1:=q3.1;have c2:=q3.2;clear q3;rw[if_pos (rfl:DP _ _=true)];first
       | (have h1:=(E.2 (t 7 (by kernel_rfl))).1 J;obtain⟨pb,dc,cb,_,_⟩:=h1.1.AT.form;(with_reducible refine mj ?_ ?_ ?_ ?_ (xh (pi:Int) pb p9 st.length dc r.length c9 T) ?_);exact fun w=>Kq.refl w;exact(by first | ((repeat(first | exact f | exact f.2 | replace f:=f.1));done) | (repeat(first | exact f | exact f.1 | replace f:=f.2)));exact cb;exact(by first | ((repeat(first | exact f | exact f.2 | replace f:=f.1));done) | (repeat(first | exact f | exact f.1 | replace f:=f.2)));exact⟨trivial,eT.s2 (yQ.Dw h1 cb bl.2.1 bl.2.2) (t 7 (by kernel_rfl)) (K 10 (by kernel_rfl)) rfl rfl⟩) | (have h2:=((E.2 (t 7 (by kernel_rfl))).2 (t 9 (by kernel_rfl))).1 J;(with_reducible refine cG (v:=ev 57) pg (by decide) ?_ h2.size ?_);rfl;exact⟨Kq.AI (ae _ _),trivial,eT.s3 (h2.a2 aU _) (t 7 (by kernel_rfl)) (t 9 (by kernel_rfl)) (K 11 (by kernel_rfl)) rfl rfl⟩) | (have h3:=(((E.2 (t 7 (by kernel_rfl))).2 (t 9 (by kernel_rfl))).2 (t 10 (by kernel_rfl))).1 J;(with_reducible refine pT pg aU h3 ?_ ?_ Hm.out.1 Hm.out.2 ?_);rfl;exact(by first | ((repeat(first | exact f | exact f.2 | replace f:=f.1));done) | (repeat(first | exact f | exact f.1 | replace f:=f.2)));exact fun v' w' k1 k2=>⟨k1,trivial,eT.s4 k2 (t 7 (by kernel_rfl)) (t 9 (by kernel_rfl)) (t 10 (by kernel_rfl)) trivial rfl rfl⟩)
       | (go_simp;first | exact⟨Kq.refl _,rfl,E.same rfl⟩ | (go_at_call 45;have h0:=E.1 J;(with_reducible refine(cJ.out T C h0).mono ?_);rintro e g ⟨v',rfl,k1,k2⟩;exact⟨_,rfl,Kq.AI k2,trivial,eT.s1 k1 (K 9 (by kernel_rfl)) rfl⟩) | exact⟨DI _ _,rfl,HJ.same (by decide) E⟩)
     case hmono=>exact mR
     case hR0=>exact Kq.drew _
     case hend=>
      intro u T C hJ hend;simp only[sE]at hend;simp only[sF,hend];obtain⟨y,p7,db,hu,cw,a5,dr,b6⟩:=(((hJ.2 rfl).2 rfl).2 rfl).2 rfl;have H:=aa b6;have cP:=aa C;have cZ:=aa cw;rw[hu]at H;simp only[hu];clear b6 C hend hJ hu cw
      go_wp2_with fail
      obtain⟨w8,bH⟩:=exq (T.setCell ⟨Y,4,none⟩ (.slice p7 (M.length+1) db));have cQ:Hid (Kq (fun k=>k=Y\/B<=k) wr w8):=aa (by rw[bH];exact((Kq.AI aT).trans (cP.mono fun j _ q=>.inr q)).setCell (Q:=fun k=>k=Y\/B<=k) ⟨Y,4,none⟩ (.inl rfl) _);rw[<-bH]at H⊢;clear bH a5 dr;go_roundw;case rel=>exact⟨i+1,_,M++[y],by omega,by go_num,aa ⟨by have h:=H.out;rw[List.set_set]at h;exact h,by rw[EF,G.out.2.1,c5.out,List.map_cons,List.map_nil,cZ.out],b2 cu⟩,aa (aw.trans cQ)⟩
      case measure=>simp[intOf];omega
     case hJ0=>exact eT.start (cR.ext aU (DI _ _).drew)
    ·have bY:=aa (wV (.slice (some ⟨V,0,none⟩) n aA) all p wr (a 1) (by have h:=aX.CB.ext F;rw[z.out.1];exact h) ((HG.2.1.ext F).cell 1 HG.2.2) (fun q=>cu (by rw[z.out.1];exact q.2.2)));have c3:=aa (cW i bv (by have h:=Hp.out;omega));clear bt a8 aY b2;refine bY.mono ?_;rintro e U ⟨rfl,aJ⟩;have aT:=aa aJ;have cD:=aa (bN.ext aJ);have cF:=aa (bd.ext aJ);have bQ:Hid (az w U):=aa (F.trans aJ);have cY:=aa (cD.load (P:=DE) DQ rfl (by kernel_rfl));clear aJ bY
     go_wp2_with refine ak rfl cY ?_
     refine(dP _ l 1 U (HL.ext bQ)).mono ?_;rintro e w6 ⟨rfl,bo⟩;have cN:=aa bo;have bP:=aa (cF.ext bo);clear bo;have c6:=aa (bP.store (P:=DE) (cs':=cL (dO l 1) ah ah ah) rfl (bk ⟨_,_,_,rfl⟩ ⟨_,_,_,rfl⟩ ⟨_,_,_,rfl⟩) (ty:=26) (by kernel_rfl));have cH:=aa (bP.set (cs':=cL (dO l 1) ah ah ah) rfl)
     go_wp2_with refine ag rfl rfl c6 ?_
     refine DK (v:=.agg (cL (dO l 1) ah ah ah).toArray) (aG rfl rfl (cH.loadVar (P:=DE) DQ rfl (by kernel_rfl))) rfl ?_;rw[c3.out];exact⟨_,_,_,_,rfl,bZ.nil _ _ _ _ _ _ _ _,aE _ _ _ _ (bQ.trans cN) (by have:=ab.out;omega)⟩
   ·obtain rfl:i=k:=by omega
    have bU:Hid (l.places.take i=l.places):=aa (DW (by rw[<-z.out.2.1];exact DH _));obtain⟨pv,cv,dD⟩:=G.1.form;subst dD;have H:=aa G.1;have c4:Hid (M.map cf=ie all l.places):=aa (by have h:=G.2.1;rw[bU.out]at h;exact h);have cV:=aa (cU (by have h:=G.2.2;rw[bU.out]at h;exact h));have cX:=aa (H.box.load (P:=DE) DQ rfl (by kernel_rfl));have c7:=aa (bd.store (P:=DE) (cs':=(cL ⟨4,l.id,l.obj,[],[],0,0,[],0⟩ ah ah ah).set 4 (.slice pv M.length cv)) rfl (bk (l:=⟨4,l.id,l.obj,[],[],0,0,[],0⟩) (vp:=ah) (vs:=.slice pv M.length cv) (vb:=ah) ⟨_,_,_,rfl⟩ ⟨_,_,_,rfl⟩ ⟨_,_,_,rfl⟩) (ty:=26) (by kernel_rfl));have cI:=aa (bd.set (cs':=(cL ⟨4,l.id,l.obj,[],[],0,0,[],0⟩ ah ah ah).set 4 (.slice pv M.length cv)) rfl);have bg:Hid (Kq (fun k=>k=O) wr (wr.setCells O 0 ((cL ⟨4,l.id,l.obj,[],[],0,0,[],0⟩ ah ah ah).set 4 (.slice pv M.length cv)))):=aa ((Kq.refl wr).setCells (Q:=fun k=>k=O) rfl 0 _);have dW:=bN.lt;clear G bv
    go_wp2_with first | refine ak rfl cX ?_ | refine ag rfl rfl c7 ?_
    refine DK (v:=.agg ((cL ⟨4,l.id,l.obj,[],[],0,0,[],0⟩ ah ah ah).set 4 (.slice pv M.length cv)).toArray) (aG rfl rfl (cI.loadVar (P:=DE) DQ rfl (by kernel_rfl))) rfl ?_;rw[cV.out];refine⟨_,_,_,M,rfl,⟨aS.nil _,?_,fun x hx=> ?_,c4,[],aS.nil _,fun x hx=>(by cases hx),rfl⟩,?_⟩
    ·exact aS.By (bg.AT H.own.AT fun j D q=>by have:=(H.own.block j D).1;have:=A.out;omega) fun j D _=>by have:=(H.own.block j D).1;have:=A.out;omega
    ·exact aU _ _ _ _ _ (H.ok x hx) fun j D hl=>⟨by have:=D.2.2;have:=A.out;omega,bg.block j hl (fun q=>by have:=D.2.2;have:=A.out;omega)⟩
    ·exact F.trans' (N:=w.heap.size) (bg.mono fun j _ q=>by have:=ab.out;omega) (DH _)
 case hJ0=>trivial
structure JF (bs:List (List Int)) (i o f:Int) (B q:Nat) (d:Nat->Bool) (u:Nat->DG) (w:DF):Prop where
 le:B<=w.heap.size
 a:d 11=true->∃(g:Nat) (M:List Bv),u 51=.slice (some ⟨g,0,none⟩) q q/\B<=g/\Pk w g 1 (u 51) M.length (aw cB M)/\(∀y∈M,iI (fun k=>g < k/\∀D,d 13=true->u 8=.pointer (some ⟨D,0,none⟩)->k≠D) w y)/\M.map (·.2)=bs/\g < w.heap.size/\∀D,d 13=true->u 8=.pointer (some ⟨D,0,none⟩)->g≠D
 al:d 13=true->∃D,u 8=.pointer (some ⟨D,0,none⟩)/\av w D zL.toList/\B<=D
 bd:d 12=true->d 11=true/\u 52=.agg #[.int .i64 6,.int .i64 i,.int .i64 o,ah,ah,.int .i64 f,.int .i64 0,u 51,.int .i64 0]
section
variable {bs:List (List Int)} {i o f:Int} {B q:Nat} {d:Nat->Bool} {u:Nat->DG} {w w':DF}
theorem JF.start (h:B<=w.heap.size):JF bs i o f B q (fun _=>false) u w:=⟨h,fun q=>(by cases q),fun q=>(by cases q),fun q=>(by cases q)⟩
theorem JF.same {j t:Nat} {v:DG} (h:JF bs i o f B q d u w) (k:(decide (j=11)||decide (j=12)||decide (j=13)||decide (t=51)||decide (t=52)||decide (t=8))=false):JF bs i o f B q (bD d j) (aQ (some t) u v) w:=by
 simp only[Bool.or_eq_false_iff,decide_eq_false_iff_not]at k;obtain⟨⟨⟨⟨⟨h1,h2⟩,m⟩,n⟩,p⟩,r⟩:=k;have b:bD d j 11=d 11:=if_neg (fun e=>h1 e.symm);have a2:bD d j 12=d 12:=if_neg (fun e=>h2 e.symm);have a3:bD d j 13=d 13:=if_neg (fun e=>m e.symm);have c:aQ (some t) u v 51=u 51:=if_neg (fun e=>n e.symm);have l:aQ (some t) u v 52=u 52:=if_neg (fun e=>p e.symm);have g:aQ (some t) u v 8=u 8:=if_neg (fun e=>r e.symm);exact⟨h.le,by rw[b,a3,c,g];exact h.a,by rw[a3,g];exact h.al,by rw[a2,b,l,c];exact h.bd⟩
theorem JF.call {M:List Bv} {v:DG} (h:JF bs i o f B q d u w) (m:d 12=false) (l:v=.slice (some ⟨w.heap.size,0,none⟩) q q) (hp:Pk w' w.heap.size 1 v M.length (aw cB M)) (p:∀y∈M,iI (fun k=>w.heap.size < k) w' y) (hm:M.map (·.2)=bs) (j:az w w'):JF bs i o f B q (bD d 11) (aQ (some 51) u v) w':=by
 have g:∀D,d 13=true->u 8=.pointer (some ⟨D,0,none⟩)->D < w.heap.size:=fun D h1 h2=>by obtain⟨s,a,c,_⟩:=h.al h1;rw[h2]at a;injection a with a;injection a with a;injection a with a;subst a;exact c.lt
 refine⟨D0 h.le j.size,fun _=>⟨w.heap.size,M,l,h.le,hp,fun y hy=>br _ _ _ _ _ (p y hy) fun b n _=>⟨⟨n,fun D h1 h2 e=>by have:=g D h1 h2;omega⟩,rfl⟩,hm,(hp.block _ (by rw[l];rfl)).2,fun D h1 h2 e=>by have:=g D h1 h2;omega⟩,fun h1=> ?_,fun h1=> ?_⟩
 ·obtain⟨D,a,c,r⟩:=h.al h1;exact⟨D,a,c.ext j,r⟩
 ·have h1:d 12=true:=h1;rw[m]at h1;cases h1
theorem JF.CF {v:DG} (h:JF bs i o f B q d u w) (b:d 11=true) (c:v=.agg #[.int .i64 6,.int .i64 i,.int .i64 o,ah,ah,.int .i64 f,.int .i64 0,u 51,.int .i64 0]):JF bs i o f B q (bD d 12) (aQ (some 52) u v) w:=
 ⟨h.le,h.a,h.al,fun _=>⟨b,c⟩⟩
theorem JF.make (h:JF bs i o f B q d u w) (e:TypeId):JF bs i o f B q (bD d 13) (aQ (some 8) u (.pointer (some ⟨w.heap.size,0,none⟩))) (w.alloc (.cells zL e)):=by
 have c:=ae w (.cells zL e);refine⟨D0 h.le c.size,fun h1=> ?_,fun _=>⟨w.heap.size,rfl,av.box (cs:=zL.toList) w e (fun q=>by cases q),h.le⟩,h.bd⟩;obtain⟨g,M,l,m,n,p,r,s,_⟩:=h.a h1;refine⟨g,M,l,m,n.ext c,fun y hy=>br _ _ _ _ _ (p y hy) fun b j k=>⟨⟨j.1,fun D _ h2 e=> ?_⟩,c.block b k⟩,r,D9 s c.size,fun D _ h2 e=> ?_⟩
 ·have h2:(Value.pointer (some ⟨w.heap.size,0,none⟩))=.pointer (some ⟨D,0,none⟩):=h2;injection h2 with h2;injection h2 with h2;injection h2 with h2;omega
 ·have h2:(Value.pointer (some ⟨w.heap.size,0,none⟩))=.pointer (some ⟨D,0,none⟩):=h2;injection h2 with h2;injection h2 with h2;injection h2 with h2;omega
end
theorem uz (i o f:Int) (c:Option Addr) (b a:Nat) (w:DF):(GI 26 #[(0,.int .i64 6),(1,.int .i64 i),(2,.int .i64 o),(5,.int .i64 f),(7,.slice c b a)]).run DE w=.ok (.agg #[.int .i64 6,.int .i64 i,.int .i64 o,.slice none 0 0,.slice none 0 0,.int .i64 f,.int .i64 0,.slice c b a,.int .i64 0]) w:=run_build w _ _ _ (by kernel_rfl)
theorem uA (b:Nat) (N Q:Nat->Prop) (s:eb) (v:DG) (l:Cp) (w:DF) (S:List Nat) (a:Nat->Addr) (hS:lE N Q w b s) (aj:ey s) (X:dH w v l) (o:aW l=0) (hk:l.kind=5) (he:kz S a w) (s1:1∈S) (s3:3∈S) (s4:4∈S) (s7:7∈S) (s8:8∈S) (F:dv s l.obj=none):
  DN DE 39 #[.pointer (some ⟨b,0,none⟩),v] w fun e w'=>AA w (fp s l) e w':=by
 have HL:=aa X;obtain⟨aS,vp,vs,vb,L,rfl,ab⟩:=X;obtain rfl:=ab.eq;obtain⟨m,sb,mp,D⟩:=hS;have ac:=D.none F;have aw:Hid (fp s l=dO l 11):=aa (by unfold fp;rw[F];rfl);obtain⟨j,g⟩:=exq ((w.alloc (.cells (cL l vp vs vb).toArray 26)).alloc (.cells zL 26));have A:az w j:=by rw[g];exact(ae _ _).trans (ae _ _)
 have al:j.heap.size=w.heap.size+1+1:=by rw[g,DO,DO]
 have y:av j w.heap.size (cL l vp vs vb):=by rw[g];exact(av.box w 26 (cg _ _ _ _)).ext (ae _ _)
 have z:av j (w.heap.size+1) zL.toList:=by rw[g];exact gy w _ zL.toList _ _ (fun h=>by cases h)
 obtain⟨V,hR0⟩:=exq (w.heap.size+1);obtain⟨P0,C⟩:=exq w.heap.size;rw[<-hR0]at z;rw[<-C]at y;have ao:=aa A;have p:=aa y;have K:=aa z;have q:Hid (P0=w.heap.size/\V=w.heap.size+1/\j.heap.size=w.heap.size+1+1):=aa ⟨C,hR0,al⟩;have r:=D.ext A;have Y:=r.bx.cell (i:=0) (v:=.map (some m)) rfl;have Z:=r.bx.lt;have H:=p.cell (i:=2) (v:=.int .i64 l.obj) rfl;have am:=p.lt;have x:Hid (∀n,az j n->(GG 84 (.map (some m)) (.int .i64 l.obj) true).run DE n=.ok (.tuple #[.slice none 0 0,.bool false]) n):=aa fun n h2=>by
  have hz:(zeroValue 22).run DE n=.ok (.slice none 0 0) n:=by first | rfl | kernel_rfl | (simp[go_sem];done)
  have h:=(r.mt.ext h2).lookup (P:=DE) Ga FR hz l.obj;rw[ac]at h;exact h
 have HG:=aa (DT he (DT s1 (DT s3 (DT s4 (DT s7 s8)))));obtain⟨oj,ai⟩:=exq l.obj;rw[<-ai]at x H;unfold cL at g;have aI:=DT aj (DT o hk);clear aI aj ab D ac o hk he F A y z r al hR0 C ai;show DN DE 39 #[.pointer (some ⟨b,0,none⟩),.agg #[.int .i64 l.kind,.int .i64 l.id,.int .i64 l.obj,vp,vs,.int .i64 l.Cq,.int .i64 l.Cs,vb,.int .i64 l.code]] w _;go_enter Tryz.func39,Tryz.ntmps39
 go_wp2_with fail
 rw[<-g];rw[show w.heap.size+1=V from q.out.2.1.symm,show w.heap.size=P0 from q.out.1.symm];clear g;apply ay (az) (fun _ _ _=>True) 12 [10,11,12,13,14,15,16,9,17,18,5,6] [ar _,ar _,ar _,ar _,ar _,ar _,ar _,ar _,ar _,ar _,ar _,ar _] (fun w=>DI _ w) (fun a b c h k=>az.trans h k) (by kernel_rfl) (by kernel_rfl) (by kernel_rfl) (by kernel_rfl);case hsteps=>
  refine⟨?_,?_,?_,?_,?_,?_,?_,?_,?_,?_,?_,?_,trivial⟩;all_goals
   intro d ev I f R T U af G hd;replace T:=aa T;replace R:=aa R;replace U:=aa U;replace af:=aa af;have e0:=G 0 (by decide);have e3:=G 3 (by decide);clear G;simp only[sB]at e0 e3;simp only[sG]at hd;have o:=(aD f).1;have c0:=(o _ 0 Z).trans Y;have c2:=(o _ 2 am).trans H;have lk:=x _ f;simp only[DP,if_true];go_simp;first | exact⟨DI _ _,rfl,trivial⟩ | exact⟨DI _ _,rfl⟩ | exact DI _ _
 case hmono=>exact mR
 case hR0=>exact(DI _ _).drew
 case hend=>
  intro u I f hJ hend;simp only[sE]at hend;simp only[sF,hend];have t:Hid (az w I):=aa (ao.trans f);have J:=aa (p.ext f);have M:=aa (K.ext f);obtain⟨W,E⟩:=exq I;rw[<-E]at t J M⊢;have aP:Hid (w.heap.size+2<=W.heap.size):=aa (by rw[E];have:=f.size;have:=q.out;omega);clear f hend hJ Y Z H am p K x E;have au:=aa (J.load (P:=DE) DQ rfl (by kernel_rfl))
  go_wp2_with refine ak rfl au ?_
  refine(dP _ l 11 W (HL.ext t)).mono ?_;rintro e w9 ⟨rfl,B⟩;have ap:=aa B;have O:=aa (M.ext B);clear B;have ax:=aa (O.store (P:=DE) (cs':=cL (dO l 11) ah ah ah) rfl (bk ⟨_,_,_,rfl⟩ ⟨_,_,_,rfl⟩ ⟨_,_,_,rfl⟩) (ty:=26) (by kernel_rfl));have an:=aa (O.set (cs':=cL (dO l 11) ah ah ah) rfl)
  go_wp2_with refine ag rfl rfl ax ?_
  refine DK (v:=.agg (cL (dO l 11) ah ah ah).toArray) (aG rfl rfl (an.loadVar (P:=DE) DQ rfl (by kernel_rfl))) rfl ?_;rw[aw.out];exact⟨_,_,_,_,rfl,bZ.nil _ _ _ _ _ _ _ _,aE _ _ _ _ (t.trans ap) (by have:=q.out;omega)⟩
 case hJ0=>trivial
theorem uB (b:Nat) (N Q:Nat->Prop) (s:eb) (v:DG) (l:Cp) (w:DF) (S:List Nat) (a:Nat->Addr) (hS:lE N Q w b s) (cd:ey s) (hL:dH w v l) (hc:aW l=0) (O:l.kind=5) (he:kz S a w) (s1:1∈S) (s3:3∈S) (s4:4∈S) (s7:7∈S) (s8:8∈S) (all:List (List Int)) (ha:dv s l.obj=some all):
  DN DE 39 #[.pointer (some ⟨b,0,none⟩),v] w fun e w'=>AA w (fp s l) e w':=by
 have HL:=aa hL;obtain⟨cY,vp,vs,vb,L,rfl,b0⟩:=hL;obtain rfl:=b0.eq;obtain⟨m,sb,mp,hR⟩:=hS;obtain⟨v0,b6,bt⟩:=hR.some ha;obtain⟨b9,ca,cb⟩:=cd.get ha;obtain⟨⟨cH,cI⟩,b7,cJ⟩:=wC hc O;obtain⟨bl,U,_,_,cK,b8,cG,bW,_,_⟩:=bt.el (i:=0) (by omega);subst cK;obtain⟨n,W⟩:=exq all.length;have ab:=aa (DT W cb);have cx:=aa bt.CB;have cT:=aa bW;have cu:Hid ((n:Int)<=l.Cq->fp s l=dO l 1):=aa fun q=>by unfold fp;rw[ha];simp only;rw[if_pos (by rw[<-W];exact q)];rfl
 have cs:Hid (¬(n:Int)<=l.Cq->aW (kD l all)=0->fp s l=kD l all):=aa fun q q2=>by unfold fp;rw[ha];simp only;rw[if_neg (by rw[<-W];exact q),if_pos q2]
 have cv:Hid (¬(n:Int)<=l.Cq->¬aW (kD l all)=0->fp s l=dO l 3):=aa fun q q2=>by unfold fp;rw[ha];simp only;rw[if_neg (by rw[<-W];exact q),if_neg q2];rfl
 rw[<-W]at b8 b9 ca;have Hn:Hid (1<=n/\n<=512/\n<=U/\U<=DV):=aa (by omega);obtain⟨W1,V⟩:=exq ((w.alloc (.cells (cL l vp vs vb).toArray 26)).alloc (.cells zL 26));have bi:az w W1:=by rw[V];exact(ae _ _).trans (ae _ _)
 have ci:W1.heap.size=w.heap.size+1+1:=by rw[V,DO,DO]
 have bg:av W1 w.heap.size (cL l vp vs vb):=by rw[V];exact(av.box w 26 (cg _ _ _ _)).ext (ae _ _)
 have bh:av W1 (w.heap.size+1) zL.toList:=by rw[V];exact gy w _ zL.toList _ _ (fun h=>by cases h)
 obtain⟨R0,hR0⟩:=exq (w.heap.size+1);obtain⟨P0,bj⟩:=exq w.heap.size;rw[<-hR0]at bh;rw[<-bj]at bg;have cq:=aa bi;have aP:=aa bg;have bE:=aa bh;have I:Hid (P0=w.heap.size/\R0=w.heap.size+1/\W1.heap.size=w.heap.size+1+1):=aa ⟨bj,hR0,ci⟩;have aT:=hR.ext bi;have bU:=aT.bx.cell (i:=0) (v:=.map (some m)) rfl;have bX:=aT.bx.lt;have aq:=aP.cell (i:=2) (v:=.int .i64 l.obj) rfl;have bw:=aP.lt;have a9:Hid (∀o,az W1 o->(GG 84 (.map (some m)) (.int .i64 l.obj) true).run DE o=.ok (.tuple #[.slice (some ⟨bl,0,none⟩) n U,.bool true]) o):=aa fun o h2=>by
  have hz:(zeroValue 22).run DE o=.ok (.slice none 0 0) o:=by first | rfl | kernel_rfl | (simp[go_sem];done)
  have h:=(aT.mt.ext h2).lookup (P:=DE) Ga FR hz l.obj;rw[b6,<-W]at h;exact h
 have Z:=aa (DT he (DT s1 (DT s3 (DT s4 (DT s7 s8)))));obtain⟨oj,cc⟩:=exq l.obj;rw[<-cc]at a9 aq;unfold cL at V;clear b0 hR b6 cd hc O he ha bi bg bh aT ci hR0 bj cc bt b9 ca cb bW W b8 cG;show DN DE 39 #[.pointer (some ⟨b,0,none⟩),.agg #[.int .i64 l.kind,.int .i64 l.id,.int .i64 l.obj,vp,vs,.int .i64 l.Cq,.int .i64 l.Cs,vb,.int .i64 l.code]] w _;go_enter Tryz.func39,Tryz.ntmps39
 go_wp2_with fail
 rw[<-V];rw[show w.heap.size+1=R0 from I.out.2.1.symm,show w.heap.size=P0 from I.out.1.symm];clear V;apply ay (az) (fun _ _ _=>True) 12 [10,11,12,13,14,15,16,9,17,18,5,6] [ar _,ar _,ar _,ar _,ar _,ar _,ar _,ar _,ar _,ar _,ar _,ar _] (fun w=>DI _ w) (fun a b c h k=>az.trans h k) (by kernel_rfl) (by kernel_rfl) (by kernel_rfl) (by kernel_rfl);case hsteps=>
  refine⟨?_,?_,?_,?_,?_,?_,?_,?_,?_,?_,?_,?_,trivial⟩;all_goals
   intro d ev A t E T ad aN K g;replace T:=aa T;replace E:=aa E;replace ad:=aa ad;replace aN:=aa aN;have e0:=K 0 (by decide);have e3:=K 3 (by decide);clear K;simp only[sB]at e0 e3;simp only[sG]at g;have hc:=(aD t).1;have c0:=(hc _ 0 bX).trans bU;have c2:=(hc _ 2 bw).trans aq;have lk:=a9 _ t;simp only[DP,if_true];go_simp;first | exact⟨DI _ _,rfl,trivial⟩ | exact⟨DI _ _,rfl⟩ | exact DI _ _
 case hmono=>exact mR
 case hR0=>exact(DI _ _).drew
 case hend=>
  intro u A t hJ hend;simp only[sE]at hend;simp only[sF,hend];have aB:Hid (az w A):=aa (cq.trans t);have H:=aa (aP.ext t);have aQ:=aa (bE.ext t);obtain⟨J,bn⟩:=exq A;rw[<-bn]at aB H aQ⊢;have aF:Hid (w.heap.size+2<=J.heap.size):=aa (by rw[bn];have:=t.size;have:=I.out;omega);clear t hend hJ bU bX aq bw aP bE a9 bn;have bv:=H.cell (i:=5) (v:=.int .i64 l.Cq) rfl;have cm:=H.cell (i:=6) (v:=.int .i64 l.Cs) rfl;by_cases b4:(n:Int)<=l.Cq
  ·have bb:=aa (cu b4);have ba:=aa (H.load (P:=DE) DQ rfl (by kernel_rfl))
   go_wp2_with refine ak rfl ba ?_
   refine(dP _ l 1 J (HL.ext aB)).mono ?_;rintro e Y ⟨rfl,z⟩;have a4:=aa z;have bH:=aa (aQ.ext z);clear z;have aJ:=aa (bH.store (P:=DE) (cs':=cL (dO l 1) ah ah ah) rfl (bk ⟨_,_,_,rfl⟩ ⟨_,_,_,rfl⟩ ⟨_,_,_,rfl⟩) (ty:=26) (by kernel_rfl));have aA:=aa (bH.set (cs':=cL (dO l 1) ah ah ah) rfl)
   go_wp2_with refine ag rfl rfl aJ ?_
   refine DK (v:=.agg (cL (dO l 1) ah ah ah).toArray) (aG rfl rfl (aA.loadVar (P:=DE) DQ rfl (by kernel_rfl))) rfl ?_;rw[bb.out];exact⟨_,_,_,_,rfl,bZ.nil _ _ _ _ _ _ _ _,aE _ _ _ _ (aB.trans a4) (by have:=I.out;omega)⟩
  ·obtain⟨f,hf⟩:=En b7;obtain⟨ct,bp⟩:=En (show 0<=l.Cs by omega);have a6:=aa (cs (by omega));have a8:=aa (cv (by omega));obtain⟨p,aK⟩:=exq ((all.drop f).take ct);have ap:kD l all=⟨6,l.id,l.obj,[],[],f,0,p,0⟩:=by unfold kD;rw[aK,hf,bp,Eo,Eo]
   rw[ap]at a6 a8;obtain⟨B,b1⟩:∃B:Nat,B=min (f+ct) n:=⟨_,rfl⟩;have c7:min ((f:Int)+(ct:Int)) (n:Int)=(B:Int):=by omega
   have bs:f < n:=by omega
   have hq:p.length=B - f:=by rw[aK,DX,DR,<-ab.out.1];omega
   have b3:f < B:=by omega
   have ch:bf w (.slice (some ⟨bl,f,none⟩) (B - f) (U - f)) p:=by
    have h1:=bf.drop cx f (by rw[<-ab.out.1];exact bs);have h2:=bf.take h1 (B - f) (by rw[DR,<-ab.out.1];omega);rw[DY]at h2;have e:(all.drop f).take (B - f)=p:=by
     rw[aK,b1];by_cases q:f+ct<=n
     ·rw[Nat.min_eq_left q,show f+ct - f=ct by omega]
     ·rw[Nat.min_eq_right (by omega),DW (by rw[DR,<-ab.out.1];omega),DW (by rw[DR,<-ab.out.1];omega)]
    rw[e]at h2;exact h2
   have bY:∀x∈p,x.length=16/\bA x:=fun x hx=>ab.2 x (List.mem_of_mem_drop (List.mem_of_mem_take (by rw[aK]at hx;exact hx)))
   have ac:=aa (DT hq (DT ch bY));rw[hf]at bv b4 b7 cJ;rw[bp]at cm cH cI;have cl:=H.cell (i:=1) (v:=.int .i64 l.id) rfl;have aq:=H.cell (i:=2) (v:=.int .i64 l.obj) rfl;have bw:=H.lt;have c6:¬(n:Int)<=(f:Int):=by omega
   have c4:(f:Int)<=(B:Int):=by omega
   have c3:(B:Int)<=(U:Int):=by have:=Hn.out;omega
   have cF:=Hn.2.2.2;have cZ:¬(U=f):=by have:=Hn.out;omega
   have c8:=Hn.2.1;have bB:Hid (∀o,Kq (fun _=>False) J o->DN DE 48 #[.slice (some ⟨bl,f,none⟩) (B - f) (U - f)] o fun e w'=>Ax p o e w'):=aa fun o O=>mh _ p o (ac.2.1.ext (aB.trans (O.ext fun _ q=>q.elim))) (fun x hx=>(ac.2.2 x hx).2) (by rw[ac.out.1];have:=Hn.out;omega) (fun x hx=>by have:=(ac.2.2 x hx).1;omega)
   have bN:Hid (∀o,Kq (fun _=>False) J o->o.cell? ⟨P0,1,none⟩=some (.int .i64 l.id)/\o.cell? ⟨P0,2,none⟩=some (.int .i64 l.obj)/\o.cell? ⟨P0,5,none⟩=some (.int .i64 f)):=aa fun o O=>⟨O.cell (fun q=>q) cl,O.cell (fun q=>q) aq,O.cell (fun q=>q) bv⟩
   have cS:Hid (f < B/\f < n):=aa ⟨b3,bs⟩;obtain⟨q,cf⟩:=exq (B - f);have bO:=aa cf;unfold DV at cF;clear aK ap b1 bs hq ch bY b3 hf bp cf cl aq
   go_wp2_with fail
   clear bv cm;apply ay (Kq (fun _=>False)) (JF p l.id l.obj (f:Int) J.heap.size q) 14 [40,41,42,43,44,45,46,47,48,49,50,51,52,8] [ar _,ar _,ar _,ar _,ar _,ar _,ar _,ar _,ar _,ar _,ar _,bK,bK,bK] (fun w=>Kq.refl w) (fun a b c h k=>Kq.trans h k) (by kernel_rfl) (by kernel_rfl) (by kernel_rfl) (by kernel_rfl);case hsteps=>
    refine⟨?_,?_,?_,?_,?_,?_,?_,?_,?_,?_,?_,?_,?_,?_,trivial⟩;all_goals
     intro d ev A t E T ad aN K g;replace T:=aa T;replace E:=aa E;replace ad:=aa ad;replace aN:=aa aN;have e3:=K 3 (by decide);have e5:=K 5 (by decide);have e7:=K 7 (by decide);clear K;simp only[sB]at e3 e5 e7;simp only[sG]at g;have q3:=bN _ t;have c1:=q3.1;have c2:=q3.2.1;have c5:=q3.2.2;clear q3;rw[if_pos (rfl:DP _ _=true)];first
     | (have h1:=E.a (T 11 (by kernel_rfl));obtain⟨g9,M9,bV,_⟩:=h1;(with_reducible refine jC ?_ ?_ ?_ ?_ ?_ (uz l.id l.obj (f:Int) (some ⟨g9,0,none⟩) q q A) ?_);exact fun w=>Kq.refl w;exact(by first | ((repeat(first | exact g | exact g.2 | replace g:=g.1));done) | (repeat(first | exact g | exact g.1 | replace g:=g.2)));exact(by first | ((repeat(first | exact g | exact g.2 | replace g:=g.1));done) | (repeat(first | exact g | exact g.1 | replace g:=g.2)));exact(by first | ((repeat(first | exact g | exact g.2 | replace g:=g.1));done) | (repeat(first | exact g | exact g.1 | replace g:=g.2)));exact bV;exact⟨trivial,E.CF (T 11 (by kernel_rfl)) (by rw[bV])⟩)
     | (go_simp;first | exact⟨Kq.refl _,rfl,E.same (by decide)⟩ | (go_at_call 48;(with_reducible refine(bB.out A t).mono ?_);rintro e o ⟨M,rfl,k1,k2,k3,k4⟩;exact⟨_,rfl,Kq.AI k4,trivial,E.call (ad 12 (by kernel_rfl)) (by rw[ac.out.1,bO.out]) k1 k2 k3 k4⟩) | exact⟨Kq.AI (ae _ _),trivial,E.make _⟩ | exact⟨DI _ _,rfl,HJ.same (by decide) E⟩)
   case hmono=>exact mR
   case hR0=>exact Kq.drew _
   case hend=>
    intro u A t hJ hend;simp only[sE]at hend;simp only[sF,hend];obtain⟨D,aU,bR,hD⟩:=hJ.al rfl;obtain⟨_,bu⟩:=hJ.bd rfl;obtain⟨g9,M,cj,b5,k1,k2,k3,k4,k5⟩:=hJ.a rfl;rw[cj]at bu k1;have bJ:Hid (az w A):=aa (aB.trans (t.ext fun _ q=>q.elim));have bC:=aa (H.ext (t.ext fun _ q=>q.elim));have bF:=aa (aQ.ext (t.ext fun _ q=>q.elim));have F:Hid (Pk A g9 1 (.slice (some ⟨g9,0,none⟩) q q) M.length (aw cB M)/\(∀y∈M,iI (fun k=>g9 < k/\k≠D) A y)/\M.map (·.2)=p/\g9≠D/\J.heap.size<=g9/\J.heap.size<=D):=aa ⟨k1,fun y hy=>br _ _ _ _ _ (k2 y hy) fun j C _=>⟨⟨C.1,C.2 D rfl aU⟩,rfl⟩,k3,k5 D rfl aU,b5,hD⟩;have a1:=aa bR;simp only[aU,bu];clear t hend hJ aU cj bu bR hD b5 k1 k2 k3 k4 k5 bB bN H aQ;have bP:=aa (a1.store (P:=DE) (cs':=cL ⟨6,l.id,l.obj,[],[],f,0,p,0⟩ ah ah (.slice (some ⟨g9,0,none⟩) q q)) rfl (bk ⟨_,_,_,rfl⟩ ⟨_,_,_,rfl⟩ ⟨_,_,_,rfl⟩) (ty:=26) (by kernel_rfl));have ax:=aa (a1.set (cs':=cL ⟨6,l.id,l.obj,[],[],f,0,p,0⟩ ah ah (.slice (some ⟨g9,0,none⟩) q q)) rfl);have R:Hid (Kq (fun k=>k=D) A (A.setCells D 0 (cL ⟨6,l.id,l.obj,[],[],f,0,p,0⟩ ah ah (.slice (some ⟨g9,0,none⟩) q q)))):=aa ((Kq.refl A).setCells (Q:=fun k=>k=D) rfl 0 _)
    go_wp2_with (with_reducible refine aC (ty:=26) ?_)
    refine au ?_;refine ag rfl rfl bP ?_;obtain⟨w8,ck⟩:=exq (A.setCells D 0 (cL ⟨6,l.id,l.obj,[],[],f,0,p,0⟩ ah ah (.slice (some ⟨g9,0,none⟩) q q)));rw[<-ck]at ax R⊢;have hX:∀X,X < J.heap.size->X≠D:=fun X h1 q=>by have:=F.2.2.2.2.2;omega
    have a3:Hid (az w w8):=aa (bJ.trans' (N:=w.heap.size) (R.mono fun j _ q=>by have:=F.2.2.2.2.2;have:=aF.out;omega) (DH _));have bD:=aa (R.box (hX P0 (by have:=I.out;have:=aF.out;omega)) bC);have bG:=aa (R.box (hX R0 (by have:=I.out;have:=aF.out;omega)) bF)
    have aR:Hid (bZ (fun k=>w.heap.size+2<=k) w8 ⟨6,l.id,l.obj,[],[],f,0,p,0⟩ ah ah (.slice (some ⟨g9,0,none⟩) q q) []):=aa ⟨aS.nil _,aS.nil _,fun x hx=>(by cases hx),rfl,M,by
     have h:=F.1.AT;refine aS.By (R.AT ?_ fun j C r=> ?_) fun j C _=> ?_
     ·have e:M.length=q:=by have h1:=congrArg EW F.2.2.1;rw[D2,ac.out.1,<-bO.out]at h1;exact h1
      rw[e]at h⊢;exact h
     ·have e:g9=j:=Fk C;exact F.2.2.2.1 (e.trans r)
     ·have e:g9=j:=Fk C
      have:=F.2.2.2.2.1;have:=aF.out;omega,fun y hy=>br _ _ _ _ _ (F.2.1 y hy) fun j C hl=>⟨by have:=F.2.2.2.2.1;have:=aF.out;have:=C.1;omega,R.block j hl C.2⟩,F.2.2.1⟩
    have a7:Hid (dH w8 (.agg (cL ⟨6,l.id,l.obj,[],[],f,0,p,0⟩ ah ah (.slice (some ⟨g9,0,none⟩) q q)).toArray) ⟨6,l.id,l.obj,[],[],f,0,p,0⟩):=aa ⟨_,_,_,_,_,rfl,aR.Cr⟩;have aH:=aa (ax.load (P:=DE) DQ rfl (by kernel_rfl));clear hX ck bP R bC bF bJ a1 F;obtain⟨G,ap⟩:∃G:Cp,G=⟨6,l.id,l.obj,[],[],f,0,p,0⟩:=⟨_,rfl⟩;rw[<-ap]at aR a7 aH ax a6 a8;have cR:=aa ap;clear ap
    go_wp2_with refine ak rfl aH ?_
    refine(gW _ G w8 S a a7 (Z.1.ext a3) Z.2.1 Z.2.2.1 Z.2.2.2.1 Z.2.2.2.2.1 Z.2.2.2.2.2).mono ?_;rintro e Y ⟨rfl,z⟩;have a5:Hid (az w Y):=aa (a3.trans z);have cp:=aa (bD.ext z);have a2:=aa (bG.ext z);have co:=aa (ax.ext z);have cr:Hid (bZ (fun k=>w.heap.size+2<=k) Y G ah ah (.slice (some ⟨g9,0,none⟩) q q) []):=aa (aR.kept fun j C hl=>⟨C,z.block j hl⟩);clear z aH bD bG ax aR a7 a3;by_cases ao:aW G=0
    ·have Hr:=aa (a6 ao);rw[ao,ft];have aH:=aa (co.load (P:=DE) DQ rfl (by kernel_rfl));have aJ:=aa (a2.store (P:=DE) (cs':=cL G ah ah (.slice (some ⟨g9,0,none⟩) q q)) rfl (bk ⟨_,_,_,rfl⟩ ⟨_,_,_,rfl⟩ ⟨_,_,_,rfl⟩) (ty:=26) (by kernel_rfl));have aA:=aa (a2.set (cs':=cL G ah ah (.slice (some ⟨g9,0,none⟩) q q)) rfl);have bL:Hid (Kq (fun k=>k=R0) Y (Y.setCells R0 0 (cL G ah ah (.slice (some ⟨g9,0,none⟩) q q)))):=aa ((Kq.refl Y).setCells (Q:=fun k=>k=R0) rfl 0 _);clear ao
     go_wp2_with first | refine ak rfl aH ?_ | refine ag rfl rfl aJ ?_
     refine DK (v:=.agg (cL G ah ah (.slice (some ⟨g9,0,none⟩) q q)).toArray) (aG rfl rfl (aA.loadVar (P:=DE) DQ rfl (by kernel_rfl))) rfl ?_;rw[Hr.out];exact⟨_,_,_,_,rfl,cr.kept fun j C hl=>⟨by omega,bL.block j hl (fun r=>by have:=I.out;omega)⟩,a5.trans' (N:=w.heap.size) (bL.mono fun j _ r=>by have:=I.out;omega) (DH _)⟩
    ·have bb:=aa (a8 ao);obtain⟨er,b2⟩:∃er,oX a (aW G)=.iface 233 (.pointer (some er)):=⟨_,dt a _ ao⟩;rw[b2];clear ao b2;have ba:=aa (cp.load (P:=DE) DQ rfl (by kernel_rfl))
     go_wp2_with refine ak rfl ba ?_
     refine(dP _ l 3 Y (HL.ext a5)).mono ?_;rintro e wa ⟨rfl,z⟩;have a4:=aa z;have bI:=aa (a2.ext z);clear z;have aJ:=aa (bI.store (P:=DE) (cs':=cL (dO l 3) ah ah ah) rfl (bk ⟨_,_,_,rfl⟩ ⟨_,_,_,rfl⟩ ⟨_,_,_,rfl⟩) (ty:=26) (by kernel_rfl));have aA:=aa (bI.set (cs':=cL (dO l 3) ah ah ah) rfl)
     go_wp2_with refine ag rfl rfl aJ ?_
     refine DK (v:=.agg (cL (dO l 3) ah ah ah).toArray) (aG rfl rfl (aA.loadVar (P:=DE) DQ rfl (by kernel_rfl))) rfl ?_;rw[bb.out];exact⟨_,_,_,_,rfl,bZ.nil _ _ _ _ _ _ _ _,aE _ _ _ _ (a5.trans a4) (by have:=I.out;omega)⟩
   case hJ0=>exact JF.start (Kq.drew (Q:=fun _=>False) J).size
 case hJ0=>trivial
theorem xj (b:Nat) (N Q:Nat->Prop) (s:eb) (v:DG) (l:Cp) (w:DF) (S:List Nat) (a:Nat->Addr) (d:lE N Q w b s) (h:ey s) (c:dH w v l) (f:aW l=0) (g:l.kind=5) (he:kz S a w) (s1:1∈S) (i:3∈S) (j:4∈S) (k:7∈S) (m:8∈S):
  DN DE 39 #[.pointer (some ⟨b,0,none⟩),v] w fun e w'=>AA w (fp s l) e w':=by
 cases ha:dv s l.obj with
 | some all=>exact uB b N Q s v l w S a d h c f g he s1 i j k m all ha
 | none=>exact uA b N Q s v l w S a d h c f g he s1 i j k m ha
theorem xk (b:Nat) (N Q:Nat->Prop) (s:eb) (v:DG) (l:Cp) (w:DF) (S:List Nat) (a:Nat->Addr) (f:lE N Q w b s) (n:ey s) (d:dH w v l) (h:aW l=0) (k:l.kind=3) (j:fO w) (he:kz S a w) (s1:1∈S):
  DN DE 38 #[.pointer (some ⟨b,0,none⟩),v] w fun e w'=>AA w (gB s l) e w':=by
 cases ha:dv s l.obj with
 | some all=>exact uy b N Q s v l w S a f n d h k j he s1 all ha
 | none=>obtain⟨m,o,mp,c⟩:=f;refine(xd b m o mp v l w ⟨c.bx.cell (i:=0) rfl,c.bx.cell (i:=1) rfl⟩ c.mt d (c.none ha)).mono ?_;rintro e w' ⟨rfl,g⟩;rw[show gB s l=dO l 11 by unfold gB;rw[ha];rfl];exact⟨_,_,_,_,rfl,bZ.nil _ _ _ _ _ _ _ _,g⟩
def uC (N Q:Nat->Prop) (b:Nat) (s:eb) (l:Cp) (w:DF) (e:Ending) (w':DF):Prop:=∃vp vs vb L,e=.returned (.tuple #[.agg (cL (bO s l).1 vp vs vb).toArray,.bool (bO s l).2])/\bZ (fun k=>w.heap.size<=k) w' (bO s l).1 vp vs vb L/\lq N Q w w' b (du s l)
theorem lq.store {N Q:Nat->Prop} {w e n c:DF} {b a:Nat} {l:eb} (h:lq (fun i=>N i\/i=a) Q e n b l) (d:az w e) (z:w.heap.size<=a/\a < e.heap.size) (j:∀i,(Q i\/i=b)->i < w.heap.size) (k:Kq (fun i=>i=a) n c):lq N Q w c b l:=by
 obtain⟨u,o,Q',⟨m,y,mp,h1⟩,h2,f,p,s,g,t⟩:=h;have v:Kq Q w c:=by
  have x:Kq (fun i=>Q i\/i=a) w c:=((Kq.AI d).trans (u.mono fun i _ q=>.inl q)).trans (k.mono fun i _ q=>.inr q);exact x.mono fun i A q=>by
   rcases q with q | q
   ·exact q
   ·omega
 refine⟨v,o,Q',⟨m,y,mp,h1.kept k (fun i q=>⟨f i (.inr q),fun r=> ?_,fun r=> ?_⟩) fun i q=>.inl q⟩,fun i q=> ?_,fun i q=>f i (.inl q),p,s,fun i q=> ?_,fun i q=>D9 (t i q) k.size⟩
 ·rcases g i r with r | r
  ·have:=j i (.inl r);omega
  ·omega
 ·have:=j i (.inr r);omega
 ·rcases h2 i q with q | q
  ·rcases q with q | q
   ·exact .inl q
   ·exact .inr (by omega)
  ·exact .inr (D0 d.size q)
 ·rcases g i q with q | q
  ·exact .inl q
  ·exact .inr (D0 d.size q)
theorem qc (b:Nat) (N Q:Nat->Prop) (s:eb) (v:DG) (l:Cp) (w:DF) (S:List Nat) (a:Nat->Addr) (hS:lE N Q w b s) (aK:ey s) (aG:∀i,Q i->N i) (aH:∀i,N i->i < w.heap.size) (hL:xf N w v l) (hg:fO w) (he:kz S a w) (s1:1∈S) (s3:3∈S) (s4:4∈S) (s7:7∈S) (s8:8∈S):
  DN DE 10 #[.pointer (some ⟨b,0,none⟩),v] w fun e w'=>uC N Q b s l w e w':=by
 have HL:=aa hL;have U:=aa hS;have ac:=aa hL.Dz;have x:=aa (DT hg (DT he (DT s1 (DT s3 (DT s4 (DT s7 s8))))));have H:=aa (DT aG (DT aH aK));have aD:Hid (∀i,(Q i\/i=b)->i < w.heap.size):=aa fun i hi=>by
  obtain⟨m,sb,mp,Z⟩:=hS;rcases hi with q | q
  ·exact Z.sz i q
  ·rw[q];exact Z.bx.lt
 obtain⟨vp,vs,vb,L,rfl,aU⟩:=hL;obtain⟨J,E⟩:=exq ((w.alloc (.cells (cL l vp vs vb).toArray 26)).alloc (.cells zL 26));have Y:az w J:=by rw[E];exact(ae _ _).trans (ae _ _)
 have aL:J.heap.size=w.heap.size+1+1:=by rw[E,DO,DO]
 have X:av J w.heap.size (cL l vp vs vb):=by rw[E];exact(av.box w 26 (cg _ _ _ _)).ext (ae _ _)
 have al:av J (w.heap.size+1) zL.toList:=by rw[E];exact gy w _ zL.toList _ _ (fun h=>by cases h)
 obtain⟨c,hR0⟩:=exq (w.heap.size+1);obtain⟨P0,ao⟩:=exq w.heap.size;rw[<-hR0]at al;rw[<-ao]at X;have ay:=aa Y;have aq:=aa X;have aw:=aa al;have o:Hid (P0=w.heap.size/\c=w.heap.size+1/\J.heap.size=w.heap.size+1+1):=aa ⟨ao,hR0,aL⟩;have aC:=aa (X.load (P:=DE) DQ rfl (by kernel_rfl));have ax:=aa (gW _ l J S a (ac.ext Y) (he.ext Y) s1 s3 s4 s7 s8);unfold cL at E;clear hS aK aG aH hg he aU Y aL X al hR0 ao;show DN DE 10 #[.pointer (some ⟨b,0,none⟩),.agg #[.int .i64 l.kind,.int .i64 l.id,.int .i64 l.obj,vp,vs,.int .i64 l.Cq,.int .i64 l.Cs,vb,.int .i64 l.code]] w _;go_enter Tryz.func10,Tryz.ntmps10
 go_wp2_with (with_reducible refine aA (ty:=26) ?_)
 rw[<-E];rw[show w.heap.size+1=c from o.out.2.1.symm,show w.heap.size=P0 from o.out.1.symm];clear E;refine au ?_;refine ak rfl aC ?_
 go_wp2_with fail
 refine ax.mono ?_;rintro e d ⟨rfl,O⟩;have n:Hid (az w d):=aa (ay.trans O);have ar:=aa (aq.ext O);have M:=aa (aw.ext O);have I:Hid (w.heap.size+2<=d.heap.size):=aa (by have:=O.size;have:=o.out;omega);have aZ:=ar.cell (i:=0) (v:=.int .i64 l.kind) rfl;have ad:=aa (ar.load (P:=DE) DQ rfl (by kernel_rfl));have aS:Hid (∀f,lq (fun i=>N i\/i=c) Q d f b (fX s l)->∀G,Kq (fun i=>i=c) f G->lq N Q w G b (fX s l)):=aa fun f K G h4=>K.store n (by have:=o.out;have:=I.out;omega) aD h4
 have W:Hid (∀G,az w G->lq N Q w G b s):=aa fun G h4=>lE.go U H.1 H.2.1 h4
 have V:Hid (lE N Q d b s/\lE (fun i=>N i\/i=c) Q d b s/\xf (fun i=>N i\/i=c) d (.agg (cL l vp vs vb).toArray) l):=aa ⟨U.ext n,by
  obtain⟨m,sb,mp,Z⟩:=U.out
  exact⟨m,sb,mp,Z.kept (Q2:=fun _=>False) (Kq.AI n) (fun _ q=>q.elim) fun i q=>by
   rcases q with q | q
   ·exact .inl q
   ·exact .inr (by have:=o.out;omega)⟩,HL.kept fun k hk T=>⟨fun q=>by
   rcases q with q | q
   ·exact hk q
   ·have:=o.out;omega,n.block k T⟩⟩
 clear O ax aC aq aw HL U ay;by_cases F:aW l=0
 ·rw[F,ft];have C:=aa F;clear F;by_cases h1:l.kind=1
  ·have p:Hid (bO s l=(eH s l,true)/\du s l=fX s l):=aa (by unfold bO du;rw[if_pos C.out,if_pos h1,if_pos ⟨C.out,h1⟩];exact⟨rfl,rfl⟩)
   have aE:=aa (xg b (fun i=>N i\/i=c) Q s _ l d V.2.1 (fun i q=>.inl (H.1 i q)) (fun i q=>by
    rcases q with q | q
    ·exact D9 (H.2.1 i q) n.size
    ·have:=o.out;have:=I.out;omega) V.2.2 C h1)
   go_wp2_with refine ak rfl ad ?_
   refine aE.mono ?_;rintro e f ⟨rfl,am⟩;have aR:=aa am;have g:=aa (am.1.box (fun q=>by have:=aD c (.inl q);have:=o.out;omega) M)
   have t:Hid (bZ (fun k=>w.heap.size<=k) f (eH s l) ah ah ah []):=aa (by
    unfold eH
    repeat' split
    all_goals exact bZ.nil _ _ _ _ _ _ _ _)
   clear am aE;have y:=aa (g.store (P:=DE) (cs':=cL (eH s l) ah ah ah) rfl (kA.one (t.Cr)) (ty:=26) (by kernel_rfl));have u:=aa (g.set (cs':=cL (eH s l) ah ah ah) rfl);have r:Hid (Kq (fun k=>k=c) f (f.setCells c 0 (cL (eH s l) ah ah ah))):=aa ((Kq.refl f).setCells (Q:=fun k=>k=c) rfl 0 _)
   go_wp2_with refine ag rfl rfl y ?_
   refine DK (v:=.tuple #[.agg (cL (eH s l) ah ah ah).toArray,.bool true]) (aj rfl rfl (u.loadVar (P:=DE) DQ rfl (by kernel_rfl)) rfl) rfl ?_;unfold uC;rw[p.out.1,p.out.2];refine⟨_,_,_,[],rfl,?_,aS _ aR _ r⟩;unfold eH
   repeat' split
   all_goals exact bZ.nil _ _ _ _ _ _ _ _
  by_cases K:l.kind=3
  ·have p:Hid (bO s l=(gB s l,true)/\du s l=s):=aa (by unfold bO du;rw[if_pos C.out,if_neg h1,if_pos K,if_neg (fun q=>h1 q.2)];exact⟨rfl,rfl⟩)
   go_wp2_with refine ak rfl ad ?_
   refine(xk b N Q s _ l d S a V.1 H.2.2 (ac.ext n) C K (x.1.ext n) (x.2.1.ext n) x.2.2.1).mono ?_;rintro e f ⟨A,B,z,L3,rfl,R,D⟩;have t:=aa R;have ab:=aa D;have g:=aa (M.ext D);clear R D;have y:=aa (g.store (P:=DE) (cs':=cL (gB s l) A B z) rfl (kA.one (t.Cr)) (ty:=26) (by kernel_rfl));have u:=aa (g.set (cs':=cL (gB s l) A B z) rfl);have r:Hid (Kq (fun k=>k=c) f (f.setCells c 0 (cL (gB s l) A B z))):=aa ((Kq.refl f).setCells (Q:=fun k=>k=c) rfl 0 _)
   go_wp2_with refine ag rfl rfl y ?_
   refine DK (v:=.tuple #[.agg (cL (gB s l) A B z).toArray,.bool true]) (aj rfl rfl (u.loadVar (P:=DE) DQ rfl (by kernel_rfl)) rfl) rfl ?_;unfold uC;rw[p.out.1,p.out.2];exact⟨_,_,_,_,rfl,t.kept fun j hj T=>⟨by have:=I.out;omega,r.block j T (fun q=>by have:=o.out;have:=I.out;omega)⟩,W _ ((n.trans ab).trans' (N:=w.heap.size) (r.mono fun j _ q=>by have:=o.out;omega) (DH _))⟩
  by_cases h5:l.kind=5
  ·have p:Hid (bO s l=(fp s l,true)/\du s l=s):=aa (by unfold bO du;rw[if_pos C.out,if_neg h1,if_neg K,if_pos h5,if_neg (fun q=>h1 q.2)];exact⟨rfl,rfl⟩)
   go_wp2_with refine ak rfl ad ?_
   refine(xj b N Q s _ l d S a V.1 H.2.2 (ac.ext n) C h5 (x.2.1.ext n) x.2.2.1 x.2.2.2.1 x.2.2.2.2.1 x.2.2.2.2.2.1 x.2.2.2.2.2.2).mono ?_;rintro e f ⟨A,B,z,L3,rfl,R,D⟩;have t:=aa R;have ab:=aa D;have g:=aa (M.ext D);clear R D;have y:=aa (g.store (P:=DE) (cs':=cL (fp s l) A B z) rfl (kA.one (t.Cr)) (ty:=26) (by kernel_rfl));have u:=aa (g.set (cs':=cL (fp s l) A B z) rfl);have r:Hid (Kq (fun k=>k=c) f (f.setCells c 0 (cL (fp s l) A B z))):=aa ((Kq.refl f).setCells (Q:=fun k=>k=c) rfl 0 _)
   go_wp2_with refine ag rfl rfl y ?_
   refine DK (v:=.tuple #[.agg (cL (fp s l) A B z).toArray,.bool true]) (aj rfl rfl (u.loadVar (P:=DE) DQ rfl (by kernel_rfl)) rfl) rfl ?_;unfold uC;rw[p.out.1,p.out.2];exact⟨_,_,_,_,rfl,t.kept fun j hj T=>⟨by have:=I.out;omega,r.block j T (fun q=>by have:=o.out;have:=I.out;omega)⟩,W _ ((n.trans ab).trans' (N:=w.heap.size) (r.mono fun j _ q=>by have:=o.out;omega) (DH _))⟩
  ·have p:Hid (bO s l=(dI,false)/\du s l=s):=aa (by unfold bO du;rw[if_pos C.out,if_neg h1,if_neg K,if_neg h5,if_neg (fun q=>h1 q.2)];exact⟨rfl,rfl⟩);have t:Hid (bZ (fun k=>w.heap.size<=k) d dI ah ah ah []):=aa (bZ.nil _ _ _ _ _ _ _ _);have g:=M;have y:=aa (g.store (P:=DE) (cs':=cL (dI) ah ah ah) rfl (kA.one (t.Cr)) (ty:=26) (by kernel_rfl));have u:=aa (g.set (cs':=cL (dI) ah ah ah) rfl);have r:Hid (Kq (fun k=>k=c) d (d.setCells c 0 (cL (dI) ah ah ah))):=aa ((Kq.refl d).setCells (Q:=fun k=>k=c) rfl 0 _)
   go_wp2_with refine ag rfl rfl y ?_
   refine DK (v:=.tuple #[.agg (cL (dI) ah ah ah).toArray,.bool false]) (aj rfl rfl (u.loadVar (P:=DE) DQ rfl (by kernel_rfl)) rfl) rfl ?_;unfold uC;rw[p.out.1,p.out.2];exact⟨_,_,_,[],rfl,bZ.nil _ _ _ _ _ _ _ _,W _ (n.trans' (N:=w.heap.size) (r.mono fun j _ q=>by have:=o.out;omega) (DH _))⟩
 ·have p:Hid (bO s l=(dI,false)/\du s l=s):=aa (by unfold bO du;rw[if_neg F,if_neg (fun q=>F q.1)];exact⟨rfl,rfl⟩);obtain⟨er,aI⟩:∃er,oX a (aW l)=.iface 233 (.pointer (some er)):=⟨_,dt a _ F⟩;rw[aI];clear F aI;have t:Hid (bZ (fun k=>w.heap.size<=k) d dI ah ah ah []):=aa (bZ.nil _ _ _ _ _ _ _ _);have g:=M;have y:=aa (g.store (P:=DE) (cs':=cL (dI) ah ah ah) rfl (kA.one (t.Cr)) (ty:=26) (by kernel_rfl));have u:=aa (g.set (cs':=cL (dI) ah ah ah) rfl);have r:Hid (Kq (fun k=>k=c) d (d.setCells c 0 (cL (dI) ah ah ah))):=aa ((Kq.refl d).setCells (Q:=fun k=>k=c) rfl 0 _)
  go_wp2_with refine ag rfl rfl y ?_
  refine DK (v:=.tuple #[.agg (cL (dI) ah ah ah).toArray,.bool false]) (aj rfl rfl (u.loadVar (P:=DE) DQ rfl (by kernel_rfl)) rfl) rfl ?_;unfold uC;rw[p.out.1,p.out.2];exact⟨_,_,_,[],rfl,bZ.nil _ _ _ _ _ _ _ _,W _ (n.trans' (N:=w.heap.size) (r.mono fun j _ q=>by have:=o.out;omega) (DH _))⟩
end Go.Proofs.Bl
