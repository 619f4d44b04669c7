/- Texts that stood apart, in one: LE4, LE5, LE6. -/
import Derived.Test.YtglenbikdahgjaaGreatDoorPr25
import Derived.Test.YtglenbikdahgjaaGreatDoorPr24
import Derived.Test.YtglenbikdahgjaaGreatDoorPr20
set_option maxRecDepth 100000
set_option maxHeartbeats 16000000
open And renaming intro->DT
open Bool renaming not_true->Ep
open Go renaming Calls->DN,Value->DG,World->DF,bodyPost_ret->DK,maxLen->DV
open Go.Region renaming wanted->DP
open Go.RowKit renaming intOf->Ef
open Go.RowKit.Below renaming refl->DI
open Int renaming eq_ofNat_of_zero_le->En,toNat_natCast->Eo
open List renaming append_assoc->Em,append_nil->Ew,length_append->DS,length_nil->EK,length_replicate->G4,length_singleton->Ez,map_append->EF,mem_cons->Es,not_mem_nil->ED,replicate->D7,set_set->FZ
open Nat renaming le_of_lt->F7,le_refl->DH,le_trans->D0
namespace Go.Proofs.Bl
open Go Go.RowKit Go.Proofs
open Go.Proofs.Tryz renaming func56->GK,ntmps56->Gu,prog->DE,underlying100->FO,underlying43->DU
theorem yz (v:DG) (r:List Int) (w:DF) (hR:Rd w .u8 v (4 :: r)) (f:bA r) (T:r.length+1<=8000):
  DN DE 56 #[v] w fun e w'=>kF (cy (fY 4 (cT 0 (bo 8 (false,r)).1) (cT 0 (bo 8 (bo 8 (false,r)).2).1) (bo 8 (bo 8 (false,r)).2).2)) w e w':=by
 obtain⟨g,o,c,n,X,Y,W1,W3,rfl,eA,hX,hY,ek,ac,dk,dz,dt,d8,fa,fo,fD,c9,fJ,fI,Hn,fH,fc⟩:=mC 4 hR f T;unfold DV at fc;obtain⟨pr,aD⟩:=exq (cy (fY 4 (cT 0 (bo 8 (false,r)).1) (cT 0 (bo 8 (bo 8 (false,r)).2).1) (bo 8 (bo 8 (false,r)).2).2));rw[<-aD];have bY:bA ((false,r):bB).2:=f;obtain⟨i,s1,y0,c9,eJ,d1,dP,bm⟩:=kb n X (nb:=8) (s:=((false,r):bB)) (by decide) (by decide) bY;rw[<-c9,<-eJ]at aD;clear c9 eJ;obtain⟨oo,s2,y1,eR,eK,d2,dQ,bd⟩:=kb n X (nb:=8) (s:=s1) (by decide) (by decide) bm;rw[<-eR,<-eK]at aD;clear eR eK;replace aD:pr=cy ((⟨4,i,oo,[],(bI qA (cj 1 s2).1.toNat (cj 1 s2).2).1,0,0,[],0⟩:Cp),(bI qA (cj 1 s2).1.toNat (cj 1 s2).2).2):=aD;obtain⟨cI,s3,y2,eL,d3,dR,eD,eQ⟩:=xu n X bd;rw[eL]at aD;clear eL;obtain⟨cn,rfl⟩:=En eQ.1;have e2:Hid (cn<=255):=aa (by have:=eQ.2;omega);simp only[Eo]at aD;obtain⟨bs,cY⟩:=exq ((bI qA cn s3).1);obtain⟨t4,c4⟩:=exq ((bI qA cn s3).2);rw[<-cY,<-c4]at aD;have eb:=aa (DT cY.symm c4.symm);clear cY c4;have af:=aa aD;clear aD;clear hR f T;go_enter GK,Gu
 go_wp2_with (with_reducible refine aA (ty:=5) ?_)
 refine au ?_;rw[<-eA,<-hX];clear eA hX
 go_wp2_with (with_reducible refine aC (ty:=43) ?_)
 refine au ?_;refine ag rfl rfl ek ?_;rw[<-hY];clear hY ek fa
 go_wp2_with fail
 refine(aY 4 1 7 W3).mono ?_;rintro e fR ⟨rfl,fk⟩;subst fk;rw[show wi 4 1 7=true from by decide,Ep];clear fo
 go_wp2_with fail
 refine(d1 _ dz).mono ?_;rintro e fr ⟨v0,rfl,O,N,J⟩;have dT:=aa O;have dv:=aa N;obtain⟨b1,d4,dn⟩:=fQ ac J dk d8 dt;clear O N J dz dk d8 dt
 go_wp2_with fail
 refine(dP _ _ dT).mono ?_;rintro e w' ⟨rfl,ad⟩;rw[ad];clear ad dT d1 dP;have qf:=b1.cell (i:=1) (v:=.int .i64 0) rfl;have ff:=b1.fz (i:=1) (show 1 < 9 by decide)
 go_wp2_with fail
 obtain⟨fO,bc⟩:=exq (fr.setCell ⟨Y,1,none⟩ (.int .i64 i));obtain⟨dj,dw,d5,dp⟩:=ik (cs':=cK 4 i 0 0 0 0) bc ac (by show 1 < 9;decide) rfl dv b1 d4 dn;rw[<-bc];clear bc qf ff dv d4 dn b1;refine(d2 _ dw).mono ?_;rintro e fs ⟨v1,rfl,O,N,J⟩;have dU:=aa O;have dx:=aa N;obtain⟨b2,d6,dq⟩:=fQ ac J dj d5 dp;clear O N J dw dj d5 dp
 go_wp2_with fail
 refine(dQ _ _ dU).mono ?_;rintro e w' ⟨rfl,ad⟩;rw[ad];clear ad dU d2 dQ;have qf:=b2.cell (i:=2) (v:=.int .i64 0) rfl;have ff:=b2.fz (i:=2) (show 2 < 9 by decide)
 go_wp2_with (with_reducible refine aA (ty:=3) ?_)
 obtain⟨fP,bc⟩:=exq (fs.setCell ⟨Y,2,none⟩ (.int .i64 oo));obtain⟨cu,dy,d7,dr⟩:=ik (cs':=cK 4 i oo 0 0 0) bc ac (by show 2 < 9;decide) rfl dx b2 d6 dq;rw[<-bc];clear bc qf ff dx d6 dq b2;refine au ?_;have qk:=cu.cell (i:=0) (v:=.int .i64 4) rfl
 go_wp2_with fail
 clear qk;refine(d3 _ dy).mono ?_;rintro e cr ⟨v2,rfl,O,N,J⟩;have dV:=aa O;have eX:=aa N;obtain⟨cv,e1,eW⟩:=fQ ac J cu d7 dr;clear O N J dy cu d7 dr
 go_wp2_with fail
 refine(dR _ _ dV).mono ?_;rintro e w' ⟨rfl,ad⟩;rw[ad];clear ad dV d3 dR;obtain⟨B,hB⟩:=exq cr.heap.size;have a0:Hid (Y < B/\B=cr.heap.size):=aa ⟨by rw[hB];exact cv.lt,hB⟩;clear hB;have dK:Hid (GP cS 3 ez B cr Y 4 ((cK 4 i oo 0 0 0).set 4 (.slice none 0 0)) (.slice none 0 0) []):=aa (GP.start cv rfl)
 go_wp2_with fail
 go_loopw [8] (fun x wr=>∃(m:Nat) (z:bB) (v':DG) (M:List Sv),x=.int .i64 m/\Hid (GP cS 3 ez B wr Y 4 ((cK 4 i oo 0 0 0).set 4 v') v' M/\fq n wr X z/\M.map cf++(bI qA m z).1=bs/\(bI qA m z).2=t4/\M.length+m<=255)/\Hid (Kq (fun k=>k=X\/k=Y\/B<=k) cr wr)) (fun x _=>(Ef x).toNat);case atStart=>exact⟨cn,s3,_,[],rfl,aa ⟨dK,eX,eb.1,eb.2,by have:=e2.out;simp only[EK];omega⟩,aa (Kq.refl _)⟩
 case round=>
  obtain⟨m,z,v',M,rfl,R,a9⟩:=hrel;have bQ:Hid (Kq (fun k=>w.heap.size<=k) w wr):=aa (e1.trans (a9.mono fun k _ q=>by have:=ac.out;have:=a0.out;omega));have bq:=aa (a9.box (by have:=ac.out;have:=a0.out;omega) eW);have a6:=aa R.2.1;have q2:=a6.bad;have qk:=R.1.box.cell (i:=0) (v:=.int .i64 4) rfl;obtain⟨sh,bg⟩:=exq z.1;rw[<-bg]at q2;have cc:=aa bg.symm;clear bg dK cv;by_cases hm:0 < m
  ·have fh:(0:Int) < (m:Int):=by omega
   cases sh
   ·clear qk;have aL:=j6 qA m z hm cc;have bY:=a6.Ct;have bM:=dD n X 2 z (by decide) (by decide);have bE:=kH z bY;have bm:=(dd (n:=2) (s:=z) bY).2;have bh:qA z=([((cj 2 z).1,(bo 16 (bo 2 z).2).1,(bI mE (cj 1 (bo 16 (bo 2 z).2).2).1.toNat (bo 1 (bo 16 (bo 2 z).2).2).2).1)],(bI mE (cj 1 (bo 16 (bo 2 z).2).2).1.toNat (bo 1 (bo 16 (bo 2 z).2).2).2).2):=rfl;obtain⟨p,hp⟩:=exq ((cj 2 z).1);obtain⟨bl,cg⟩:=exq ((bo 2 z).2);obtain⟨y1,c7⟩:=exq ((bo 2 z).1);rw[<-c7,<-cg]at bM;rw[<-c7,<-hp]at bE;rw[<-hp,<-cg]at bh;rw[<-cg]at bm;clear hp cg c7;have bN:=dD n X 16 bl (by decide) (by decide);have hlen:(bo 16 bl).1.length=16:=fV;have be:=(dd (n:=16) (s:=bl) bm).1;have bd:=(dd (n:=16) (s:=bl) bm).2;obtain⟨st,c3⟩:=exq ((bo 16 bl).1);obtain⟨a2,cV⟩:=exq ((bo 16 bl).2);rw[<-c3,<-cV]at bN bh;rw[<-c3]at hlen be;rw[<-cV]at bd;clear c3 cV;have bO:=dD n X 1 a2 (by decide) (by decide);have bF:=nI a2 bd;have hz:=oB bd;have eD:=(dd (n:=1) (s:=a2) bd).2;obtain⟨fA,ch⟩:=exq ((cj 1 a2).1);obtain⟨a3,cW⟩:=exq ((bo 1 a2).2);obtain⟨y3,c8⟩:=exq ((bo 1 a2).1);rw[<-c8,<-cW]at bO;rw[<-c8,<-ch]at bF;rw[<-ch,<-cW]at bh;rw[<-ch]at hz;clear ch cW c8 eD;obtain⟨cq,rfl⟩:=En hz.1;rw[Eo]at bh;obtain⟨ds,c0⟩:=exq ((bI mE cq a3).1);obtain⟨a4,cX⟩:=exq ((bI mE cq a3).2);rw[<-c0,<-cX]at bh;rw[bh]at aL;have ee:=aa (DT c0.symm cX.symm);have e3:Hid (cq<=255):=aa (by have:=hz.2;omega);have HN:Hid (M.map cf++([(p,st,ds)]++(bI qA (m - 1) a4).1)=bs/\(bI qA (m - 1) a4).2=t4):=aa ⟨by have h:=R.2.2.1;rw[aL]at h;exact h,by have h:=R.2.2.2.1;rw[aL]at h;exact h⟩;replace bM:=aa bM;replace bE:=aa bE;replace bN:=aa bN;replace bO:=aa bO;replace bF:=aa bF;have ba:=aa (DT hlen be);have HG:=aa R.1;have Hm:=aa R.2.2.2.2;have cb:Hid (M.length+1<=DV/\(M.length+1)*56<=140737488355328):=aa (by have:=Hm.out;unfold DV;omega);have fG:(m:Int)<=255:=by have:=Hm.out;omega
    have aN:Hid (B<=wr.heap.size/\X < wr.heap.size/\X < B):=aa ⟨by have:=a9.size;have:=a0.2;omega,a6.lt,by have:=ac.out;have:=a0.out;omega⟩;have e5:Hid (∀w2,Kq (fun k=>k=X\/B<=k) wr w2->w2.cell? ⟨Y,4,none⟩=some v'):=aa fun w2 h=>h.cell (by have:=ac.out;have:=a0.out;omega) HG.cell
    clear R;obtain⟨E,ey⟩:=exq wr.heap.size;have aw:=aa ey;clear aL bh c0 cX hlen be hz bY bm bd e5 ey
    go_wp2_with fail
    clear q2;refine(bM _ a6).mono ?_;rintro e wa ⟨va,rfl,O,N,J⟩;have dW:=aa O;have dA:=aa N;have cB:Hid (Kq (fun k=>k=X\/E<=k) wr wa):=aa (J.mono fun _ _ q=>.inl q);clear O N J bM
    go_wp2_with fail
    refine(bE _ _ dW).mono ?_;rintro e w' ⟨rfl,ad⟩;rw[ad];clear ad dW bE
    go_wp2_with fail
    have ab:Hid (X < E/\E<=wa.heap.size/\B<=E/\Y < E):=aa ⟨by have:=aN.out;have:=aw.out;omega,by rw[aw.out];exact cB.size,by rw[aw.out];exact aN.1,by rw[aw.out];exact HG.box.lt⟩;have b8:=aa (Pk.zero wa 5 E ab.2.1);refine(bN _ (dA.ext (ae wa (.cells #[] 5)))).mono ?_;rintro e wc ⟨vb,rfl,O,N,J⟩;obtain⟨fx,o2,fB,eM,_,_,_,eG,_⟩:=Rd.pos O (by rw[ba.out.1];decide);rw[ba.out.1]at eM;subst eM;have ei:=aa eG;have cG:=aa (b8.kept (fun j hj=>J.block j (b8.block j hj).2 (fun q=>by have:=(b8.block j hj).1;have:=ab.1;omega)) J.size);have dB:=aa N;have cC:Hid (Kq (fun k=>k=X\/E<=k) wr wc):=aa ((cB.trans (Kq.AI (ae _ _))).trans (J.mono fun _ _ q=>.inl q));have dY:Hid (E<=wc.heap.size):=aa (by rw[aw.out];exact cC.size);clear O N J eG bN dA cB b8
    go_wp2_with (with_reducible refine ax ?_)
    refine au ?_;refine aV aO cG ei (by rw[ints_length,ba.out.1]) (aF _ _) (by decide) (by decide) (by decide) dY rfl rfl ?_;intro v3 wd eS eE fg;have cm:Pk wd E 1 v3 16 (ao .u8 st):=eS;obtain⟨I,H,fi,_,_⟩:=cm.AT.form;subst fi;have V:Kq (fun k=>E<=k) wc wd:=Kq.grown eE fun k hk=>(cG.block k hk).1
    have cD:Hid (Kq (fun k=>k=X\/E<=k) wr wd):=aa (cC.trans (V.mono fun _ _ q=>.inr q));have dC:=aa (dB.kept V (fun i hi q=>by have:=ab.1;omega));have cH:Hid (aS (fun b=>E<=b/\b < wd.heap.size) wd (.slice I 16 H) 16 (ao .u8 st)):=aa (aS.By cm.AT fun b f _=>cm.block b f);obtain⟨eo,er⟩:=av.fresh (cs:=[.int .i64 p,.slice I 16 H,.slice none 0 0]) wd 100 fj rfl (fun h=>by cases h);have bS:=aa (aI (P:=DE) (cs:=[.int .i64 p,.slice I 16 H,.slice none 0 0]) wd 100 fj rfl (eu ⟨_,_,_,rfl⟩ jW) (ty:=100) (by kernel_rfl));have b4:=aa eo;have bt:=aa er;clear eS eE fg cm V eo er cG ei dB cC dY
    go_wp2_with (with_reducible refine aC (ty:=100) ?_)
    refine au ?_;refine ag rfl rfl bS ?_;obtain⟨we,eN⟩:=exq ((wd.alloc (.cells fj 100)).setCells wd.heap.size 0 [.int .i64 p,.slice I 16 H,.slice none 0 0]);obtain⟨S,hS⟩:=exq wd.heap.size;rw[<-eN]at b4 bt⊢;rw[<-hS]at b4 cH⊢;have bL:Hid (E<=S):=aa (by rw[hS,aw.out];exact cD.size);have dE:=aa (dC.ext bt);have dL:Hid (Kq (fun k=>k=X\/E<=k) wr we):=aa (cD.trans (Kq.AI bt));have dZ:Hid (aS (fun b=>E<=b/\b < S) we (.slice I 16 H) 16 (ao .u8 st)):=aa (cH.kept fun b f T=>⟨f,bt.block b T⟩);clear eN hS bS cD dC cH bt
    go_wp2_with fail
    refine(bO _ dE).mono ?_;rintro e wf ⟨vc,rfl,O,N,J⟩;have dX:=aa O;have eY:=aa N;have e0:Hid (Kq (fun k=>k=X\/E<=k) wr wf):=aa (dL.trans (J.mono fun _ _ q=>.inl q));have cx:=aa (J.box (by have:=ab.1;have:=bL.out;omega) b4);have d0:Hid (aS (fun b=>E<=b/\b < S) wf (.slice I 16 H) 16 (ao .u8 st)):=aa (dZ.kept fun b f T=>⟨f,J.block b T (by have:=ab.1;omega)⟩);clear O N J bO dE dL b4 dZ
    go_wp2_with fail
    refine(bF _ _ dX).mono ?_;rintro e w' ⟨rfl,ad⟩;rw[ad];clear ad dX bF;obtain⟨B2,cO⟩:=exq wf.heap.size;have aG:Hid (S < B2/\B2=wf.heap.size/\X < S):=aa ⟨by rw[cO];exact cx.lt,cO,by have:=ab.1;have:=bL.out;omega⟩;clear cO;have bu:Hid (GP (ao .u8) 32 jb B2 wf S 2 [.int .i64 p,.slice I 16 H,.slice none 0 0] (.slice none 0 0) []):=aa (GP.start cx rfl);clear cx
    go_wp2_with fail
    go_loopw [10] (fun x wr=>∃(j:Nat) (C:bB) (vq:DG) (D:List (List Int)),x=.int .i64 j/\Hid (GP (ao .u8) 32 jb B2 wr S 2 [.int .i64 p,.slice I 16 H,vq] vq D/\fq n wr X C/\D++(bI mE j C).1=ds/\(bI mE j C).2=a4/\D.length+j<=255/\dm D)/\Hid (Kq (fun k=>k=X\/k=S\/B2<=k) wf wr)) (fun x _=>(Ef x).toNat);case atStart=>exact⟨cq,a3,_,[],rfl,aa ⟨bu,eY,ee.1,ee.2,by have:=e3.out;simp only[EK];omega,dm.nil⟩,aa (Kq.refl _)⟩
    case round=>
     obtain⟨j,C,vq,D,rfl,HJ,bx⟩:=hrel;have bk:=aa (e0.trans (bx.mono (Q':=fun k=>k=X\/E<=k) fun k _ q=>by have:=bL.out;have:=aG.out;omega));have a5:=aa HJ.2.1;have q2:=a5.bad;obtain⟨sh,bg⟩:=exq C.1;rw[<-bg]at q2;have ej:=aa bg.symm;clear bg bu;by_cases hj:0 < j
     ·have fe:(0:Int) < (j:Int):=by omega
      cases sh
      ·have aL:=j6 mE j C hj ej;have bP:∀w2,fq n w2 X C->DN DE 97 #[.pointer (some ⟨X,0,none⟩),.int .i64 32] w2 fun e w'=>∃v',e=.returned v'/\Rd w' .u8 v' (bo 32 C).1/\fq n w' X (bo 32 C).2/\Kq (fun k=>k=X) w2 w':=dD n X 32 C (by decide) (by decide)
       have hlen:(bo 32 C).1.length=32:=fV;have be:=(dd (n:=32) (s:=C) a5.Ct).1;have c2:mE C=([(bo 32 C).1],(bo 32 C).2):=rfl;obtain⟨dg,cZ⟩:=exq ((bo 32 C).1);obtain⟨sb,eI⟩:=exq ((bo 32 C).2);rw[<-cZ,<-eI]at bP c2;rw[<-cZ]at hlen be;rw[c2]at aL;have dS:Hid (D++([dg]++(bI mE (j - 1) sb).1)=ds/\(bI mE (j - 1) sb).2=a4):=aa ⟨by have h:=HJ.2.2.1;rw[aL]at h;exact h,by have h:=HJ.2.2.2.1;rw[aL]at h;exact h⟩;replace bP:=aa bP;have aJ:=aa (DT hlen be);have bu:=aa HJ.1;have Hj:=aa HJ.2.2.2.2;have ef:Hid (D.length+1<=DV/\(D.length+1)*32<=140737488355328):=aa (by have:=Hj.1;unfold DV;omega);have fF:(j:Int)<=255:=by have:=Hj.1;omega
       have a1:Hid (B2<=wr.heap.size/\X < wr.heap.size/\X < B2/\S < wr.heap.size):=aa ⟨by have:=bx.size;have:=aG.2.1;omega,a5.lt,by have:=aG.out;omega,bu.box.lt⟩;obtain⟨en,eq⟩:=av.fresh (cs:=ao .u8 (D7 32 0)) wr 52 zA rfl (fun h=>by cases h);have bS:=aa (aI (P:=DE) (cs:=ao .u8 (D7 32 0)) wr 52 zA rfl (aF _ _) (ty:=52) (by kernel_rfl));have b3:=aa en;have b5:=aa eq;clear HJ aL c2 cZ eI hlen be en eq
       go_wp2_with (with_reducible refine aC (ty:=52) ?_)
       refine au ?_;refine ag rfl rfl bS ?_;obtain⟨wg,eO⟩:=exq ((wr.alloc (.cells zA 52)).setCells wr.heap.size 0 (ao .u8 (D7 32 0)));obtain⟨D1,cQ⟩:=exq wr.heap.size;rw[<-eO]at b3 b5⊢;rw[<-cQ]at b3 a1⊢;have dI:=aa cQ;have dF:=aa (a5.ext b5);have dM:Hid (Kq (fun k=>k=X\/D1<=k) wr wg):=aa (Kq.AI b5);clear eO cQ bS q2 b5 a5
       go_wp2_with fail
       apply ay (Kq (fun k=>k=X)) (xz n X C sb dg) 3 [149,150,151] [ar _,ar _,bK] (fun w=>Kq.refl w) (fun a b c h k=>Kq.trans h k) (by kernel_rfl) (by kernel_rfl) (by kernel_rfl) (by kernel_rfl);case hsteps=>
        refine⟨?_,?_,?_,trivial⟩;all_goals
         intro d fC w1 ci bv ea ed c1 f hd;replace ea:=aa ea;replace bv:=aa bv;replace ed:=aa ed;replace c1:=aa c1;have e4:=f 4 (by decide);have e8:=f 11 (by decide);clear f;simp only[sB]at e4 e8;simp only[sG]at hd;rw[if_pos (rfl:DP _ _=true)];go_simp;first | exact⟨Kq.refl _,rfl,bv.same (by decide)⟩ | (go_at_call 97;have fb:=bP w1 (bv.a c1);(with_reducible refine fb.mono ?_);rintro e w2 ⟨v9,rfl,k1,k2,k3⟩;exact⟨_,rfl,k3,trivial,xz.tk k1 k2⟩) | exact⟨DI _ _,rfl,HJ.same (by decide) bv⟩
       case hmono=>exact mR
       case hR0=>exact Kq.drew _
       case hend=>
        intro u w1 ci hJ hend;simp only[sE]at hend;simp only[sF,hend];obtain⟨N,O⟩:=hJ.b rfl;obtain⟨fy,o5,e7,c6,_,_,_,eH,_⟩:=Rd.pos O (by rw[aJ.out.1];decide);rw[aJ.out.1]at c6;simp only[c6];have dG:=aa N;have dN:Hid (Kq (fun k=>k=X\/D1<=k) wr w1):=aa (dM.trans (ci.mono fun _ _ q=>.inl q));have cP:=ci.box (by have:=a1.2.1;omega) b3;have ec:=aa (wH (P:=DE) (t:=27) (t2:=27) (c:=e7) (e:=5) Tryz.underlying27 (by kernel_rfl) cP (n:=32) (by rw[ints_length,G4]) eH aJ.1);have cw:=aa (cP.set (cs':=ao .u8 dg) (by rw[ints_length,ints_length,G4];exact aJ.1));have ev:Kq (fun k=>k=D1) w1 (w1.setCells D1 0 (ao .u8 dg)):=(Kq.refl w1).setCells (Q:=fun k=>k=D1) rfl 0 _;have b6:=aa ev;clear N O c6 eH ci hJ hend cP ev bP dF dM b3
        go_wp2_with (with_reducible refine uj ?_)
        refine au ?_;refine wG ec rfl rfl ?_;obtain⟨wh,eP⟩:=exq (w1.setCells D1 0 (ao .u8 dg));rw[<-eP]at cw b6⊢;have cE:Hid (Kq (fun k=>k=X\/D1<=k) wr wh):=aa (dN.trans (b6.mono fun k _ q=>.inr (Nat.le_of_eq q.symm)));have dH:=aa (dG.kept b6 (fun i hi q=>by have:=a1.2.1;omega));have cA:=aa (bu.kx bX (by rw[<-dI.out];exact cE) aG.2.2 a1.2.2.1);have gq:=cA.cell;have eh:=aa (bC (P:=DE) (ty:=52) cw.rg Tryz.underlying52 (by kernel_rfl) aJ.1);clear eP ec dN b6 dG
        go_wp2_with (with_reducible refine aA (ty:=52) ?_)
        refine au ?_;refine ak rfl eh ?_
        go_wp2_with (with_reducible refine db (ty:=96) ?_)
        refine au ?_;refine da lP (by decide) rfl (by simp[aJ.out.1]) ?_;have Z:=aa (jy wh (ao .u8 dg) 52);have G:Hid (az wh (wh.alloc (.cells (ao .u8 dg).toArray 52))):=aa (ae _ _);obtain⟨wi,aT⟩:=exq (wh.alloc (.cells (ao .u8 dg).toArray 52));obtain⟨X9,aQ⟩:=exq wh.heap.size;rw[<-aT]at Z G⊢;rw[<-aQ]at Z⊢;have A:=aa (cA.ext bX G);have aH:Hid (Kq (fun k=>k=X\/D1<=k) wr wi):=aa (cE.trans (Kq.AI G));have aP:=aa (dH.ext G);clear aT aQ eh gq cA cE dH cw
        go_wp2_with (with_reducible refine ax ?_)
        refine au ?_;refine aV lP A.own Z (by rw[ints_length,aJ.out.1]) (aF _ _) (by decide) ef.1 ef.2 (D0 a1.1 (by rw[dI.out];exact aH.size)) rfl rfl ?_;intro v10 bn ap U aR;obtain⟨aq,an,b0,_,_⟩:=ap.AT.form;subst b0;have HP:=aa (GP.push (y:=dg) bX A ap U aR trivial);have gb:=(A.Cz U).cell A.CC;have gf:=(A.Cz U).fz A.lt;have V:Kq (fun k=>B2<=k) wi bn:=Kq.grown U fun k hk=>(A.own.block k hk).1
        have bw:Hid (Kq (fun k=>k=X\/k=S\/B2<=k) wr (bn.setCell ⟨S,2,none⟩ (.slice aq (D.length+1) an))):=aa (((aH.mono fun k _ q=>q.elim .inl fun q=>.inr (.inr (D0 a1.1 q))).trans (V.mono fun _ _ q=>.inr (.inr q))).setCell (Q:=fun k=>k=X\/k=S\/B2<=k) ⟨S,2,none⟩ (.inr (.inl rfl)) _);have br:=aa (aP.kept (Q:=fun k=>B2<=k\/k=S) ((V.mono fun _ _ q=>.inl q).setCell (Q:=fun k=>B2<=k\/k=S) ⟨S,2,none⟩ (.inr rfl) (.slice aq (D.length+1) an)) (fun i hi q=>by have:=a1.out;have:=aG.out;omega));clear ap U aR V A aH aP Z G
        go_wp2_with fail
        go_roundw;case rel=>exact⟨j - 1,sb,.slice aq (D.length+1) an,D++[dg],by go_num,aa ⟨HP,br,by rw[Em];exact dS.1,dS.2,by rw[DS,Ez];have:=Hj.1;omega,Hj.2.append (dm.one aJ.1 aJ.2)⟩,aa (bx.trans bw)⟩
        case measure=>simp[Ef];omega
       case hJ0=>exact xz.start (dF.kept (Q:=fun _=>False) (Kq.drew _) (fun _ _ q=>q))
      ·have W:=ew mE j C ej;have hD:D=ds:=by have h:=HJ.2.2.1;rw[W,Ew]at h;exact h
       have h4:C=a4:=by have h:=HJ.2.2.2.1;rw[W]at h;exact h
       have HD:=aa (DT hD h4);obtain⟨pq,cz,c5⟩:=HJ.1.form;subst c5;have a7:=aa (HG.kx aU (by rw[<-aw.out];exact bk) ac.1 aN.2.2);have gq:=a7.cell;have a8:=aa (DT HJ.1.own HJ.2.2.2.2.2);have bR:=aa (HJ.1.box.load (P:=DE) FO rfl (by kernel_rfl));clear HJ W hD h4
       go_wp2_with (with_reducible refine aA (ty:=100) ?_)
       refine au ?_;refine ak rfl bR ?_
       go_wp2_with (with_reducible refine db (ty:=41) ?_)
       refine au ?_;refine da iJ (by decide) rfl rfl ?_;have Z:=aa (jy wr [.int .i64 p,.slice I 16 H,.slice pq D.length cz] 100);have G:Hid (az wr (wr.alloc (.cells ([.int .i64 p,.slice I 16 H,.slice pq D.length cz]:List DG).toArray 100))):=aa (ae _ _);obtain⟨wi,aT⟩:=exq (wr.alloc (.cells ([.int .i64 p,.slice I 16 H,.slice pq D.length cz]:List DG).toArray 100));obtain⟨X9,aQ⟩:=exq wr.heap.size;rw[<-aT]at Z G⊢;rw[<-aQ]at Z⊢;have A:=aa (a7.ext aU G);have aH:=aa (bk.trans (Kq.AI G));have aP:=aa (a5.ext G)
       have cF:Hid (ez (fun b=>b≠Y/\v'.ownBlock≠some b/\B<=b) wi (p,(.slice I 16 H,st),.slice pq D.length cz,D)):=aa (by
        have bZ:∀b,E<=b->b≠Y/\v'.ownBlock≠some b/\B<=b:=fun b f=>⟨by have:=ab.out;omega,fun q=>by have:=(HG.own.block b q).2;have:=aw.out;omega,by have:=ab.out;omega⟩
        refine⟨?_,ba.2,?_,a8.2⟩
        ·show aS _ wi (.slice I 16 H) st.length (ao .u8 st);rw[ba.out.1];exact(d0.kept (F':=fun b=>E<=b) fun b f T=>⟨f.1,bx.block b T (by have:=aG.out;have:=ab.out;omega)⟩).kept fun b f T=>⟨bZ b f,G.block b T⟩
        ·exact(aS.By (F:=fun b=>E<=b) a8.1.AT (fun b f _=>by have:=(a8.1.block b f).1;have:=aG.out;have:=bL.out;omega)).kept fun b f T=>⟨bZ b f,G.block b T⟩)
       clear aT aQ bR gq a7 q2
       go_wp2_with (with_reducible refine ax ?_)
       refine au ?_;refine aV iJ A.own Z rfl (eu ⟨_,_,_,rfl⟩ ⟨_,_,_,rfl⟩) (by decide) cb.1 cb.2 (D0 (D0 aN.1 bk.size) G.size) rfl rfl ?_;intro v10 bn ap U aR;obtain⟨aq,an,b0,_,_⟩:=ap.AT.form;subst b0;have HP:=aa (GP.push (y:=(p,(.slice I 16 H,st),.slice pq D.length cz,D)) aU A ap U aR cF.out);have gb:=(A.Cz U).cell A.CC;have gf:=(A.Cz U).fz A.lt;have V:Kq (fun k=>B<=k) wi bn:=Kq.grown U fun k hk=>(A.own.block k hk).1
       have bw:=aa (((aH.mono (Q':=fun k=>k=X\/k=Y\/B<=k) fun k _ q=>q.elim .inl fun q=>.inr (.inr (D0 ab.2.2.1 q))).trans (V.mono fun _ _ q=>.inr (.inr q))).setCell (Q:=fun k=>k=X\/k=Y\/B<=k) ⟨Y,4,none⟩ (.inr (.inl rfl)) (.slice aq (M.length+1) an));have br:=aa (aP.kept (Q:=fun k=>B<=k\/k=Y) ((V.mono fun _ _ q=>.inl q).setCell (Q:=fun k=>B<=k\/k=Y) ⟨Y,4,none⟩ (.inr rfl) (.slice aq (M.length+1) an)) (fun i hi q=>by have:=aN.out;have:=ac.out;omega));clear ap U aR V A aH aP Z G
       go_wp2_with fail
       go_roundw;case rel=>exact⟨m - 1,C,.slice aq (M.length+1) an,M++[(p,(.slice I 16 H,st),.slice pq D.length cz,D)],by go_num,aa ⟨by have h:=HP.out;rw[FZ]at h;exact h,br,by rw[EF,Em,HD.out.2];have h:=HN.1;rw[<-HD.out.1]at h;exact h,by rw[HD.out.2];exact HN.2,by rw[DS,Ez];have:=Hm.out;omega⟩,aa (a9.trans bw)⟩
       case measure=>simp[Ef];omega
     ·have fe:¬((0:Int) < (j:Int)):=by omega
      have W:bI mE j C=([],C):=by
       obtain rfl:j=0:=by omega
       rfl
      have hD:D=ds:=by have h:=HJ.2.2.1;rw[W,Ew]at h;exact h
      have h4:C=a4:=by have h:=HJ.2.2.2.1;rw[W]at h;exact h
      have HD:=aa (DT hD h4);obtain⟨pq,cz,c5⟩:=HJ.1.form;subst c5;have a7:=aa (HG.kx aU (by rw[<-aw.out];exact bk) ac.1 aN.2.2);have gq:=a7.cell;have a8:=aa (DT HJ.1.own HJ.2.2.2.2.2);have bR:=aa (HJ.1.box.load (P:=DE) FO rfl (by kernel_rfl));clear HJ W hD h4
      go_wp2_with (with_reducible refine aA (ty:=100) ?_)
      refine au ?_;refine ak rfl bR ?_
      go_wp2_with (with_reducible refine db (ty:=41) ?_)
      refine au ?_;refine da iJ (by decide) rfl rfl ?_;have Z:=aa (jy wr [.int .i64 p,.slice I 16 H,.slice pq D.length cz] 100);have G:Hid (az wr (wr.alloc (.cells ([.int .i64 p,.slice I 16 H,.slice pq D.length cz]:List DG).toArray 100))):=aa (ae _ _);obtain⟨wi,aT⟩:=exq (wr.alloc (.cells ([.int .i64 p,.slice I 16 H,.slice pq D.length cz]:List DG).toArray 100));obtain⟨X9,aQ⟩:=exq wr.heap.size;rw[<-aT]at Z G⊢;rw[<-aQ]at Z⊢;have A:=aa (a7.ext aU G);have aH:=aa (bk.trans (Kq.AI G));have aP:=aa (a5.ext G)
      have cF:Hid (ez (fun b=>b≠Y/\v'.ownBlock≠some b/\B<=b) wi (p,(.slice I 16 H,st),.slice pq D.length cz,D)):=aa (by
       have bZ:∀b,E<=b->b≠Y/\v'.ownBlock≠some b/\B<=b:=fun b f=>⟨by have:=ab.out;omega,fun q=>by have:=(HG.own.block b q).2;have:=aw.out;omega,by have:=ab.out;omega⟩
       refine⟨?_,ba.2,?_,a8.2⟩
       ·show aS _ wi (.slice I 16 H) st.length (ao .u8 st);rw[ba.out.1];exact(d0.kept (F':=fun b=>E<=b) fun b f T=>⟨f.1,bx.block b T (by have:=aG.out;have:=ab.out;omega)⟩).kept fun b f T=>⟨bZ b f,G.block b T⟩
       ·exact(aS.By (F:=fun b=>E<=b) a8.1.AT (fun b f _=>by have:=(a8.1.block b f).1;have:=aG.out;have:=bL.out;omega)).kept fun b f T=>⟨bZ b f,G.block b T⟩)
      clear aT aQ bR gq a7 q2
      go_wp2_with (with_reducible refine ax ?_)
      refine au ?_;refine aV iJ A.own Z rfl (eu ⟨_,_,_,rfl⟩ ⟨_,_,_,rfl⟩) (by decide) cb.1 cb.2 (D0 (D0 aN.1 bk.size) G.size) rfl rfl ?_;intro v10 bn ap U aR;obtain⟨aq,an,b0,_,_⟩:=ap.AT.form;subst b0;have HP:=aa (GP.push (y:=(p,(.slice I 16 H,st),.slice pq D.length cz,D)) aU A ap U aR cF.out);have gb:=(A.Cz U).cell A.CC;have gf:=(A.Cz U).fz A.lt;have V:Kq (fun k=>B<=k) wi bn:=Kq.grown U fun k hk=>(A.own.block k hk).1
      have bw:=aa (((aH.mono (Q':=fun k=>k=X\/k=Y\/B<=k) fun k _ q=>q.elim .inl fun q=>.inr (.inr (D0 ab.2.2.1 q))).trans (V.mono fun _ _ q=>.inr (.inr q))).setCell (Q:=fun k=>k=X\/k=Y\/B<=k) ⟨Y,4,none⟩ (.inr (.inl rfl)) (.slice aq (M.length+1) an));have br:=aa (aP.kept (Q:=fun k=>B<=k\/k=Y) ((V.mono fun _ _ q=>.inl q).setCell (Q:=fun k=>B<=k\/k=Y) ⟨Y,4,none⟩ (.inr rfl) (.slice aq (M.length+1) an)) (fun i hi q=>by have:=aN.out;have:=ac.out;omega));clear ap U aR V A aH aP Z G
      go_wp2_with fail
      go_roundw;case rel=>exact⟨m - 1,C,.slice aq (M.length+1) an,M++[(p,(.slice I 16 H,st),.slice pq D.length cz,D)],by go_num,aa ⟨by have h:=HP.out;rw[FZ]at h;exact h,br,by rw[EF,Em,HD.out.2];have h:=HN.1;rw[<-HD.out.1]at h;exact h,by rw[HD.out.2];exact HN.2,by rw[DS,Ez];have:=Hm.out;omega⟩,aa (a9.trans bw)⟩
      case measure=>simp[Ef];omega
   ·have W:=ew qA m z cc;have HM:Hid (M.map cf=bs):=aa (by have h:=R.2.2.1;rw[W,Ew]at h;exact h);have e4:z=t4:=by have h:=R.2.2.2.1;rw[W]at h;exact h
    have hle:Y<=B:=F7 a0.1;have HL:Hid (ug wr Y Y ⟨4,i,oo,[],bs,0,0,[],0⟩):=aa ⟨_,v',_,M,R.1.box,aS.nil _,R.1.Cy hle,R.1.CQ aU hle,HM,[],aS.nil _,fun x hx=>(by cases hx),rfl⟩;have bH:pr=cy ((⟨4,i,oo,[],bs,0,0,[],0⟩:Cp),z):=by rw[e4];exact af
    replace af:=aa bH;clear bH e4 W HM hle R a9;have K:=aa (lu (pr:=pr) (k:=2) bq bQ (by rw[af.out];unfold cy;exact if_pos cc));clear af HL a6
    go_wp2_with ((with_reducible refine ag ?_ ?_ K.out.1 ?_);rfl;rfl)
    exact DK (aj rfl rfl K.2.1 rfl) rfl K.2.2
  ·have fh:¬((0:Int) < (m:Int)):=by omega
   have W:bI qA m z=([],z):=by
    obtain rfl:m=0:=by omega
    rfl
   clear q2 cc;have HM:Hid (M.map cf=bs):=aa (by have h:=R.2.2.1;rw[W,Ew]at h;exact h);have e4:z=t4:=by have h:=R.2.2.2.1;rw[W]at h;exact h
   have hle:Y<=B:=F7 a0.1;have HL:Hid (ug wr Y Y ⟨4,i,oo,[],bs,0,0,[],0⟩):=aa ⟨_,v',_,M,R.1.box,aS.nil _,R.1.Cy hle,R.1.CQ aU hle,HM,[],aS.nil _,fun x hx=>(by cases hx),rfl⟩;have bH:pr=cy ((⟨4,i,oo,[],bs,0,0,[],0⟩:Cp),z):=by rw[e4];exact af
   replace af:=aa bH;clear bH e4 W HM hle R a9;obtain⟨l,eF⟩:=exq ((⟨4,i,oo,[],bs,0,0,[],0⟩:Cp));rw[<-eF]at HL af;clear eF;obtain⟨at',qb,qa,cJ⟩:=r9 a6;obtain⟨sh,rest⟩:=z;simp only at qb cJ;clear a6;cases sh with
   | true=>
    have K:=aa (lu (pr:=pr) (k:=2) bq bQ (af.trans (r6 _ _)));clear af
    go_wp2_with ((with_reducible refine ag ?_ ?_ K.out.1 ?_);rfl;rfl)
    exact DK (aj rfl rfl K.2.1 rfl) rfl K.2.2
   | false=>
    by_cases h0:at' < n
    ·have e9:(at':Int) < (n:Int):=by omega
     have K:=aa (lu (pr:=pr) (k:=4) bq bQ (af.trans (r7 (by have:=cJ.1;omega))));clear af
     go_wp2_with ((with_reducible refine ag ?_ ?_ K.out.1 ?_);rfl;rfl)
     exact DK (aj rfl rfl K.2.1 rfl) rfl K.2.2
    ·have e9:¬((at':Int) < (n:Int)):=by omega
     have bJ:=aa (af.trans (r8 (by have:=cJ.1;omega)));obtain⟨vp,vs,vb,L,dl,dJ,eg,dO⟩:=sc HL;clear af h0 HL
     go_wp2_with ((with_reducible refine ak ?_ eg.out ?_);rfl)
     refine(bV _ l _ dO).mono ?_;rintro e w8 ⟨rfl,ep⟩;obtain⟨eV,du,d9,eZ⟩:=sd ep dl bq bQ dJ;clear ep dl bq bQ dJ eg dO qb qa;obtain⟨K9,cR⟩:=exq (aW l);rw[<-cR]at bJ;rw[<-cR];clear cR;by_cases et:K9=0
     ·subst et;have K:=aa (zM ac eV eZ du d9 bJ);clear bJ;rw[show((0:Nat):Int)=0 from rfl]
      go_wp2_with first | ((with_reducible refine ak ?_ K.out.1 ?_);rfl) | ((with_reducible refine ag ?_ ?_ K.out.2.1 ?_);rfl;rfl)
      exact DK (aj rfl rfl K.2.2.1 rfl) rfl K.2.2.2
     ·have fE:¬((K9:Int)=0):=by omega
      have K:=aa (lu (pr:=pr) (k:=K9) du d9 (by rw[bJ.out,if_neg et]));clear bJ
      go_wp2_with ((with_reducible refine ag ?_ ?_ K.out.1 ?_);rfl;rfl)
      exact DK (aj rfl rfl K.2.1 rfl) rfl K.2.2
theorem yA (v:DG) (r:List Int) (w:DF) (hR:Rd w .u8 v (5 :: r)) (Q:bA r) (hl:r.length+1<=8000):
  DN DE 56 #[v] w fun e w'=>kF (cy (fY 5 (cT 0 (bo 8 (false,r)).1) (cT 0 (bo 8 (bo 8 (false,r)).2).1) (bo 8 (bo 8 (false,r)).2).2)) w e w':=by
 obtain⟨g,o,c,n,X,Y,W1,W3,rfl,a2,hX,hY,aX,p,T,aq,ae,aS,bl,bp,bC,R,bJ,bG,Hn,bF,bm⟩:=mC 5 hR Q hl;unfold DV at bm;obtain⟨pr,q⟩:=exq (cy (fY 5 (cT 0 (bo 8 (false,r)).1) (cT 0 (bo 8 (bo 8 (false,r)).2).1) (bo 8 (bo 8 (false,r)).2).2));rw[<-q];have bh:bA ((false,r):bB).2:=Q;obtain⟨i,s1,y0,R,a7,aI,ay,bi⟩:=kb n X (nb:=8) (s:=((false,r):bB)) (by decide) (by decide) bh;rw[<-R,<-a7]at q;clear R a7;obtain⟨x,s2,y1,bb,a8,aJ,az,bj⟩:=kb n X (nb:=8) (s:=s1) (by decide) (by decide) bi;rw[<-bb,<-a8]at q;clear bb a8;replace q:pr=cy ((⟨5,i,x,[],[],(cj 2 s2).1,(cj 2 (cj 2 s2).2).1,[],0⟩:Cp),(cj 2 (cj 2 s2).2).2):=q;obtain⟨f,s3,y2,a9,aK,aB,bk,bH⟩:=qx n X bj;rw[a9]at q;clear a9;obtain⟨G,s4,y3,ba,aL,aD,bE,bI⟩:=qx n X bk;rw[ba]at q;clear ba;have t:=aa q;clear q;clear hR Q hl;go_enter GK,Gu
 go_wp2_with (with_reducible refine aA (ty:=5) ?_)
 refine au ?_;rw[<-a2,<-hX];clear a2 hX
 go_wp2_with (with_reducible refine aC (ty:=43) ?_)
 refine au ?_;refine ag rfl rfl aX ?_;rw[<-hY];clear hY aX bl
 go_wp2_with fail
 refine(aY 5 1 7 W3).mono ?_;rintro e bO ⟨rfl,bn⟩;subst bn;rw[show wi 5 1 7=true from by decide,Ep];clear bp
 go_wp2_with fail
 refine(aI _ aq).mono ?_;rintro e bs ⟨v0,rfl,j,d,h⟩;have aE:=aa j;have ai:=aa d;obtain⟨A,aM,V⟩:=fQ p h T aS ae;clear j d h aq T aS ae
 go_wp2_with fail
 refine(ay _ _ aE).mono ?_;rintro e w' ⟨rfl,m⟩;rw[m];clear m aE aI ay;have y:=A.cell (i:=1) (v:=.int .i64 0) rfl;have u:=A.fz (i:=1) (show 1 < 9 by decide)
 go_wp2_with fail
 obtain⟨bL,b⟩:=exq (bs.setCell ⟨Y,1,none⟩ (.int .i64 i));obtain⟨S,al,aN,W⟩:=ik (cs':=cK 5 i 0 0 0 0) b p (by show 1 < 9;decide) rfl ai A aM V;rw[<-b];clear b y u ai aM V A;refine(aJ _ al).mono ?_;rintro e bt ⟨v1,rfl,j,d,h⟩;have aF:=aa j;have am:=aa d;obtain⟨B,aO,Z⟩:=fQ p h S aN W;clear j d h al S aN W
 go_wp2_with fail
 refine(az _ _ aF).mono ?_;rintro e w' ⟨rfl,m⟩;rw[m];clear m aF aJ az;have y:=B.cell (i:=2) (v:=.int .i64 0) rfl;have u:=B.fz (i:=2) (show 2 < 9 by decide)
 go_wp2_with (with_reducible refine aA (ty:=3) ?_)
 obtain⟨bM,b⟩:=exq (bt.setCell ⟨Y,2,none⟩ (.int .i64 x));obtain⟨I,an,aP,ab⟩:=ik (cs':=cK 5 i x 0 0 0) b p (by show 2 < 9;decide) rfl am B aO Z;rw[<-b];clear b y u am aO Z B;refine au ?_;have H:=I.cell (i:=0) (v:=.int .i64 5) rfl
 go_wp2_with fail
 clear H;refine(aK _ an).mono ?_;rintro e bu ⟨v2,rfl,j,d,h⟩;have aG:=aa j;have ao:=aa d;obtain⟨C,aQ,ac⟩:=fQ p h I aP ab;clear j d h an I aP ab
 go_wp2_with fail
 refine(aB _ _ aG).mono ?_;rintro e w' ⟨rfl,m⟩;rw[m];clear m aG aK aB;have y:=C.cell (i:=5) (v:=.int .i64 0) rfl;have u:=C.fz (i:=5) (show 5 < 9 by decide)
 go_wp2_with (with_reducible refine aA (ty:=3) ?_)
 obtain⟨bN,b⟩:=exq (bu.setCell ⟨Y,5,none⟩ (.int .i64 f));obtain⟨J,ap,aR,ad⟩:=ik (cs':=cK 5 i x f 0 0) b p (by show 5 < 9;decide) rfl ao C aQ ac;rw[<-b];clear b y u ao aQ ac C;refine au ?_;have H:=J.cell (i:=0) (v:=.int .i64 5) rfl
 go_wp2_with fail
 clear H;refine(aL _ ap).mono ?_;rintro e bv ⟨v3,rfl,j,d,h⟩;have aH:=aa j;have ar:=aa d;obtain⟨D,aT,af⟩:=fQ p h J aR ad;clear j d h ap J aR ad
 go_wp2_with fail
 refine(aD _ _ aH).mono ?_;rintro e w' ⟨rfl,m⟩;rw[m];clear m aH aL aD;have y:=D.cell (i:=6) (v:=.int .i64 0) rfl;have u:=D.fz (i:=6) (show 6 < 9 by decide)
 go_wp2_with (with_reducible refine aA (ty:=3) ?_)
 obtain⟨bw,b⟩:=exq (bv.setCell ⟨Y,6,none⟩ (.int .i64 G));obtain⟨K,av,F,E⟩:=ik (cs':=cK 5 i x f G 0) b p (by show 6 < 9;decide) rfl ar D aT af;rw[<-b];clear b y u ar aT af D;refine au ?_;have H:=K.cell (i:=0) (v:=.int .i64 5) rfl;have M:Hid (ug bw Y Y ⟨5,i,x,[],[],f,G,[],0⟩):=aa ⟨_,_,_,[],K,bZ.nil _ _ _ _ _ _ _ _⟩;clear K;obtain⟨l,a6⟩:=exq ((⟨5,i,x,[],[],f,G,[],0⟩:Cp));rw[<-a6]at M t;clear a6;obtain⟨at',qb,qa,N⟩:=r9 av;obtain⟨sh,rest⟩:=s4;simp only at qb N;clear av;cases sh with
 | true=>
  have a:=aa (lu (pr:=pr) (k:=2) E F (t.trans (r6 _ _)));clear t
  go_wp2_with ((with_reducible refine ag ?_ ?_ a.out.1 ?_);rfl;rfl)
  exact DK (aj rfl rfl a.2.1 rfl) rfl a.2.2
 | false=>
  by_cases h0:at' < n
  ·have bg:(at':Int) < (n:Int):=by omega
   have a:=aa (lu (pr:=pr) (k:=4) E F (t.trans (r7 (by have:=N.1;omega))));clear t
   go_wp2_with ((with_reducible refine ag ?_ ?_ a.out.1 ?_);rfl;rfl)
   exact DK (aj rfl rfl a.2.1 rfl) rfl a.2.2
  ·have bg:¬((at':Int) < (n:Int)):=by omega
   have z:=aa (t.trans (r8 (by have:=N.1;omega)));obtain⟨vp,vs,vb,L,U,aw,aV,ax⟩:=sc M;clear t h0 M
   go_wp2_with ((with_reducible refine ak ?_ aV.out ?_);rfl)
   refine(bV _ l _ ax).mono ?_;rintro e w8 ⟨rfl,aZ⟩;obtain⟨bd,ah,aU,be⟩:=sd aZ U E F aw;clear aZ U E F aw aV ax qb qa;obtain⟨O,P⟩:=exq (aW l);rw[<-P]at z;rw[<-P];clear P;by_cases a0:O=0
   ·subst a0;have a:=aa (zM p bd be ah aU z);clear z;rw[show((0:Nat):Int)=0 from rfl]
    go_wp2_with first | ((with_reducible refine ak ?_ a.out.1 ?_);rfl) | ((with_reducible refine ag ?_ ?_ a.out.2.1 ?_);rfl;rfl)
    exact DK (aj rfl rfl a.2.2.1 rfl) rfl a.2.2.2
   ·have bD:¬((O:Int)=0):=by omega
    have a:=aa (lu (pr:=pr) (k:=O) ah aU (by rw[z.out,if_neg a0]));clear z
    go_wp2_with ((with_reducible refine ag ?_ ?_ a.out.1 ?_);rfl;rfl)
    exact DK (aj rfl rfl a.2.1 rfl) rfl a.2.2
theorem yB (v:DG) (r:List Int) (w:DF) (hR:Rd w .u8 v (7 :: r)) (M:bA r) (hl:r.length+1<=8000):
  DN DE 56 #[v] w fun e w'=>kF (cy (fY 7 (cT 0 (bo 8 (false,r)).1) (cT 0 (bo 8 (bo 8 (false,r)).2).1) (bo 8 (bo 8 (false,r)).2).2)) w e w':=by
 obtain⟨g,o,c,n,X,Y,W1,W3,rfl,aN,hX,hY,aJ,q,P,ai,W,aG,a7,ba,bj,N,bq,bn,Hn,bm,a8⟩:=mC 7 hR M hl;unfold DV at a8;obtain⟨pr,j⟩:=exq (cy (fY 7 (cT 0 (bo 8 (false,r)).1) (cT 0 (bo 8 (bo 8 (false,r)).2).1) (bo 8 (bo 8 (false,r)).2).2));rw[<-j];have a4:bA ((false,r):bB).2:=M;obtain⟨i,s1,y0,N,aS,aw,an,a5⟩:=kb n X (nb:=8) (s:=((false,r):bB)) (by decide) (by decide) a4;rw[<-N,<-aS]at j;clear N aS;obtain⟨t,s2,y1,aV,aT,ax,ao,a6⟩:=kb n X (nb:=8) (s:=s1) (by decide) (by decide) a5;rw[<-aV,<-aT]at j;clear aV aT;replace j:pr=cy ((⟨7,i,t,[],[],0,0,[],(cj 1 s2).1⟩:Cp),(cj 1 s2).2):=j;obtain⟨E,s3,y2,aU,ay,ap,bl,bp⟩:=xu n X a6;rw[aU]at j;clear aU;have p:=aa j;clear j;clear hR M hl;go_enter GK,Gu
 go_wp2_with (with_reducible refine aA (ty:=5) ?_)
 refine au ?_;rw[<-aN,<-hX];clear aN hX
 go_wp2_with (with_reducible refine aC (ty:=43) ?_)
 refine au ?_;refine ag rfl rfl aJ ?_;rw[<-hY];clear hY aJ a7
 go_wp2_with fail
 refine(aY 7 1 7 W3).mono ?_;rintro e bt ⟨rfl,a9⟩;subst a9;rw[show wi 7 1 7=true from by decide,Ep];clear ba
 go_wp2_with fail
 refine(aw _ ai).mono ?_;rintro e bd ⟨v0,rfl,h,d,f⟩;have aq:=aa h;have ab:=aa d;obtain⟨z,az,R⟩:=fQ q f P aG W;clear h d f ai P aG W
 go_wp2_with fail
 refine(an _ _ aq).mono ?_;rintro e w' ⟨rfl,m⟩;rw[m];clear m aq aw an;have y:=z.cell (i:=1) (v:=.int .i64 0) rfl;have x:=z.fz (i:=1) (show 1 < 9 by decide)
 go_wp2_with fail
 obtain⟨br,b⟩:=exq (bd.setCell ⟨Y,1,none⟩ (.int .i64 i));obtain⟨O,ac,aB,S⟩:=ik (cs':=cK 7 i 0 0 0 0) b q (by show 1 < 9;decide) rfl ab z az R;rw[<-b];clear b y x ab az R z;refine(ax _ ac).mono ?_;rintro e be ⟨v1,rfl,h,d,f⟩;have ar:=aa h;have ad:=aa d;obtain⟨A,aD,T⟩:=fQ q f O aB S;clear h d f ac O aB S
 go_wp2_with fail
 refine(ao _ _ ar).mono ?_;rintro e w' ⟨rfl,m⟩;rw[m];clear m ar ax ao;have y:=A.cell (i:=2) (v:=.int .i64 0) rfl;have x:=A.fz (i:=2) (show 2 < 9 by decide)
 go_wp2_with (with_reducible refine aA (ty:=3) ?_)
 obtain⟨bs,b⟩:=exq (be.setCell ⟨Y,2,none⟩ (.int .i64 t));obtain⟨F,ae,aE,U⟩:=ik (cs':=cK 7 i t 0 0 0) b q (by show 2 < 9;decide) rfl ad A aD T;rw[<-b];clear b y x ad aD T A;refine au ?_;have qk:=F.cell (i:=0) (v:=.int .i64 7) rfl
 go_wp2_with fail
 clear qk;refine(ay _ ae).mono ?_;rintro e bf ⟨v2,rfl,h,d,f⟩;have av:=aa h;have af:=aa d;obtain⟨B,aF,V⟩:=fQ q f F aE U;clear h d f ae F aE U
 go_wp2_with fail
 refine(ap _ _ av).mono ?_;rintro e w' ⟨rfl,m⟩;rw[m];clear m av ay ap;have y:=B.cell (i:=8) (v:=.int .i64 0) rfl;have x:=B.fz (i:=8) (show 8 < 9 by decide)
 go_wp2_with (with_reducible refine aA (ty:=4) ?_)
 obtain⟨bg,b⟩:=exq (bf.setCell ⟨Y,8,none⟩ (.int .i64 E));obtain⟨G,ah,D,C⟩:=ik (cs':=cK 7 i t 0 0 E) b q (by show 8 < 9;decide) rfl af B aF V;rw[<-b];clear b y x af aF V B;refine au ?_;have qk:=G.cell (i:=0) (v:=.int .i64 7) rfl;have H:Hid (ug bg Y Y ⟨7,i,t,[],[],0,0,[],E⟩):=aa ⟨_,_,_,[],G,bZ.nil _ _ _ _ _ _ _ _⟩;clear G;obtain⟨l,aR⟩:=exq ((⟨7,i,t,[],[],0,0,[],E⟩:Cp));rw[<-aR]at H p;clear aR;obtain⟨at',qb,qa,I⟩:=r9 ah;obtain⟨sh,rest⟩:=s3;simp only at qb I;clear ah;cases sh with
 | true=>
  have a:=aa (lu (pr:=pr) (k:=2) C D (p.trans (r6 _ _)));clear p
  go_wp2_with ((with_reducible refine ag ?_ ?_ a.out.1 ?_);rfl;rfl)
  exact DK (aj rfl rfl a.2.1 rfl) rfl a.2.2
 | false=>
  by_cases h0:at' < n
  ·have a3:(at':Int) < (n:Int):=by omega
   have a:=aa (lu (pr:=pr) (k:=4) C D (p.trans (r7 (by have:=I.1;omega))));clear p
   go_wp2_with ((with_reducible refine ag ?_ ?_ a.out.1 ?_);rfl;rfl)
   exact DK (aj rfl rfl a.2.1 rfl) rfl a.2.2
  ·have a3:¬((at':Int) < (n:Int)):=by omega
   have u:=aa (p.trans (r8 (by have:=I.1;omega)));obtain⟨vp,vs,vb,L,Q,al,aI,am⟩:=sc H;clear p h0 H
   go_wp2_with ((with_reducible refine ak ?_ aI.out ?_);rfl)
   refine(bV _ l _ am).mono ?_;rintro e w8 ⟨rfl,aK⟩;obtain⟨a0,Z,aH,a1⟩:=sd aK Q C D al;clear aK Q C D al aI am qb qa;obtain⟨J,K⟩:=exq (aW l);rw[<-K]at u;rw[<-K];clear K;by_cases aL:J=0
   ·subst aL;have a:=aa (zM q a0 a1 Z aH u);clear u;rw[show((0:Nat):Int)=0 from rfl]
    go_wp2_with first | ((with_reducible refine ak ?_ a.out.1 ?_);rfl) | ((with_reducible refine ag ?_ ?_ a.out.2.1 ?_);rfl;rfl)
    exact DK (aj rfl rfl a.2.2.1 rfl) rfl a.2.2.2
   ·have bk:¬((J:Int)=0):=by omega
    have a:=aa (lu (pr:=pr) (k:=J) Z aH (by rw[u.out,if_neg aL]));clear u
    go_wp2_with ((with_reducible refine ag ?_ ?_ a.out.1 ?_);rfl;rfl)
    exact DK (aj rfl rfl a.2.1 rfl) rfl a.2.2
theorem yC (v:DG) (r:List Int) (w:DF) (hR:Rd w .u8 v (6 :: r)) (hb:bA r) (hl:r.length+1<=8000):
  DN DE 56 #[v] w fun e w'=>kF (cy (fY 6 (cT 0 (bo 8 (false,r)).1) (cT 0 (bo 8 (bo 8 (false,r)).2).1) (bo 8 (bo 8 (false,r)).2).2)) w e w':=by
 obtain⟨g,o,c,n,X,Y,W1,W3,rfl,cd,hX,hY,b6,C,be,bx,bm,b1,cP,cY,c8,a8,dj,dh,Hn,dg,cR⟩:=mC 6 hR hb hl;unfold DV at cR;obtain⟨pr,O⟩:=exq (cy (fY 6 (cT 0 (bo 8 (false,r)).1) (cT 0 (bo 8 (bo 8 (false,r)).2).1) (bo 8 (bo 8 (false,r)).2).2));rw[<-O];have cL:bA ((false,r):bB).2:=hb;obtain⟨i,s1,y0,a8,ck,bQ,bF,cM⟩:=kb n X (nb:=8) (s:=((false,r):bB)) (by decide) (by decide) cL;rw[<-a8,<-ck]at O;clear a8 ck;obtain⟨H,s2,y1,cq,cl,bR,bG,cN⟩:=kb n X (nb:=8) (s:=s1) (by decide) (by decide) cM;rw[<-cq,<-cl]at O;clear cq cl;replace O:pr=cy ((⟨6,i,H,[],[],(cj 2 s2).1,0,(bI iZ (cj 2 (cj 2 s2).2).1.toNat (cj 2 (cj 2 s2).2).2).1,0⟩:Cp),(bI iZ (cj 2 (cj 2 s2).2).1.toNat (cj 2 (cj 2 s2).2).2).2):=O;obtain⟨f,s3,y2,cm,bS,bH,cO,di⟩:=qx n X cN;rw[cm]at O;clear cm;obtain⟨cI,s4,y3,co,bT,bJ,db,cp⟩:=qx n X cO;rw[co]at O;clear co;obtain⟨cn,rfl⟩:=En cp.1;have cA:Hid (cn<=65535):=aa (by have:=cp.2;omega);simp only[Eo]at O;obtain⟨T,az⟩:=exq ((bI iZ cn s4).1);obtain⟨t4,a7⟩:=exq ((bI iZ cn s4).2);rw[<-az,<-a7]at O;have b3:=aa (DT az.symm a7.symm);clear az a7;have F:=aa O;clear O;clear hR hb hl;go_enter GK,Gu
 go_wp2_with (with_reducible refine aA (ty:=5) ?_)
 refine au ?_;rw[<-cd,<-hX];clear cd hX
 go_wp2_with (with_reducible refine aC (ty:=43) ?_)
 refine au ?_;refine ag rfl rfl b6 ?_;rw[<-hY];clear hY b6 cP
 go_wp2_with fail
 refine(aY 6 1 7 W3).mono ?_;rintro e dq ⟨rfl,cW⟩;subst cW;rw[show wi 6 1 7=true from by decide,Ep];clear cY
 go_wp2_with fail
 refine(bQ _ bx).mono ?_;rintro e c0 ⟨v0,rfl,K,I,J⟩;have bM:=aa K;have bq:=aa I;obtain⟨aG,bU,bg⟩:=fQ C J be b1 bm;clear K I J bx be b1 bm
 go_wp2_with fail
 refine(bF _ _ bM).mono ?_;rintro e w' ⟨rfl,P⟩;rw[P];clear P bM bQ bF;have qf:=aG.cell (i:=1) (v:=.int .i64 0) rfl;have ff:=aG.fz (i:=1) (show 1 < 9 by decide)
 go_wp2_with fail
 obtain⟨dm,N⟩:=exq (c0.setCell ⟨Y,1,none⟩ (.int .i64 i));obtain⟨bc,bs,bW,bh⟩:=ik (cs':=cK 6 i 0 0 0 0) N C (by show 1 < 9;decide) rfl bq aG bU bg;rw[<-N];clear N qf ff bq bU bg aG;refine(bR _ bs).mono ?_;rintro e c1 ⟨v1,rfl,K,I,J⟩;have bN:=aa K;have bt:=aa I;obtain⟨aH,bX,bi⟩:=fQ C J bc bW bh;clear K I J bs bc bW bh
 go_wp2_with fail
 refine(bG _ _ bN).mono ?_;rintro e w' ⟨rfl,P⟩;rw[P];clear P bN bR bG;have qf:=aH.cell (i:=2) (v:=.int .i64 0) rfl;have ff:=aH.fz (i:=2) (show 2 < 9 by decide)
 go_wp2_with (with_reducible refine aA (ty:=3) ?_)
 obtain⟨dn,N⟩:=exq (c1.setCell ⟨Y,2,none⟩ (.int .i64 H));obtain⟨aQ,bu,bY,bj⟩:=ik (cs':=cK 6 i H 0 0 0) N C (by show 2 < 9;decide) rfl bt aH bX bi;rw[<-N];clear N qf ff bt bX bi aH;refine au ?_;have qk:=aQ.cell (i:=0) (v:=.int .i64 6) rfl
 go_wp2_with fail
 clear qk;refine(bS _ bu).mono ?_;rintro e c2 ⟨v2,rfl,K,I,J⟩;have bO:=aa K;have bv:=aa I;obtain⟨aI,bZ,bk⟩:=fQ C J aQ bY bj;clear K I J bu aQ bY bj
 go_wp2_with fail
 refine(bH _ _ bO).mono ?_;rintro e w' ⟨rfl,P⟩;rw[P];clear P bO bS bH;have qf:=aI.cell (i:=5) (v:=.int .i64 0) rfl;have ff:=aI.fz (i:=5) (show 5 < 9 by decide)
 go_wp2_with (with_reducible refine aA (ty:=3) ?_)
 obtain⟨dp,N⟩:=exq (c2.setCell ⟨Y,5,none⟩ (.int .i64 f));obtain⟨aR,bw,b0,bl⟩:=ik (cs':=cK 6 i H f 0 0) N C (by show 5 < 9;decide) rfl bv aI bZ bk;rw[<-N];clear N qf ff bv bZ bk aI;refine au ?_;have qk:=aR.cell (i:=0) (v:=.int .i64 6) rfl
 go_wp2_with fail
 clear qk;refine(bT _ bw).mono ?_;rintro e aP ⟨v3,rfl,K,I,J⟩;have bP:=aa K;have cv:=aa I;obtain⟨aT,cz,cu⟩:=fQ C J aR b0 bl;clear K I J bw aR b0 bl
 go_wp2_with fail
 refine(bJ _ _ bP).mono ?_;rintro e w' ⟨rfl,P⟩;rw[P];clear P bP bT bJ;obtain⟨B,hB⟩:=exq aP.heap.size;have W:Hid (Y < B/\B=aP.heap.size):=aa ⟨by rw[hB];exact aT.lt,hB⟩;clear hB;have bD:Hid (GP cB 1 iI B aP Y 7 ((cK 6 i H f 0 0).set 7 (.slice none 0 0)) (.slice none 0 0) []):=aa (GP.start aT rfl)
 go_wp2_with fail
 go_loopw [6] (fun x wr=>∃(m:Nat) (j:bB) (G:DG) (M:List Bv),x=.int .i64 m/\Hid (GP cB 1 iI B wr Y 7 ((cK 6 i H f 0 0).set 7 G) G M/\fq n wr X j/\M.map (fun y:Bv=>y.2)++(bI iZ m j).1=T/\(bI iZ m j).2=t4/\M.length+m<=65535)/\Hid (Kq (fun k=>k=X\/k=Y\/B<=k) aP wr)) (fun x _=>(Ef x).toNat);case atStart=>exact⟨cn,s4,_,[],rfl,aa ⟨bD,cv,b3.1,b3.2,by have:=cA.out;simp only[EK];omega⟩,aa (Kq.refl _)⟩
 case round=>
  obtain⟨m,j,G,M,rfl,z,af⟩:=hrel;have aw:Hid (Kq (fun k=>w.heap.size<=k) w wr):=aa (cz.trans (af.mono fun k _ q=>by have:=C.out;have:=W.out;omega));have am:=aa (af.box (by have:=C.out;have:=W.out;omega) cu);have Z:=aa z.2.1;have q2:=Z.bad;have qk:=z.1.box.cell (i:=0) (v:=.int .i64 6) rfl;obtain⟨sh,a5⟩:=exq j.1;rw[<-a5]at q2;have aK:=aa a5.symm;clear a5 bD aT;by_cases hm:0 < m
  ·have cS:(0:Int) < (m:Int):=by omega
   cases sh
   ·clear qk;have aM:=j6 iZ m j hm aK;have aJ:∀V,fq n V X j->DN DE 97 #[.pointer (some ⟨X,0,none⟩),.int .i64 16] V fun e w'=>∃G,e=.returned G/\Rd w' .u8 G (bo 16 j).1/\fq n w' X (bo 16 j).2/\Kq (fun k=>k=X) V w':=dD n X 16 j (by decide) (by decide)
    have hlen:(bo 16 j).1.length=16:=fV;have a4:=(dd (n:=16) (s:=j) Z.Ct).1;have a3:iZ j=([(bo 16 j).1],(bo 16 j).2):=rfl;obtain⟨st,a6⟩:=exq ((bo 16 j).1);obtain⟨sb,ci⟩:=exq ((bo 16 j).2);rw[<-a6,<-ci]at aJ a3;rw[<-a6]at hlen a4;rw[a3]at aM;have HN:Hid (M.map (fun y:Bv=>y.2)++([st]++(bI iZ (m - 1) sb).1)=T/\(bI iZ (m - 1) sb).2=t4):=aa ⟨by have h:=z.2.2.1;rw[aM]at h;exact h,by have h:=z.2.2.2.1;rw[aM]at h;exact h⟩;replace aJ:=aa aJ;have ah:=aa (DT hlen a4);have HG:=aa z.1;have Hm:=aa z.2.2.2.2;have b5:Hid (M.length+1<=DV/\(M.length+1)*24<=140737488355328):=aa (by have:=Hm.out;unfold DV;omega);have df:(m:Int)<=65535:=by have:=Hm.out;omega
    have R:Hid (B<=wr.heap.size/\X < wr.heap.size/\X < B):=aa ⟨by have:=af.size;have:=W.2;omega,Z.lt,by have:=C.out;have:=W.out;omega⟩;have cD:Hid (∀V,Kq (fun k=>k=X\/B<=k) wr V->V.cell? ⟨Y,7,none⟩=some G):=aa fun V h=>h.cell (by have:=C.out;have:=W.out;omega) HG.cell
    clear z;clear aM a3 a6 ci hlen a4
    go_wp2_with fail
    clear q2;apply ay (Kq (fun k=>k=X\/B<=k)) (JB n B X Y 7 ((cK 6 i H f 0 0).set 7 G) G M j sb st wr) 9 [75,76,77,78,79,80,81,82,83] [ar _,ar _,bK,ar _,bK,bK,bK,bK,ar _] (fun w=>Kq.refl w) (fun a b c h k=>Kq.trans h k) (by kernel_rfl) (by kernel_rfl) (by kernel_rfl) (by kernel_rfl);case hsteps=>
     refine⟨?_,?_,?_,?_,?_,?_,?_,?_,?_,trivial⟩;all_goals
      intro d ev w1 aB D A E S hb U;replace A:=aa A;replace D:=aa D;replace E:=aa E;replace S:=aa S;have e4:=hb 4 (by decide);have e5:=hb 5 (by decide);clear hb;simp only[sB]at e4 e5;simp only[sG]at U;have c7:=cD _ aB;rw[if_pos (rfl:DP _ _=true)];first
      | (obtain⟨c5,o9,c9,cX,_,_,_,cV,_⟩:=Rd.pos (D.e (A 4 (by kernel_rfl)) S) (by rw[ah.out.1];decide);have cU:=D.c (A 2 (by kernel_rfl)) S;have az:=aB.size;(with_reducible refine dy (m:=st.length) (c:=c9) aO cU cV ?_ (aF _ _) ?_ ?_ ?_ az ?_ ?_ ?_);rw[ints_length,Nat.mul_one];rw[ah.out.1];decide;rw[ah.out.1];decide;rw[ah.out.1];decide;rfl;exact cX;exact fun G w' k1 k2 k3=>⟨(D.ap (A 2 (by kernel_rfl)) (A 4 (by kernel_rfl)) S (E 6 (by kernel_rfl)) (E 7 (by kernel_rfl)) R.2.1 R.1 k1 k2).1,trivial,(D.ap (A 2 (by kernel_rfl)) (A 4 (by kernel_rfl)) S (E 6 (by kernel_rfl)) (E 7 (by kernel_rfl)) R.2.1 R.1 k1 k2).2⟩) | ((with_reducible refine cG (v:=ev 80) xU (by decide) ?_ (D.out.f1 (A.out 4 (by kernel_rfl)) (A.out 5 (by kernel_rfl)) S.out (E.out 7 (by kernel_rfl)) HG.out R.out.1 C.out.1 R.out.2.2 ah.out.2).size ?_);rfl;exact⟨Kq.AI (ae _ _),trivial,D.bd (A 4 (by kernel_rfl)) (A 5 (by kernel_rfl)) S (E 7 (by kernel_rfl)) HG R.1 C.1 R.2.2 ah.2 _⟩) | ((with_reducible refine mf xU br R.out.2.2 C.out.1 (D.out.g (A.out 6 (by kernel_rfl)) S.out) ?_ ?_ b5.out.1 b5.out.2 ?_);rfl;exact(by first | ((repeat(first | exact U | exact U.2 | replace U:=U.1));done) | ((repeat(first | exact U | exact U.1 | replace U:=U.2));first | done | fail));exact fun G w' k1 k2=>⟨k1,trivial,JB.app (A 4 (by kernel_rfl)) (A 5 (by kernel_rfl)) (A 6 (by kernel_rfl)) k2⟩)
      | (go_simp;first | exact⟨Kq.refl _,rfl,D.same (by decide)⟩ | exact⟨Kq.AI (ae _ _),trivial,D.mk' (E 5 (by kernel_rfl)) (E 6 (by kernel_rfl)) (E 7 (by kernel_rfl)) _⟩ | (go_at_call 97;have cQ:=aJ w1 (D.a S);(with_reducible refine cQ.mono ?_);rintro e V ⟨v9,rfl,k1,k2,k3⟩;exact⟨_,rfl,k3.mono fun _ _ q=>.inl q,trivial,D.tk (E 5 (by kernel_rfl)) (E 6 (by kernel_rfl)) (E 7 (by kernel_rfl)) R.2.1 k1 k2 k3⟩) | exact⟨DI _ _,rfl,HJ.same (by decide) D⟩)
    case hmono=>exact mR
    case hR0=>exact Kq.drew _
    case hend=>
     intro u w1 aB hJ hend;simp only[sE]at hend;simp only[sF,hend];obtain⟨y,p,c9,hu,hp,dc,de,b9,b7⟩:=hJ.h rfl;have bC:=aa b9;have bp:=aa b7;have HK:=aa aB;have Hp:=aa hp;rw[hu]at bC bp;simp only[hu];clear b9 b7 aB hend hJ hu hp
     go_wp2_with fail
     go_roundw;case rel=>exact⟨m - 1,sb,.slice p (M.length+1) c9,M++[y],by go_num,aa ⟨by have h:=bC.out;rw[FZ]at h;exact h,bp,by rw[EF,Em];have h:=HN.1;rw[<-Hp.out]at h;exact h,HN.2,by rw[DS,Ez];have:=Hm.out;omega⟩,aa (af.trans ((HK.mono fun k _ q=>q.elim .inl fun q=>.inr (.inr q)).setCell (Q:=fun k=>k=X\/k=Y\/B<=k) ⟨Y,7,none⟩ (.inr (.inl rfl)) _))⟩
     case measure=>simp[Ef];omega
    case hJ0=>exact JB.start (Z.kept (Q:=fun _=>False) (Kq.drew _) (fun _ _ q=>q)) (Kq.drew _)
   ·have ad:=ew iZ m j aK;have HM:Hid (M.map (fun y:Bv=>y.2)=T):=aa (by have h:=z.2.2.1;rw[ad,Ew]at h;exact h);have e4:j=t4:=by have h:=z.2.2.2.1;rw[ad]at h;exact h
    have hle:Y<=B:=F7 W.1;have HL:Hid (ug wr Y Y ⟨6,i,H,[],[],f,0,T,0⟩):=aa ⟨_,_,G,[],z.1.box,aS.nil _,aS.nil _,fun x hx=>(by cases hx),rfl,M,z.1.Cy hle,z.1.CQ br hle,HM⟩;have aq:pr=cy ((⟨6,i,H,[],[],f,0,T,0⟩:Cp),j):=by rw[e4];exact F
    replace F:=aa aq;clear aq e4 ad HM hle z af;have t:=aa (lu (pr:=pr) (k:=2) am aw (by rw[F.out];unfold cy;exact if_pos aK));clear F HL Z
    go_wp2_with ((with_reducible refine ag ?_ ?_ t.out.1 ?_);rfl;rfl)
    exact DK (aj rfl rfl t.2.1 rfl) rfl t.2.2
  ·have cS:¬((0:Int) < (m:Int)):=by omega
   have ad:bI iZ m j=([],j):=by
    obtain rfl:m=0:=by omega
    rfl
   clear q2 aK;have HM:Hid (M.map (fun y:Bv=>y.2)=T):=aa (by have h:=z.2.2.1;rw[ad,Ew]at h;exact h);have e4:j=t4:=by have h:=z.2.2.2.1;rw[ad]at h;exact h
   have hle:Y<=B:=F7 W.1;have HL:Hid (ug wr Y Y ⟨6,i,H,[],[],f,0,T,0⟩):=aa ⟨_,_,G,[],z.1.box,aS.nil _,aS.nil _,fun x hx=>(by cases hx),rfl,M,z.1.Cy hle,z.1.CQ br hle,HM⟩;have aq:pr=cy ((⟨6,i,H,[],[],f,0,T,0⟩:Cp),j):=by rw[e4];exact F
   replace F:=aa aq;clear aq e4 ad HM hle z af;obtain⟨l,ch⟩:=exq ((⟨6,i,H,[],[],f,0,T,0⟩:Cp));rw[<-ch]at HL F;clear ch;obtain⟨at',qb,qa,aX⟩:=r9 Z;obtain⟨sh,rest⟩:=j;simp only at qb aX;clear Z;cases sh with
   | true=>
    have t:=aa (lu (pr:=pr) (k:=2) am aw (F.trans (r6 _ _)));clear F
    go_wp2_with ((with_reducible refine ag ?_ ?_ t.out.1 ?_);rfl;rfl)
    exact DK (aj rfl rfl t.2.1 rfl) rfl t.2.2
   | false=>
    by_cases h0:at' < n
    ·have cJ:(at':Int) < (n:Int):=by omega
     have t:=aa (lu (pr:=pr) (k:=4) am aw (F.trans (r7 (by have:=aX.1;omega))));clear F
     go_wp2_with ((with_reducible refine ag ?_ ?_ t.out.1 ?_);rfl;rfl)
     exact DK (aj rfl rfl t.2.1 rfl) rfl t.2.2
    ·have cJ:¬((at':Int) < (n:Int)):=by omega
     have av:=aa (F.trans (r8 (by have:=aX.1;omega)));obtain⟨vp,vs,vb,L,bf,bz,b4,bE⟩:=sc HL;clear F h0 HL
     go_wp2_with ((with_reducible refine ak ?_ b4.out ?_);rfl)
     refine(bV _ l _ bE).mono ?_;rintro e w8 ⟨rfl,b8⟩;obtain⟨ct,bn,b2,cw⟩:=sd b8 bf am aw bz;clear b8 bf am aw bz b4 bE qb qa;obtain⟨K9,a2⟩:=exq (aW l);rw[<-a2]at av;rw[<-a2];clear a2;by_cases cb:K9=0
     ·subst cb;have t:=aa (zM C ct cw bn b2 av);clear av;rw[show((0:Nat):Int)=0 from rfl]
      go_wp2_with first | ((with_reducible refine ak ?_ t.out.1 ?_);rfl) | ((with_reducible refine ag ?_ ?_ t.out.2.1 ?_);rfl;rfl)
      exact DK (aj rfl rfl t.2.2.1 rfl) rfl t.2.2.2
     ·have da:¬((K9:Int)=0):=by omega
      have t:=aa (lu (pr:=pr) (k:=K9) bn b2 (by rw[av.out,if_neg cb]));clear av
      go_wp2_with ((with_reducible refine ag ?_ ?_ t.out.1 ?_);rfl;rfl)
      exact DK (aj rfl rfl t.2.1 rfl) rfl t.2.2
theorem sf (v:DG) (b:List Int) (w:DF) (d:Rd w .u8 v b) (g:b.length<=9000) (o:8000 < b.length):
  DN DE 56 #[v] w fun e w'=>kF (3,dI) w e w':=by
 obtain⟨p,c,rfl,_,_⟩:=d.form;have a:=aa (av.box (cs:=zL.toList) w 43 (fun q=>by cases q));have k:=aa (ae w (.cells zL 43));have i:∀c∈zL.toList,c.oneCell'=true:=fun c f=>by simp only[Es,ED,or_false]at f;rcases f with rfl | rfl | rfl | rfl | rfl | rfl | rfl | rfl | rfl<;>rfl
 have m:=aa (a.store (P:=DE) (cs':=zL.toList) rfl i (ty:=43) (by kernel_rfl));have j:=aa (a.set (cs':=zL.toList) rfl);have l:Hid (az w ((w.alloc (.cells zL 43)).setCells w.heap.size 0 zL.toList)):=aa (aE _ _ _ _ k (DH _));obtain⟨n,h⟩:=exq b.length;rw[<-h]at g o⊢;have r:(8000:Int) < (n:Int):=by omega
 clear d i h g;go_enter GK,Gu
 go_wp2_with ((with_reducible refine ag ?_ ?_ m.out ?_);rfl;rfl)
 refine DK (v:=.tuple #[.agg zL,.int .i64 3]) (aj rfl rfl (j.loadVar (P:=DE) DU rfl (by kernel_rfl)) rfl) rfl ?_;exact⟨_,rfl,zh.zero _ _,l⟩
theorem qy (v:DG) (w:DF) (b:Rd w .u8 v []):
  DN DE 56 #[v] w fun e w'=>kF (2,dI) w e w':=by
 obtain⟨p,c,rfl,_,_⟩:=b.form;have a:=aa (av.box (cs:=zL.toList) w 43 (fun q=>by cases q));have h:=aa (ae w (.cells zL 43));have f:∀c∈zL.toList,c.oneCell'=true:=fun c d=>by simp only[Es,ED,or_false]at d;rcases d with rfl | rfl | rfl | rfl | rfl | rfl | rfl | rfl | rfl<;>rfl
 have j:=aa (a.store (P:=DE) (cs':=zL.toList) rfl f (ty:=43) (by kernel_rfl));have g:=aa (a.set (cs':=zL.toList) rfl);have i:Hid (az w ((w.alloc (.cells zL 43)).setCells w.heap.size 0 zL.toList)):=aa (aE _ _ _ _ h (DH _));clear b f;show DN DE 56 #[.slice p 0 c] w _;go_enter GK,Gu
 go_wp2_with ((with_reducible refine ag ?_ ?_ j.out ?_);rfl;rfl)
 refine DK (v:=.tuple #[.agg zL,.int .i64 2]) (aj rfl rfl (g.loadVar (P:=DE) DU rfl (by kernel_rfl)) rfl) rfl ?_;exact⟨_,rfl,zh.zero _ _,i⟩
theorem sg (v:DG) (k:Int) (r:List Int) (w:DF) (D:Rd w .u8 v (k :: r)) (F:bA (k :: r)) (V:r.length+1<=8000) (H:wi k 1 7=false):
  DN DE 56 #[v] w fun e w'=>kF (7,dI) w e w':=by
 obtain⟨g,o,c,K,Z,ah,T,_,G⟩:=Rd.pos D (by simp);have t:w.cell? ⟨g,o,none⟩=some (.int .u8 k):=G 0 (by simp);have U:=F k (by simp);obtain⟨n,u⟩:=exq ((k :: r).length);have W:n=r.length+1:=by rw[u];rfl
 rw[<-u]at K Z;subst K;obtain⟨X,E⟩:=exq (w.heap.size+1);have x:=aa (av.box (cs:=zL.toList) w 43 (fun q=>by cases q));have A:=aa (ae w (.cells zL 43));have J:∀c∈zL.toList,c.oneCell'=true:=fun c b=>by simp only[Es,ED,or_false]at b;rcases b with rfl | rfl | rfl | rfl | rfl | rfl | rfl | rfl | rfl<;>rfl
 have M:Hid (∀l,av l w.heap.size zL.toList->(Instr.storeAt 43 (.pointer (some ⟨w.heap.size,0,none⟩)) (.agg zL)).run DE l=.ok () (l.setCells w.heap.size 0 zL.toList)):=aa fun l h=>h.store (P:=DE) (cs':=zL.toList) rfl J (ty:=43) (by kernel_rfl)
 have ab:(w.alloc (.cells zL 43)).heap.size=w.heap.size+1:=World.size_alloc _ _;obtain⟨a,j⟩:=exq ((w.alloc (.cells zL 43)).alloc (.cells #[.slice (some ⟨g,o,none⟩) n c,.int .i64 1,.bool false] 160));have y:Hid (av a w.heap.size zL.toList):=aa (by rw[j];exact x.ext (ae _ _));have m:Hid (az w a):=aa (by rw[j];exact A.trans (ae _ _));have S:a.cell? ⟨g,o,none⟩=some (.int .u8 k):=((aD m).1 _ _ (World.block_lt_of_cell? _ _ t)).trans t;have I:∀c∈cK k 0 0 0 0 0,c.oneCell'=true:=fun c b=>by simp only[cK,Es,ED,or_false]at b;rcases b with rfl | rfl | rfl | rfl | rfl | rfl | rfl | rfl | rfl<;>rfl
 obtain⟨d,f⟩:=av.fresh (cs:=cK k 0 0 0 0 0) a 43 zL rfl (fun q=>by cases q);have B:=aa (aI (P:=DE) (cs:=cK k 0 0 0 0 0) a 43 zL rfl I (ty:=43) (by kernel_rfl));obtain⟨C,p⟩:=exq ((a.alloc (.cells zL 43)).setCells a.heap.size 0 (cK k 0 0 0 0 0));obtain⟨Y,s⟩:=exq a.heap.size;rw[<-p]at d f;rw[<-s]at d;have z:=aa (y.ext f);have N:Hid (Kq (fun k=>w.heap.size<=k) w C):=aa (Kq.AI (m.trans f));have ad:=d.cell (i:=0) (v:=.int .i64 k) rfl;have af:¬((8000:Int) < (n:Int)):=by omega
 have ak:¬((n:Int)=0):=by omega
 have al:¬(n=0):=by omega
 have ai:(0:Int) < (n:Int):=by omega
 have Q:=aa H;obtain⟨k0,k1⟩:=U;clear D G t u W F V d f I J ab x A T H;go_enter GK,Gu
 go_wp2_with (with_reducible refine aA (ty:=5) ?_)
 refine au ?_;rw[<-j,<-E];clear j E
 go_wp2_with (with_reducible refine aC (ty:=43) ?_)
 refine au ?_;refine ag rfl rfl B ?_;rw[<-p,<-s];clear p s B S y m
 go_wp2_with fail
 refine(aY k 1 7 C).mono ?_;rintro e ao ⟨rfl,ac⟩;subst ac;rw[Q.out,Bool.not_false];clear ad;have R:=aa (M _ z);have L:=aa (z.set (cs':=zL.toList) rfl);have O:=aa (N.setCells (g:=w.heap.size) (DH _) 0 zL.toList)
 go_wp2_with ((with_reducible refine ag ?_ ?_ R.out ?_);rfl;rfl)
 refine DK (v:=.tuple #[.agg zL,.int .i64 7]) (aj rfl rfl (L.loadVar (P:=DE) DU rfl (by kernel_rfl)) rfl) rfl ?_;exact⟨_,rfl,zh.zero _ _,O.ext fun k q=>q⟩
theorem si (v:DG) (b:List Int) (w:DF) (a:Rd w .u8 v b) (i:bA b) (l:b.length<=9000):
  DN DE 56 #[v] w fun e w'=>kF (dM b) w e w':=by
 by_cases g:8000 < b.length
 ·have h:dM b=(3,dI):=by unfold dM;rw[if_pos g]
  rw[h];exact sf v b w a l g
 rw[qd g];cases b with
 | nil=>
  have h:rQ (false,[])=(2,dI):=by unfold rQ;rw[if_pos pE]
  rw[h];exact qy v w a
 | cons k r=>
  have c:bA r:=fun x hx=>i x (List.mem_cons_of_mem _ hx)
  have d:r.length+1<=8000:=by have:(k :: r).length=r.length+1:=rfl;omega
  unfold rQ;rw[nF];simp only[Bool.false_eq_true,if_false];by_cases f:wi k 1 7=false
  ·rw[if_pos f];exact sg v k r w a i d f
  ·rw[if_neg f];have j:wi k 1 7=true:=by
    cases h:wi k 1 7
    ·exact absurd h f
    ·rfl
   rw[sL,<-xY k r j c];rcases jz (bJ.1 j)with h1 | h1 | h1 | h1 | h1 | h1 | h1
   ·subst h1;exact yw v r w a c d
   ·subst h1;exact yx v r w a c d
   ·subst h1;exact yy v r w a c d
   ·subst h1;exact yz v r w a c d
   ·subst h1;exact yA v r w a c d
   ·subst h1;exact yC v r w a c d
   ·subst h1;exact yB v r w a c d
theorem uJ (F:Nat->Prop) (b:Nat) (s:eb) (v:DG) (a:List Int) (k at' y:Int) (w:DF) (V:fb F w b s) (a8:ey s) (j:s.ids.length<=1048576) (hR:Rd w .u8 v a) (a3:bA a) (a2:a.length<=9000) (hg:dX w):
  DN DE 21 #[.pointer (some ⟨b,0,none⟩),v,.int .i64 k,.int .i64 at',.int .i64 y] w fun e w'=>zV b (fN s k at' y a) w e w':=by
 obtain⟨p,c,bh,_,_⟩:=hR.form;subst bh;have HD:=aa (DT V (DT a8 (DT j (DT V.lt V.nb))));have HP:=aa (si (.slice p a.length c) a w hR a3 a2);have Hg:=aa hg;obtain⟨nb,a7⟩:=exq a.length;rw[<-a7]at HP⊢;clear V a8 j hR a3 a2 hg a7;go_enter Tryz.func21,Tryz.ntmps21
 go_wp2_with fail
 refine HP.mono ?_;rintro e I ⟨v2,rfl,⟨pp,ps,H,L,rfl,aY⟩,aV⟩;have M:=aa aY;have aK:=aa aV;obtain⟨l,f⟩:=exq ((dM a).2);obtain⟨Z,Y⟩:=exq ((dM a).1);have HA:Hid (¬Z=0->fN s k at' y a=([],false)):=aa fun q=>by unfold fN;rw[if_neg (by rw[<-Y];exact q)]
 have ad:Hid (Z=0->fN s k at' y a=if (bO s l).2=true then(if (bE k at' y (bO s l).1).2=true then(if aW (bE k at' y (bO s l).1).1=0 then(bL (bE k at' y (bO s l).1).1,true)else([],false))else([],false))else([],false)):=aa fun q=>by unfold fN;rw[if_pos (by rw[<-Y];exact q),<-f]
 rw[<-f]at M⊢;rw[<-Y];clear aY aV f Y HP;obtain⟨T,ar⟩:=av.fresh (cs:=cL l pp ps H) I 43 zL rfl (cg _ _ _ _);have C:=aa (aI (P:=DE) (cs:=cL l pp ps H) I 43 zL rfl M.Cr.one (ty:=43) (by kernel_rfl))
 go_wp2_with (with_reducible refine aC (ty:=43) ?_)
 refine au ?_;refine ag rfl rfl C ?_;obtain⟨W3,a0⟩:=exq ((I.alloc (.cells zL 43)).setCells I.heap.size 0 (cL l pp ps H));obtain⟨bn,an⟩:=exq I.heap.size;rw[<-a0]at T ar⊢;rw[<-an]at T⊢;have aH:=aa T;have af:=aa ar;have bo:=aa an;clear T ar a0 an C;have o:Hid (az w W3):=aa (aK.trans af);have aL:Hid (bZ (fun i=>w.heap.size<=i) W3 l pp ps H L):=aa (M.kept fun i j f=>⟨j,af.block i f⟩);clear M aK af;by_cases aE:Z=0;case neg=>
  have d:=aa (HA aE);have bp:¬((Z:Int)=0):=by omega
  clear HA ad
  go_wp2_with fail
  go_ret2;unfold zV;rw[d.out];exact⟨none,0,0,rfl,(fun q=>(by cases q)),Kq.AI o,ka.AI o⟩
 have r:=aa (ad aE);subst aE;clear HA ad;have g:=aa (aH.load (P:=DE) DU rfl (by kernel_rfl))
 go_wp2_with (with_reducible refine aA (ty:=43) ?_)
 refine au ?_;refine ak rfl g ?_;clear g
 go_wp2_with fail
 refine(qw (fun i=>F i\/w.heap.size<=i) b s l pp ps H L W3 (fb.kept (Q:=fun _=>False) HD.1 (Kq.AI o) (fun _ q=>q.elim) (fun i q _=>.inl q) (fun q=>q.elim HD.2.2.2.2 fun q=>by have:=HD.2.2.2.1;omega)) HD.2.1 (aL.kept fun i j _=>⟨.inr j,rfl⟩) HD.2.2.1 (Hg.ext o)).mono ?_;rintro e m ⟨ap,S,R,A,rfl,W,_,aZ,aU⟩;have ah:Hid (Kb b w m):=aa ((Kb.AI o).own aZ aU);obtain⟨x,hx⟩:=exq ((bO s l).1);obtain⟨is,aB⟩:=exq ((bO s l).2);have aO:Hid (fv x/\(-1125899906842624<=x.id/\x.id<=1125899906842624)):=aa (by rw[hx];exact⟨sT HD.2.1,sU⟩);rw[<-hx,<-aB]at r;rw[<-hx]at W⊢;rw[<-aB];have aR:=aa W.Cr;have aM:=aa W;have bc:Hid (w.heap.size<=m.heap.size):=aa ah.1.size;clear W aZ aU hx aB aL aH o;obtain⟨U,aw⟩:=av.fresh (cs:=cL x ap S R) m 43 zL rfl (cg _ _ _ _);have C:=aa (aI (P:=DE) (cs:=cL x ap S R) m 43 zL rfl aR.one (ty:=43) (by kernel_rfl))
 go_wp2_with (with_reducible refine aC (ty:=43) ?_)
 refine au ?_;refine ag rfl rfl C ?_;obtain⟨O,a1⟩:=exq ((m.alloc (.cells zL 43)).setCells m.heap.size 0 (cL x ap S R));obtain⟨n,ao⟩:=exq m.heap.size;rw[<-a1]at U aw⊢;rw[<-ao]at U⊢;have J:=aa U;have K:=aa aw;have aJ:=aa ao;clear U aw a1 ao C;have ai:Hid (Kb b w O):=aa (ah.ext K);have aP:Hid (gD n O (.agg (cL x ap S R).toArray) x):=aa ⟨_,_,_,_,rfl,aM.kept fun i _ f=>⟨⟨Nat.lt_of_lt_of_le f K.size,by have:=aJ.out;omega⟩,K.block i f⟩⟩;have ba:Hid (n < O.heap.size):=aa J.lt;have a9:Hid (w.heap.size<=n):=aa (by rw[aJ.out];exact bc);have N:Hid (∀w',Kb b w w'->Kq (fun i=>i=b) w w'/\ka b w w'):=aa fun w' h=>⟨h.1.mono fun i j q=>by omega,h.2⟩
 clear aR aM ah K;cases is with
 | false=>
  have d:Hid (fN s k at' y a=([],false)):=aa (by rw[r.out];rfl);clear r
  go_wp2_with fail
  go_ret2;unfold zV;rw[d.out];exact⟨none,0,0,rfl,(fun q=>(by cases q)),N _ ai⟩
 | true=>
  have t:Hid (fN s k at' y a=if (bE k at' y x).2=true then(if aW (bE k at' y x).1=0 then(bL (bE k at' y x).1,true)else([],false))else([],false)):=aa (by rw[r.out];rfl);clear r;have g:=aa (J.load (P:=DE) DU rfl (by kernel_rfl))
  go_wp2_with (with_reducible refine aA (ty:=43) ?_)
  refine au ?_;refine ak rfl g ?_;clear g
  go_wp2_with fail
  refine(qj k at' y _ x O aP aO.1 aO.2).mono ?_;rintro e w6 ⟨v6,rfl,⟨E,G,D,B6,rfl,X⟩,aq⟩;have bb:Hid (Kb b w w6):=aa (ai.ext aq);have ae:=aa (J.ext aq);obtain⟨z,hz⟩:=exq ((bE k at' y x).1);obtain⟨iz,aD⟩:=exq ((bE k at' y x).2);rw[<-hz,<-aD]at t;rw[<-hz]at X⊢;rw[<-aD];have bd:=aa X;have aS:=aa (ae.store (P:=DE) (cs':=cL z E G D) rfl X.Cr.one (ty:=43) (by kernel_rfl));have aG:=aa (ae.set (cs':=cL z E G D) rfl);have aj:Hid (Kb b w (w6.setCells n 0 (cL z E G D))):=aa (bb.kq ((Kq.refl w6).setCells (Q:=fun i=>i=n) rfl 0 _) fun i q=>by have:=a9.out;omega);clear X aq hz aD aP J ai
  go_wp2_with (with_reducible refine aC (ty:=43) ?_)
  refine au ?_;refine ag rfl rfl aS ?_;cases iz with
  | false=>
   have d:Hid (fN s k at' y a=([],false)):=aa (by rw[t.out];rfl);clear t
   go_wp2_with fail
   go_ret2;unfold zV;rw[d.out];exact⟨none,0,0,rfl,(fun q=>(by cases q)),N _ aj⟩
  | true=>
   have u:Hid (fN s k at' y a=if aW z=0 then(bL z,true)else([],false)):=aa (by rw[t.out];rfl);clear t;have aQ:Hid (dH (w6.setCells n 0 (cL z E G D)) (.agg (cL z E G D).toArray) z):=aa (⟨_,_,_,_,_,rfl,(bd.kept (F':=fun _=>True) fun i j f=>⟨trivial,dx _ _ _ (mX.refl _ _) i (fun q=>by have:=ba.out;omega)⟩).Cr⟩);have g:=aa (aG.load (P:=DE) DU rfl (by kernel_rfl))
   go_wp2_with (with_reducible refine aA (ty:=43) ?_)
   refine au ?_;refine ak rfl g ?_;clear g
   go_wp2_with fail
   refine(oH _ z _ aQ).mono ?_;rintro e w8 ⟨v8,rfl,ay,aX⟩;have aN:Hid (Kb b w w8):=aa (aj.ext aX);obtain⟨p8,c8,bg,_,_⟩:=ay.form;subst bg;have B:=aa ay;obtain⟨n8,a6⟩:=exq ((if aW z=0 then bL z else []).length);rw[<-a6]at B⊢;clear aX ay a6 aQ aG aj ae aS;obtain⟨ck,a4⟩:=exq (aW z);rw[<-a4]at B u⊢;clear a4;by_cases h0:ck=0
   ·have d:Hid (fN s k at' y a=(bL z,true)):=aa (by rw[u.out,if_pos h0]);rw[if_pos h0]at B;subst h0;clear u
    go_wp2_with fail
    go_ret2;unfold zV;rw[d.out];exact⟨_,_,_,rfl,fun _=>B,N _ aN⟩
   ·have d:Hid (fN s k at' y a=([],false)):=aa (by rw[u.out,if_neg h0]);have h1:¬((ck:Int)=0):=by omega
    clear u B
    go_wp2_with fail
    go_ret2;unfold zV;rw[d.out];exact⟨p8,n8,c8,by simp[h0],(fun q=>(by cases q)),N _ aN⟩
end Go.Proofs.Bl
