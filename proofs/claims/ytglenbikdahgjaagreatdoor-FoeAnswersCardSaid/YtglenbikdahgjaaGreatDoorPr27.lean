/- Walk of baileelaw22.Of: where the letter's rows lie. -/
import Derived.ChangeMaps5
import Derived.Test.YtglenbikdahgjaaGreatDoorPr26
set_option maxRecDepth 100000
set_option maxHeartbeats 16000000
open And renaming intro->DT
open Go renaming Value->DG,World->DF,maxLen->DV
open Go.RowKit.Below renaming setCell->FC,trans->Ei
open List renaming length_take->DX,take_of_length_le->DW
open Nat renaming le_refl->DH,zero_le->DZ
namespace Go.Proofs.Bl
open Go Go.RowKit Go.Proofs
open Go.Proofs.Tryz renaming prog->DE,underlying187->IA,underlying189->GX,underlying26->DQ,underlying27->Fy,underlying43->DU,underlying5->Gy,underlying54->EC,underlying9->Gd
theorem xw (F:Nat->Prop) (l:Cp) (vp vs vb:DG) (L:List Sv) (w:DF) (h:bZ F w l vp vs vb L) (b0:∀b,F b->b < w.heap.size) (hl:l.shown.length<=1048576) (hp:∀s∈l.shown,s.2.2.length<=1048576):
  Calls DE 12 #[.agg (cL l vp vs vb).toArray] w fun e w'=>∃C L',e=.returned (.agg (cL l vp C vb).toArray)/\bZ (fun k=>F k\/w.heap.size<=k) w' l vp C vb L'/\az w w':=by
 have Y:=h.Cr;have a4:=aa h;have bG:=aa b0;clear h b0;have HC:=aa Y;have Hp:=aa hp;obtain⟨p2,c2,e2,c3,cX⟩:=Y.sh.rd.form;subst e2;obtain⟨p1,u,a,e1⟩:=Y.pl.CH;obtain⟨B,z,c,e3⟩:=Y.bl.CH;subst e1 e3;unfold DV at cX;have bc:Hid (l.shown.length=L.length):=aa (by rw[<-Y.sl,List.length_map]);obtain⟨N,aL⟩:=exq L.length;have bJ:=aa aL;have dw:N<=1048576:=by rw[aL,<-bc.out];exact hl
 rw[<-aL]at HC c3⊢;clear Y aL hl hp;obtain⟨t,id,A,pl,sh,r,p,G,f⟩:=l;obtain⟨O,X⟩:=exq ((w.alloc (.cells #[.int .i64 t,.int .i64 id,.int .i64 A,.slice p1 u a,.slice p2 N c2,.int .i64 r,.int .i64 p,.slice B z c,.int .i64 f] 26)).alloc (.cells zL 43));have aX:Hid (az w O):=aa (by rw[X];exact(ae _ _).trans (ae _ _));have bx:O.heap.size=w.heap.size+1+1:=by rw[X];simp
 have co:Hid (av O w.heap.size (cL ⟨t,id,A,pl,sh,r,p,G,f⟩ (.slice p1 u a) (.slice p2 N c2) (.slice B z c))):=aa (by rw[X];exact(av.box w 26 (cg _ _ _ _)).ext (ae _ _))
 have bB:Hid (av O (w.heap.size+1) (cL dI (.slice none 0 0) (.slice none 0 0) (.slice none 0 0))):=aa (by
  rw[X];have h:=av.box (w.alloc (.cells #[.int .i64 t,.int .i64 id,.int .i64 A,.slice p1 u a,.slice p2 N c2,.int .i64 r,.int .i64 p,.slice B z c,.int .i64 f] 26)) 43 (cg dI (.slice none 0 0) (.slice none 0 0) (.slice none 0 0));rw[show(w.alloc (.cells #[.int .i64 t,.int .i64 id,.int .i64 A,.slice p1 u a,.slice p2 N c2,.int .i64 r,.int .i64 p,.slice B z c,.int .i64 f] 26)).heap.size=w.heap.size+1 from by simp]at h
  exact h)
 obtain⟨bg,bi⟩:=av.fresh (cs:=cL ⟨t,id,A,pl,sh,r,p,G,f⟩ (.slice p1 u a) (.slice none 0 0) (.slice B z c)) O 43 zL rfl (cg _ _ _ _);have E:=aa (aI (P:=DE) (cs:=cL ⟨t,id,A,pl,sh,r,p,G,f⟩ (.slice p1 u a) (.slice none 0 0) (.slice B z c)) O 43 zL rfl (bk HC.pl.CH jW HC.bl.CH) (ty:=43) (by kernel_rfl));rw[bx]at bg bi E;have aQ:=aa bg;have aY:=aa bi;clear bg bi;have be:=aa bx;clear bx;show Calls DE 12 #[.agg #[.int .i64 t,.int .i64 id,.int .i64 A,.slice p1 u a,.slice p2 N c2,.int .i64 r,.int .i64 p,.slice B z c,.int .i64 f]] w _;go_enter Tryz.func12,Tryz.ntmps12
 go_wp2_with (with_reducible refine aC (ty:=43) ?_)
 refine au ?_;rw[<-X];clear X;refine ag rfl rfl E ?_;obtain⟨W3,b3⟩:=exq ((O.alloc (.cells zL 43)).setCells (w.heap.size+1+1) 0 (cL ⟨t,id,A,pl,sh,r,p,G,f⟩ (.slice p1 u a) (.slice none 0 0) (.slice B z c)));rw[<-b3]at aQ aY⊢;clear b3 E;have cr:Hid (GR cS 3 ez (fun b=>F b\/w.heap.size+1+1 < b) (w.heap.size+1+1) 100 W3 (w.heap.size+1+1) 4 (cL ⟨t,id,A,pl,sh,r,p,G,f⟩ (.slice p1 u a) (.slice none 0 0) (.slice B z c)) (.slice none 0 0) []):=aa (GR.start aQ rfl);have de:=(co.ext aY).cell (i:=4) rfl
 go_wp2_with fail
 clear de aQ;go_loopw [29] (fun x wr=>∃(i:Nat) (C:DG) (M:List Sv),i<=N/\x=.int .i64 i/\Hid (GR cS 3 ez (fun b=>F b\/w.heap.size+1+1 < b) (w.heap.size+1+1) 100 wr (w.heap.size+1+1) 4 (cL ⟨t,id,A,pl,sh,r,p,G,f⟩ (.slice p1 u a) C (.slice B z c)) C M/\M.length=i/\M.map cf=sh.take i)/\az O wr) (fun x _=>N - (intOf x).toNat);case atStart=>exact⟨0,_,[],DZ _,rfl,aa ⟨cr,rfl,rfl⟩,aY⟩
 case round=>
  obtain⟨i,C,M,hi,rfl,D,hE⟩:=hrel;have HE:=aa hE;clear hE;by_cases c1:i < N
  ·have aB:i < L.length:=by rw[<-bJ.out];exact c1
   have cp:=aa (aX.trans HE);have bj:=HC.sh.ext cp;obtain⟨g,o,dn,dd,cZ,cY,dq,cc⟩:=bj.pos (by omega);injection dd with c4 c5 c6;subst c4 c6;have aN:=cc i aB;have bt:=a4.so _ (aH s0 aB);have Z:=bj.ok _ (aH s0 aB);have bv:cf (L.getD i s0)=sh.getD i h0:=by rw[<-cR];rw[show L.map cf=sh from HC.out.sl]
   have bo:i < sh.length:=by have h:=bc.out;have h2:sh.length=L.length:=h;omega
   have bw:(L.getD i s0).2.2.2.length<=1048576:=by have:=Hp (sh.getD i h0) (aH h0 bo);rw[<-bv]at this;exact this
   have bL:Hid (sh.take (i+1)=sh.take i++[cf (L.getD i s0)]):=aa (by rw[bv];exact aP h0 sh i bo);obtain⟨x,hx⟩:=exq (L.getD i s0);rw[<-hx]at aN Z bt bw bL;clear hx bv bo;obtain⟨I,⟨u1,st⟩,u2,pa⟩:=x;have bd:=aa bt;have af:=aa Z;obtain⟨q2,d2,cj,ck,df⟩:=Z.pa.form;obtain⟨J,H,d1,ci⟩:=Z.st.CH;simp only at cj ck bw ci;subst cj ci;obtain⟨m,hm⟩:=exq pa.length;have W:=aa hm;rw[<-hm]at ck bw aN;have ch:uL wr (I,(.slice J H d1,st),.slice q2 m d2,pa):=by rw[hm];exact Z
   have ad:=aa (run_loadAt_mid (P:=DE) wr g (o+i*3) 57 _ _ aN Tryz.underlying57 rfl (by rw[bz];kernel_rfl));obtain⟨bQ,bU⟩:=av.fresh (cs:=cS (I,(.slice J H d1,st),.slice q2 m d2,pa)) wr 57 fj rfl (pd _);have E:=aa (aI (P:=DE) (cs:=cS (I,(.slice J H d1,st),.slice q2 m d2,pa)) wr 57 fj rfl (gP ch) (ty:=57) (by rw[bz];kernel_rfl));have U:=aa bQ;have ac:=aa bU;have ds:(0:Int)<=(i:Int):=by omega
   have dt:(i:Int) < (N:Int):=by omega
   have a9:Hid (w.heap.size+1+1 < wr.heap.size/\∀k,C.ownBlock=some k->k < wr.heap.size):=aa ⟨D.1.box.lt,fun k hk=>(D.1.own.lt k hk).2⟩;clear cc aN Z bt ch c5 cZ cY aB bj bQ bU hm df
   go_wp2_with first | ((with_reducible refine ak ?_ ad.out ?_);rfl) | (with_reducible refine aC (ty:=57) ?_)
   refine au ?_;refine ag rfl rfl E ?_;obtain⟨Q,b4⟩:=exq ((wr.alloc (.cells fj 57)).setCells wr.heap.size 0 (cS (I,(.slice J H d1,st),.slice q2 m d2,pa)));obtain⟨X5,bl⟩:=exq wr.heap.size;rw[<-b4]at U ac⊢;rw[<-bl]at U a9⊢;have cy:Hid (X5<=Q.heap.size):=aa (by rw[bl];exact ac.size);clear b4 bl E ad;obtain⟨bR,bV⟩:=av.fresh (cs:=[.int .i64 I,.slice J H d1,.slice none 0 0]) Q 100 fj rfl (fun h=>by cases h);have E:=aa (aI (P:=DE) (cs:=[.int .i64 I,.slice J H d1,.slice none 0 0]) Q 100 fj rfl (eu af.st.CH jW) (ty:=100) (by kernel_rfl));have aR:=aa bR;have a0:=aa bV;have g0:=U.cell (i:=0) rfl;have g1:=U.cell (i:=1) rfl;clear bR bV
   go_wp2_with (with_reducible refine aC (ty:=100) ?_)
   refine au ?_;refine ag rfl rfl E ?_;obtain⟨W6,b5⟩:=exq ((Q.alloc (.cells fj 100)).setCells Q.heap.size 0 [.int .i64 I,.slice J H d1,.slice none 0 0]);obtain⟨X6,bm⟩:=exq Q.heap.size;rw[<-b5]at aR a0⊢;rw[<-bm]at aR⊢;have cz:=aa bm;clear b5 bm E g0 g1;have g2:=(U.ext a0).cell (i:=2) rfl;have ct:Hid (GR (ao .u8) 32 jb (fun _=>True) Q.heap.size 52 W6 X6 2 [.int .i64 I,.slice J H d1,.slice none 0 0] (.slice none 0 0) []):=aa (GR.start aR rfl)
   go_wp2_with fail
   clear g2 U;go_loopw [41] (fun y wq=>∃(j:Nat) (vq:DG),j<=m/\y=.int .i64 j/\Hid (GR (ao .u8) 32 jb (fun _=>True) Q.heap.size 52 wq X6 2 [.int .i64 I,.slice J H d1,vq] vq (pa.take j))/\az Q wq) (fun y _=>m - (intOf y).toNat);case atStart=>exact⟨0,_,DZ _,rfl,ct,a0⟩
   case round=>
    obtain⟨j,vq,hj,rfl,HJ,bW⟩:=hrel;have aw:=aa bW;clear bW;by_cases cd:j < m
    ·have aD:j < pa.length:=by rw[<-W.out];exact cd
     obtain⟨b1,o1,a,bu,c7,c8,cW,cl⟩:=eY.pos (bh.ext (bh.ext af.pa ac) aw) af.dg (by have:=W.out;simp only;omega);injection bu with bu c9 dc;subst bu;have aM:=dW cl af.dg (i:=j) aD;obtain⟨S,_⟩:=af.dg.get (i:=j) aD;have bK:=aa (aP [] pa j aD);have bN:Hid ((pa.take j).length=j):=aa (by rw[DX];have:=W.out;omega);simp only at aM S;obtain⟨d,hd⟩:=exq (pa.getD j []);rw[<-hd]at aM S bK;have ad:=aa (bC (P:=DE) (ty:=54) aM EC (by kernel_rfl) S);have ce:ao .u8 d≠[]:=fun q=>by have:=congrArg List.length q;rw[ints_length,S]at this;cases this
     obtain⟨bS,bY⟩:=av.fresh (cs:=ao .u8 d) wr 54 zA (by rw[ints_length,S];rfl) ce;have E:=aa (aI (P:=DE) (cs:=ao .u8 d) wr 54 zA (by rw[ints_length,S];rfl) (aF _ _) (ty:=54) (by rw[ints_length,S];kernel_rfl));have aT:=aa bS;have a1:=aa bY;have ba:=aa S;have du:(0:Int)<=(j:Int):=by omega
     have dv:(j:Int) < (m:Int):=by omega
     clear cl aM S ce hd bS bY c7 c8 c9 dc cW aD
     go_wp2_with first | ((with_reducible refine ak ?_ ad.out ?_);rfl) | (with_reducible refine aC (ty:=54) ?_)
     refine au ?_;refine ag rfl rfl E ?_;obtain⟨W8,b6⟩:=exq ((wr.alloc (.cells zA 54)).setCells wr.heap.size 0 (ao .u8 d));obtain⟨X8,b9⟩:=exq wr.heap.size;rw[<-b6]at aT a1⊢;rw[<-b9]at aT⊢;clear b6 b9 E ad;have bI:=aa (GR.ext bX HJ a1);have gq:=bI.cell;have bb:=aa (bC (P:=DE) (ty:=54) aT.rg EC (by kernel_rfl) ba)
     go_wp2_with (with_reducible refine aA (ty:=54) ?_)
     refine au ?_;refine ak rfl bb ?_
     go_wp2_with (with_reducible refine db (ty:=96) ?_)
     refine au ?_;refine da lP (by decide) rfl (by simp[ba.out]) ?_;have a2:Hid (az W8 (W8.alloc (.cells (ao .u8 d).toArray 52))):=aa (ae _ _);have a8:=aa (sC W8 52 (ao .u8 d));obtain⟨W9,b7⟩:=exq (W8.alloc (.cells (ao .u8 d).toArray 52));obtain⟨X9,ca⟩:=exq W8.heap.size;rw[<-b7]at a2 a8⊢;rw[<-ca]at a8⊢;clear b7 ca gq;have V:=aa (GR.ext bX bI a2);have bF:=aa ((aw.trans a1).trans a2)
     go_wp2_with (with_reducible refine ax ?_)
     refine au ?_;refine aZ lP (V.C7 bN) a8 rfl rfl (by rw[ints_length,ba.out]) (aF _ _) (by unfold DV;omega) (by omega) (bF.size) ?_;intro di cO cm an R al am bq bn;have HP:=aa (GR.push (y:=d) bX V bN an R am trivial);have gb:=(V.Cz R).cell V.CC;have gf:=(V.Cz R).fz V.lt;have aW:=aa (Ei bF al);clear an R al am bq bn
     go_wp2_with fail
     go_roundw;case rel=>exact⟨j+1,_,by omega,by go_num,aa (by rw[bK.out];exact HP),FC aW (by rw[cz.out];exact DH _) _⟩
     case measure=>simp[intOf];omega
    ·obtain rfl:j=m:=by omega
     clear cd hj;have bH:=aa (GR.ext aU D.1 (ac.trans aw));have a5:=aa D.2.1;have cw:=aa D.2.2;have cD:Hid (pa.take j=pa):=aa (DW (by rw[<-W.out];exact DH _));have cu:=aa HJ.box;have ay:=aa (HJ.C7 (n:=j) (by rw[DX,<-W.out,Nat.min_self]));rw[cD.out]at ay;obtain⟨pq,cq,dh,_,_⟩:=(bh.AS ay).form;subst dh;clear D HJ;have gq:=bH.cell;have bb:=aa (cu.load (P:=DE) Tryz.underlying100 rfl (by kernel_rfl))
     go_wp2_with (with_reducible refine aA (ty:=100) ?_)
     refine au ?_;refine ak rfl bb ?_
     go_wp2_with (with_reducible refine db (ty:=41) ?_)
     refine au ?_;refine da iJ (by decide) rfl rfl ?_;have ar:Hid (az wr (wr.alloc (.cells ([.int .i64 I,.slice J H d1,.slice pq j cq]:List DG).toArray 100))):=aa (ae _ _);have a7:=aa (sC wr 100 [.int .i64 I,.slice J H d1,.slice pq j cq]);obtain⟨cH,b2⟩:=exq (wr.alloc (.cells ([.int .i64 I,.slice J H d1,.slice pq j cq]:List DG).toArray 100));obtain⟨dk,b8⟩:=exq wr.heap.size;rw[<-b2]at ar a7⊢;rw[<-b8]at a7⊢;clear b2 b8 gq;have T:=aa (GR.ext aU bH ar);have a3:=aa ((HE.trans (ac.trans aw)).trans ar)
     have cx:Hid (ez (fun b=>b≠w.heap.size+1+1/\C.ownBlock≠some b/\(F b\/w.heap.size+1+1 < b)) cH (I,(.slice J H d1,st),.slice pq j cq,pa)):=aa (by
      refine⟨aS.kept bd.st (fun b K _=> ?_),bd.bs,aS.By (bh.ext (by rw[<-W.out];exact bh.AS ay) ar) (fun b K _=> ?_),bd.dg⟩
      ·have cV:=bG b K;refine⟨⟨by omega,fun q=> ?_,.inl K⟩,(aX.trans a3).block b cV⟩;have:=(T.own.lt b q).1;omega
      ·have h1:=(ay.lt b K).1;have h2:=cy.out;have h3:=a9.1;refine⟨by omega,fun q=> ?_,.inr (by omega)⟩;have:=a9.2 b q
       omega)
     go_wp2_with (with_reducible refine ax ?_)
     refine au ?_;refine aZ iJ (T.C7 a5) a7 rfl rfl rfl (eu ⟨_,_,_,rfl⟩ ⟨_,_,_,rfl⟩) (by unfold DV;omega) (by omega) (by have:=a3.size;rw[be.out]at this;exact this) ?_;intro di cO cm an R al am bq bn;have HP:=aa (GR.push (y:=(I,(.slice J H d1,st),.slice pq j cq,pa)) aU T a5 an R am cx.out);have gb:=(T.Cz R).cell T.CC;have gf:=(T.Cz R).fz T.lt;have aW:Hid (az O cm):=aa (Ei a3 (by rw[be.out];exact al));clear an R al am bq bn
     go_wp2_with fail
     go_roundw;case rel=>exact⟨i+1,_,_,by omega,by go_num,aa ⟨HP,by rw[List.length_append,a5.out];rfl,by rw[List.map_append,cw.out,bL.out];rfl⟩,FC aW (by rw[be.out];exact DH _) _⟩
     case measure=>simp[intOf];omega
  ·obtain rfl:i=N:=by omega
   have bD:=aa D.1.box;have aV:=aa (bB.ext HE);have cE:=aa (bh.AS D.1.own).CH;have cA:=aa (bD.load (P:=DE) DU rfl (by kernel_rfl));have E:=aa (aV.store (P:=DE) (cs':=cL ⟨t,id,A,pl,sh,r,p,G,f⟩ (.slice p1 u a) C (.slice B z c)) rfl (bk ⟨_,_,_,rfl⟩ cE ⟨_,_,_,rfl⟩) (ty:=43) (by kernel_rfl));have cB:=aa ((aV.set (cs':=cL ⟨t,id,A,pl,sh,r,p,G,f⟩ (.slice p1 u a) C (.slice B z c)) rfl).loadVar (P:=DE) DU rfl (by kernel_rfl));have bE:Hid (az w (wr.setCells (w.heap.size+1) 0 (cL ⟨t,id,A,pl,sh,r,p,G,f⟩ (.slice p1 u a) C (.slice B z c)))):=aa (aE _ _ _ _ (aX.trans HE) (Nat.le_succ _))
   have cv:Hid (bZ (fun k=>F k\/w.heap.size<=k) (wr.setCells (w.heap.size+1) 0 (cL ⟨t,id,A,pl,sh,r,p,G,f⟩ (.slice p1 u a) C (.slice B z c))) ⟨t,id,A,pl,sh,r,p,G,f⟩ (.slice p1 u a) C (.slice B z c) M):=aa (by
    have hk:∀b,b≠w.heap.size+1->(wr.setCells (w.heap.size+1) 0 (cL ⟨t,id,A,pl,sh,r,p,G,f⟩ (.slice p1 u a) C (.slice B z c))).heap[b]? =wr.heap[b]? :=fun b K=>dx _ _ _ (mX.refl _ _) b K
    have bp:∀b,F b->b < w.heap.size->(F b\/w.heap.size<=b)/\(wr.setCells (w.heap.size+1) 0 (cL ⟨t,id,A,pl,sh,r,p,G,f⟩ (.slice p1 u a) C (.slice B z c))).heap[b]? =w.heap[b]? :=fun b K hl=>⟨.inl K,bE.block b hl⟩
    obtain⟨M0,b1,cM,cN⟩:=a4.bl;refine⟨a4.pl.kept bp,aS.By (bh.kept (bh.AS D.1.own) (fun k q _=>hk k (by have:=(D.1.own.lt k q).1;omega))) (fun k q _=>.inr (by have:=(D.1.own.lt k q).1;omega)),fun x hx=>aU _ _ _ _ _ (D.1.ok x hx) (fun b K _=>⟨?_,hk b ?_⟩),?_,M0,b1.kept bp,fun y hy=>br _ _ _ _ _ (cM y hy) bp,cN⟩
    ·rcases K.2.2 with q | q
     ·exact .inl q
     ·exact .inr (by omega)
    ·rcases K.2.2 with q | q
     ·have:=bG b q;omega
     ·omega
    rw[D.out.2.2];have h:sh.length=L.length:=bc.out
    exact DW (by have:=bJ.out;omega))
   clear D bB bD aV
   go_wp2_with (with_reducible refine aA (ty:=43) ?_)
   refine au ?_;refine ak rfl cA ?_
   go_wp2_with (((with_reducible refine bM ?_ ?_ E.out ?_);rfl;rfl))
   refine bodyPost_ret (v:=.agg (cL ⟨t,id,A,pl,sh,r,p,G,f⟩ (.slice p1 u a) C (.slice B z c)).toArray) (aG rfl rfl cB) rfl ⟨_,M,rfl,cv,bE⟩
theorem yD (F:Nat->Prop) (l:Cp) (vp vs vb:DG) (L:List Sv) (w:DF) (h:bZ F w l vp vs vb L) (c:l.shown.length<=1048576) (hp:∀s∈l.shown,s.2.2.length<=1048576):
  Calls DE 12 #[.agg (cL l vp vs vb).toArray] w fun e w'=>∃a b,e=.returned (.agg (cL l vp a vb).toArray)/\bZ (fun k=>F k\/w.heap.size<=k) w' l vp a vb b/\az w w':=by
 refine(xw (fun i=>F i/\i < w.heap.size) l vp vs vb L w (h.kept fun i f c=>⟨⟨f,c⟩,rfl⟩) (fun i q=>q.2) c hp).mono ?_;rintro e w' ⟨a,b,h1,h2,d⟩;exact⟨a,b,h1,h2.kept fun i q _=>⟨q.imp (fun q=>q.1) id,rfl⟩,d⟩
theorem mD (v0 v1:DG) (k at' y:Int) (j:List (List Int)) (xs:List Int) (w:DF) (S:List Nat) (a:Nat->Addr) (hR:bf w v0 j) (bO:∀p∈j,bA p) (hX:Rd w .u8 v1 xs) (bX:bA xs) (hg:dX w) (hw:my w) (he:kz S a w) (s1:1∈S) (s2:2∈S) (s3:3∈S) (s4:4∈S) (s7:7∈S) (s8:8∈S):
  Calls DE 4 #[v0,v1,.agg #[.int .i64 k,.int .i64 at',.int .i64 y]] w fun e w'=>e=.returned (.bool true)/\az w w':=by
 have cc:=hR;obtain⟨ws,hv,_,_⟩:=cc;obtain⟨p,c,cj,_,_⟩:=hv.form;subst cj;obtain⟨px,cx,ck,cl,cm⟩:=hX.form;subst ck;have U:=aa (DT hR bO);have Y:=aa (DT hX bX);have Z:=aa hg;have Hw:=aa hw;have He:=aa he;have F:=aa (DT s1 (DT s3 (DT s4 (DT s7 s8))));have x:=aa (DT s1 (DT s2 (DT s3 (DT s4 (DT s7 s8)))));obtain⟨n,hn⟩:=exq j.length;obtain⟨nx,aW⟩:=exq xs.length;have z:=aa (DT hn aW);rw[<-hn];rw[<-aW]at cl⊢;obtain⟨W0,af⟩:=exq (w.alloc (.cells #[.int .i64 k,.int .i64 at',.int .i64 y] 65));have al:Hid (az w W0):=aa (by rw[af];exact ae _ _);have ay:Hid (av W0 w.heap.size [.int .i64 k,.int .i64 at',.int .i64 y]):=aa (by rw[af];exact av.box (cs:=[.int .i64 k,.int .i64 at',.int .i64 y]) w 65 (fun q=>by cases q));obtain⟨T0,ad⟩:=exq w.heap.size;rw[<-ad]at ay;have cv:=aa ad;unfold DV at cm;clear hR bO hv hX bX hg hw he s1 s2 s3 s4 s7 s8 hn aW;go_enter Tryz.func4,Tryz.ntmps4
 go_wp2_with fail
 rw[<-af,<-ad];clear af ad;refine(yt W0 (Hw.ext al)).mono ?_;rintro e o ⟨rfl,aJ⟩;have D:=aa (al.trans aJ);have bp:=aa (ay.ext aJ);clear aJ ay al
 go_wp2_with fail
 refine(vV _ j o 40 (by rw[z.out.1];exact bf.ext U.1 D)).mono ?_;rintro e w2 ⟨aY,ch⟩;replace aY:=aY.symm;subst aY;rcases ch with rfl | ⟨rfl,bR,bS⟩
 ·go_wp2_with fail
  go_ret;exact⟨rfl,D⟩
 have cw:=aa (DT bR bS);clear bR bS;by_cases cE:(8100:Int) < (nx:Int)
 ·go_wp2_with fail
  go_ret;exact⟨rfl,D⟩
 have bv:Hid (nx<=8100):=aa (by omega)
 go_wp2_with fail
 refine(xc o).mono ?_;rintro e v1 ⟨b,m,B,rfl,cd,ce,cf,bL,bM,bN,-,hB,hM,aQ,aR⟩;have X:(v1.alloc (.cells #[.slice none 0 0,.slice none 0 0] 38)).heap.size=v1.heap.size+1:=World.size_alloc _ _;obtain⟨g,J⟩:=exq (v1.alloc (.cells #[.slice none 0 0,.slice none 0 0] 38));have W:Hid (az v1 g):=aa (by rw[J];exact ae _ _);have M:Hid (av g v1.heap.size [.slice none 0 0,.slice none 0 0]):=aa (by rw[J];exact av.box (cs:=[.slice none 0 0,.slice none 0 0]) v1 38 (fun q=>by cases q));obtain⟨d,aT⟩:=exq v1.heap.size;rw[<-aT]at M X;rw[<-J]at X;have bn:Hid (lE (fun i=>i=m\/i=B\/i=d) (fun i=>i=m\/i=B) g b uM):=aa ((lE.C6 hB hM aQ bL bM bN).ext W)
 have f:Hid (o.heap.size<=b/\o.heap.size<=m/\o.heap.size<=B/\b < d/\m < d/\B < d/\d < g.heap.size/\w.heap.size<=o.heap.size/\g.heap.size=d+1):=aa (by
  have:=X;have:=D.size;have:=hB.lt;have:=hM.lt;have:=aQ.lt;have:=M.lt
  omega)
 have bb:Hid (az w g):=aa ((D.trans aR).trans W);have bc:Hid (az o g):=aa (aR.trans W);have a7:Hid (av g d [.slice none 0 0,.slice none 0 0]):=M;clear cd ce cf bL bM bN hB hM aQ aR W M X;obtain⟨ab,aK⟩:=av.fresh (cs:=cL ⟨1,0,0,[],[],0,0,j,0⟩ ah ah (.slice p n c)) g 26 zL rfl (cg _ _ _ _);have bx:=aa (aI (P:=DE) (cs:=cL ⟨1,0,0,[],[],0,0,j,0⟩ ah ah (.slice p n c)) g 26 zL rfl (bk ⟨_,_,_,rfl⟩ ⟨_,_,_,rfl⟩ ⟨_,_,_,rfl⟩) (ty:=26) (by kernel_rfl))
 go_wp2_with (with_reducible refine aC (ty:=26) ?_)
 refine au ?_;rw[<-J,<-aT,show d+1=g.heap.size from f.out.2.2.2.2.2.2.2.2.symm];clear J aT;refine ag rfl rfl bx ?_;obtain⟨G,bK⟩:=exq ((g.alloc (.cells zL 26)).setCells g.heap.size 0 (cL ⟨1,0,0,[],[],0,0,j,0⟩ ah ah (.slice p n c)));obtain⟨L9,aM⟩:=exq g.heap.size;rw[<-bK]at ab aK⊢;rw[<-aM]at ab⊢;have C:=aa ab;have u:=aa aK;have b3:=aa aM;clear ab aK bK aM bx;have R:Hid (az w G):=aa (bb.trans u);have ap:Hid (kA w (cL ⟨1,0,0,[],[],0,0,j,0⟩ ah ah (.slice p n c)) ⟨1,0,0,[],[],0,0,j,0⟩ ah ah (.slice p n c) []):=aa ⟨rfl,Rd.nil _ _,oe.nil _,rfl,by rw[z.out.1];exact U.1,U.2⟩;have bq:=aa (bp.ext (bc.trans u));have aD:Hid (T0 < o.heap.size):=aa bp.lt;have a4:=aa (a7.ext u);have bm:=aa (bn.ext u);have E:Hid (d < L9/\L9 < G.heap.size/\g.heap.size<=G.heap.size):=aa (by have:=C.lt;have:=b3.out;have:=f.out;have:=u.size;omega);obtain⟨l,hl⟩:∃l:Cp,l=⟨1,0,0,[],[],0,0,j,0⟩:=⟨_,rfl⟩;rw[<-hl]at ap C;have Hl:=aa hl;clear bn a7 bb bc u hl;have t:=aa (C.load (P:=DE) DQ rfl (by kernel_rfl))
 go_wp2_with (with_reducible refine aA (ty:=26) ?_)
 refine au ?_;refine ak rfl t ?_;clear t
 go_wp2_with fail
 refine(qc b (fun i=>i=m\/i=B\/i=d) (fun i=>i=m\/i=B) uM _ l G S a bm ey.zero (fun i q=>q.imp id .inl) (fun i q=>by have:=f.out;have:=E.out;omega) (ap.Dp R fun i q=>by have:=f.out;omega) (Z.ext R).s (He.ext R) F.1 F.2.1 F.2.2.1 F.2.2.2.1 F.2.2.2.2).mono ?_;rintro e v4 ⟨q1,q2,q3,q4,rfl,_,aL⟩;have A:=aL.1;have a8:Hid (az w v4):=aa (R.trans' (N:=w.heap.size) (A.mono fun i _ q=>by have:=f.out;omega) (DH _));have a3:=aa (A.box (fun q=>by have:=f.out;have:=E.out;omega) C);have br:=aa (A.box (fun q=>by have:=f.out;have:=aD.out;omega) bq);have a5:=aa (A.box (fun q=>by have:=f.out;omega) a4);have bt:Hid (G.heap.size<=v4.heap.size):=aa A.size;have bg:=aa aL;clear aL A C bq a4 bm;have t:=aa (a3.load (P:=DE) DQ rfl (by kernel_rfl))
 go_wp2_with (with_reducible refine aA (ty:=26) ?_)
 refine au ?_;refine ak rfl t ?_;clear t
 go_wp2_with fail
 have be:Hid (bZ (fun i=>i < w.heap.size) v4 l ah ah (.slice p n c) []):=aa ((bZ.CV ap).kept fun i hi _=>⟨hi,a8.block i hi⟩);refine(yD (fun i=>i < w.heap.size) l ah ah (.slice p n c) [] v4 be (by rw[Hl.out];exact DZ _) (by rw[Hl.out];intro s hs;cases hs)).mono ?_;rintro e v5 ⟨cO,L5,rfl,bF,H⟩;have a9:Hid (az w v5):=aa (a8.trans H);have bs:=aa (br.ext H);have bd:=aa bF;have a6:Hid (fb (fun i=>i < w.heap.size\/v4.heap.size<=i) v5 d uM):=aa (fb.C6 (a5.ext H) (fun q=>by have:=f.out;have:=E.out;have:=bt.out;omega));have T:=aa H;clear bF H br a5 a3
 go_wp2_with fail
 refine(qw (fun i=>i < w.heap.size\/v4.heap.size<=i) d uM l _ _ _ _ v5 a6 ey.zero bd (DZ _) (Z.ext a9)).mono ?_;rintro e v6 ⟨r1,r2,r3,r4,rfl,_,aH,I,_⟩;obtain⟨s1,K⟩:=exq (du uM l);rw[<-K]at aH;have ao:=bg;rw[<-K]at ao;have bh:Hid (ey s1):=aa (by rw[K,Hl.out];exact ey.zero.Dx U.2);have an:Hid (az w v6):=aa (a9.trans' (N:=w.heap.size) (I.mono fun i _ q=>by have:=f.out;omega) (DH _));have aB:=aa (I.box (fun q=>by have:=f.out;have:=aD.out;omega) bs);have aj:Hid (fb (fun i=>i < w.heap.size\/v4.heap.size<=i) v6 d s1):=aa (aH.mono (fun i q _=>by have:=T.size;omega) (fun q=>by have:=f.out;have:=E.out;have:=bt.out;omega))
 have bo:Hid (∃N Q,lE N Q v6 b s1/\(∀i,Q i->N i)/\(∀i,N i->i < v6.heap.size)/\(∀i,Q i->o.heap.size<=i/\i < v4.heap.size/\i≠d)):=aa (by
  obtain⟨_,N',Q',⟨m',cu,cp,h1⟩,h2,h3,h4,h5,h6,h7⟩:=ao.out;have hq:∀i,Q' i->o.heap.size<=i/\i < v4.heap.size/\i≠d:=fun i q=>by
   have a1:=h7 i (h5 i q);rcases h6 i q with q | q
   ·have:=f.out;omega
   ·have:=f.out;have:=E.out;omega
  refine⟨N',Q',⟨m',cu,cp,(h1.ext T).kept I (fun i q=>⟨?_,fun r=>(hq i r).2.2 q,?_⟩) fun i q=>.inl q⟩,h5,fun i q=> ?_,hq⟩
  ·rw[show i=d from q];exact h3 d (.inr (.inr rfl))
  ·rw[show i=d from q];have:=f.out;omega
  ·have:=h7 i q;have:=T.size;have:=I.size;omega)
 have b5:=aa K;clear aH I K bg ao bs bd a6 T be;have bj:Hid (Rd v6 .u8 (.slice px nx cx) xs):=aa (by rw[z.out.2];exact Y.1.ext an);have t:=aa (aB.load (P:=DE) Tryz.underlying65 rfl (by kernel_rfl))
 go_wp2_with (with_reducible refine aA (ty:=65) ?_)
 refine au ?_;refine ak rfl t ?_;clear t
 go_wp2_with fail
 obtain⟨N,Q,bJ,bH,bI,aO⟩:=bo.out;have bi:=aa aO;have aq:Hid (∀w',Kq Q v6 w'->az w w'):=aa fun w' h=>an.trans' (N:=w.heap.size) (h.mono fun i _ q=>by have:=aO i q;have:=f.out;omega) (DH _)
 refine(xl b N Q s1 _ xs k at' y v6 S a bJ bh bH bI bj Y.2 (by rw[<-z.out.2];have:=bv.out;omega) (Z.ext an).s (fun w' h=>He.ext (aq w' h)) x.1 x.2.1 x.2.2.1 x.2.2.2.1 x.2.2.2.2.1 x.2.2.2.2.2).mono ?_;rintro e L ⟨p8,n8,c8,rfl,bU,ac⟩;have am:Hid (az w L):=aa (aq L ac);have V:=aa (ac.box (fun q=>by have:=bi _ q;have:=aD.out;omega) aB);have O:Hid (fb (fun i=>i < w.heap.size\/v4.heap.size<=i) L d s1):=aa (aj.kept ac (fun i q=>by have:=bi i q;have:=f.out;exact⟨by omega,by omega⟩) (fun i q _=>q) aj.nb);have ar:=aa bU;have bl:Hid (Rd L .u8 (.slice px nx cx) xs):=aa (by rw[z.out.2];exact Y.1.ext am);have b4:Hid (s1.ids.length<=1048576):=aa (by rw[b5.out];exact ur l);have q0:=V.cell (i:=0) (v:=.int .i64 k) rfl;have q1:=V.cell (i:=1) (v:=.int .i64 at') rfl;have q2:=V.cell (i:=2) (v:=.int .i64 y) rfl;clear bJ bH bI aO bU ac aB bo aj bj aq;obtain⟨pr,aX⟩:=exq (fN s1 k at' y xs);rw[<-aX]at ar⊢;have bw:=aa aX;clear aX
 go_wp2_with fail
 refine(uJ (fun i=>i < w.heap.size\/v4.heap.size<=i) d s1 _ xs k at' y L O bh b4 bl Y.2 (by rw[<-z.out.2];have:=bv.out;omega) (Z.ext am)).mono ?_;rw[<-bw.out];rintro e w9 ⟨p9,n9,c9,rfl,bV,bG,bE⟩;have ba:Hid (az w w9):=aa (am.trans' (N:=w.heap.size) (bG.mono fun i _ q=>by have:=f.out;omega) (DH _));have ax:=aa bV;have aw:Hid (pr.2=true->Rd w9 .u8 (.slice p8 n8 c8) pr.1):=aa fun q=>Rd.Dy (ar q) bE O.cells.1 O.cells.2
 obtain⟨ys,iz⟩:=pr;clear bV bG bE q0 q1 q2 ar V O bl bw;cases iz with
 | false=>
  clear ax aw
  go_wp2_with fail
  go_ret;exact⟨rfl,ba⟩
 | true=>
  have c1:=eE (P:=DE) (aw rfl) Fy Gy Gd;have c2:=eE (P:=DE) (ax rfl) Fy Gy Gd;clear ax aw
  go_wp2_with fail
  go_ret;exact⟨rfl,ba⟩
section
open Go.ChangeAt Go.ChangeShapes Go.WideShapes
theorem xx {L:List (String × DataW Unit)} {w:DF} (h:laidMetH DE L w)
  (h1:(L.filter fun x=>x.1== "bailee/sha.added")=[("bailee/sha.added",Lib.tabData .u32 kt)]) (h2:(L.filter fun x=>x.1== "bailee/sha.first")=[("bailee/sha.first",Lib.tabData .u32 iv)]):fO w:=
 ⟨iW h h1 (by kernel_rfl) (t:=189) (by kernel_rfl) GX IA (by kernel_rfl) (by kernel_rfl),
  iW h h2 (by kernel_rfl) (t:=205) (by kernel_rfl) Tryz.underlying205 IA (by kernel_rfl) (by kernel_rfl)⟩
theorem yE {L:List (String × DataW Unit)} {w:DF} (h:laidMetH DE L w)
  (h1:(L.filter fun x=>x.1== "bailee/sha.added")=[("bailee/sha.added",Lib.tabData .u32 kt)]) (h2:(L.filter fun x=>x.1== "bailee/sha.first")=[("bailee/sha.first",Lib.tabData .u32 iv)])
  (a:(L.filter fun x=>x.1== "bailee/baileeref07.added")=[("bailee/baileeref07.added",Lib.tabData .u32 kt)]) (b:(L.filter fun x=>x.1== "bailee/baileeref07.begins")=[("bailee/baileeref07.begins",Lib.tabData .u32 iv)]):dX w:=
 ⟨xx h h1 h2,
  iW h a (by kernel_rfl) (t:=189) (by kernel_rfl) GX IA (by kernel_rfl) (by kernel_rfl),
  iW h b (by kernel_rfl) (t:=188) (by kernel_rfl) Tryz.underlying188 IA (by kernel_rfl) (by kernel_rfl)⟩
end
section
open Go.ChangeAt Go.ChangeShapes Go.WideShapes
def tx:DataW Unit->List UInt8
 | .iface _ (.ptr (.agg [.lit (.string t)]))=>t
 | _=>[]
end
end Go.Proofs.Bl
