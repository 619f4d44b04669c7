/- Texts that stood apart, in one: LW3, LW4. -/
import Derived.Test.YtglenbikdahgjaaGreatDoorPs02
set_option maxRecDepth 100000
set_option maxHeartbeats 16000000
open Go renaming Calls->CZ,Value->CQ,World->CP,bodyPost_ret->De,maxLen->Dc,run_loadAt_mid->DS,run_loadVar_mid->Ep
open Go.BinOp renaming and->Gm
open Go.IntKind renaming u64->FH
open Go.IntWalk renaming i64_in->Fu
open Go.Region renaming wanted->C8
open Go.RowKit renaming Below->Et
open Go.RowKit.Below renaming refl->CT,setCell->E0,trans->DC
open Go.Value renaming int->Dx
open Go.World renaming block_lt_of_cell?->CW,cell?_setCell_same->Em,rangeAt_setCells_same->Dr,size_alloc->C4
open List renaming getD_eq_getElem?_getD->CR,getElem?_eq_getElem->CV,getElem_of_mem->Ev,length->Ej,length_append->C7,length_drop->C6,length_map->CY,length_nil->DY,length_take->Da,replicate->Dl,take_of_length_le->CX
open Nat renaming le_refl->CU,not_lt_zero->E2,zero_le->C9
namespace Go.Proofs.Bl
open Go Go.RowKit Go.Proofs
open Go.Proofs.Tryz renaming func175->Fw,ntmps175->Fp,prog->CO,underlying189->FW,underlying205->GC,underlying43->Db,underlying54->DF,underlying57->Er
theorem wD:kv CO 24 57 (.agg eS) 3 56:=⟨Tryz.underlying24,by kernel_rfl,rfl,by decide⟩
theorem rV:kv CO 41 100 (.agg eS) 3 56:=⟨Tryz.underlying41,by kernel_rfl,rfl,by decide⟩
theorem pR (v:CQ) (l:BC) (w:CP) (h:eg w v l):
  CZ CO 8 #[v] w fun e w'=>(e=.returned (.bool true)\/(e=.returned (.bool false)/\nh l))/\au w w':=by
 obtain⟨cs,vp,vs,vb,L,rfl,hc⟩:=h;obtain rfl:=hc.eq;obtain⟨H,id,I,pl,sh,E,D,f,C⟩:=l;obtain⟨_,ad,ag,ah,ar,av⟩:=hc;simp only at ad ah ar av;obtain⟨p1,z,e1,_,_⟩:=ad.form;obtain⟨p2,A,e2,a7,a0⟩:=ag.rd.form;obtain⟨bF,W,aF,aG⟩:=ar;obtain⟨J,B,e3,a8,a1⟩:=W.form;subst e1 e2 e3;unfold Dc at a0 a1;have HS:=aa ag;have HB:=aa W;have aP:=aa aF;have aQ:=aa aG;obtain⟨t,ab⟩:=exq pl.length;obtain⟨d,Q⟩:=exq L.length;obtain⟨c,O⟩:=exq f.length;have aO:=aa ab;have S:=aa Q;have K:=aa O;have an:=aa ah;have u:=aa (aw.box w 26 (bR ⟨H,id,I,pl,sh,E,D,f,C⟩ (.slice p1 t z) (.slice p2 d A) (.slice J c B)));have a:=aa (ae w (.cells (cL ⟨H,id,I,pl,sh,E,D,f,C⟩ (.slice p1 t z) (.slice p2 d A) (.slice J c B)).toArray 26));rw[<-ab,<-Q,<-O];rw[<-Q]at a7;rw[<-O]at a8 HB;clear ad ag ah W aF aG av ab Q O;show CZ CO 8 #[.agg #[.int .i64 H,.int .i64 id,.int .i64 I,.slice p1 t z,.slice p2 d A,.int .i64 E,.int .i64 D,.slice J c B,.int .i64 C]] w _;have ga:=u.cell (i:=3) rfl;have gb:=u.cell (i:=4) rfl;have gc:=u.cell (i:=7) rfl;go_enter Tryz.func8,Tryz.ntmps8;by_cases h1:(100:Int) < (t:Int)
 ·go_wp2_with fail
  go_ret;exact⟨.inl rfl,a⟩
 by_cases h2:(30:Int) < (d:Int)
 ·go_wp2_with fail
  go_ret;exact⟨.inl rfl,a⟩
 by_cases h3:(600:Int) < (c:Int)
 ·go_wp2_with fail
  go_ret;exact⟨.inl rfl,a⟩
 go_wp2_with fail
 obtain⟨T,M⟩:=exq (w.alloc (.cells #[.int .i64 H,.int .i64 id,.int .i64 I,.slice p1 t z,.slice p2 d A,.int .i64 E,.int .i64 D,.slice J c B,.int .i64 C] 26));have aI:Hid (aw T w.heap.size (cL ⟨H,id,I,pl,sh,E,D,f,C⟩ (.slice p1 t z) (.slice p2 d A) (.slice J c B))):=aa (by rw[M];exact u);replace a:Hid (au w T):=aa (by rw[M];exact a);rw[<-M];clear M u ga gb gc;go_loopw [26] (fun x wr=>∃i:Nat,i<=d/\x=.int .i64 i/\Hid (∀q,q < i->(L.getD q s0).2.1.2.length<=100/\(L.getD q s0).2.2.2.length<=40)/\au T wr) (fun x _=>d - (intOf x).toNat);case atStart=>exact⟨0,C9 _,rfl,aa fun q r=>absurd r (E2 _),CT _ _⟩
 case round=>
  obtain⟨i,hi,rfl,Hq,hE⟩:=hrel;have p:=aa hE;clear hE;by_cases N:i < d
  ·have Y:i < L.length:=by rw[<-S.out];exact N
   have U:=HS.ext (a.trans p);obtain⟨g,o,cc,ac,a4,a3,bx,az⟩:=U.pos (by omega);injection ac with a9 ba bb;subst a9 bb;have af:=az i Y;have G:=U.ok _ (aJ s0 Y);obtain⟨x,hx⟩:=exq (L.getD i s0);rw[<-hx]at af G;have Hx:=aa hx;have al:=aa (DS (P:=CO) wr g (o+i*3) 57 _ _ af Er rfl (by rw[bU];kernel_rfl));obtain⟨R,y⟩:=aw.fresh (cs:=cS x) wr 57 eS rfl (kE x);have ap:=aa (aH (P:=CO) (cs:=cS x) wr 57 eS rfl (gM G) (ty:=57) (by rw[bU];kernel_rfl));have be:=R.cell (i:=1) rfl;have bf:=R.cell (i:=2) rfl;replace y:=aa (p.trans y);obtain⟨pp,cp,aD,bd,bc⟩:=G.st.form;obtain⟨qq,cq,aE,bh,bg⟩:=G.pa.form;obtain⟨m,hm⟩:=exq x.2.1.2.length;obtain⟨m2,Z⟩:=exq x.2.2.2.length;have Hm:=aa hm;have aN:=aa Z;rw[aD,<-hm]at be;rw[aE,<-Z]at bf;have bz:(0:Int)<=(i:Int):=by omega
   have bA:(i:Int) < (d:Int):=by omega
   clear az af G hx R ba a4 a3 Y U aD bd bc hm aE bh bg Z
   go_wp2_with first | refine ao rfl al ?_ | (with_reducible refine aC (ty:=57) ?_)
   refine ax ?_;refine ak rfl rfl ap ?_;generalize (wr.alloc (.cells eS 57)).setCells wr.heap.size 0 (cS x)=W6 at*;generalize wr.heap.size=X6 at*;clear ap al;by_cases h5:(100:Int) < (m:Int)
   ·go_wp2_with fail
    go_ret;exact⟨.inl rfl,a.trans y⟩
   by_cases h6:(40:Int) < (m2:Int)
   ·go_wp2_with fail
    go_ret;exact⟨.inl rfl,a.trans y⟩
   ·go_wp2_with fail
    go_roundw
    case rel=>exact⟨i+1,by omega,by go_num,aa fun q r=>by
     rcases Nat.lt_succ_iff_lt_or_eq.1 r with g | g
     ·exact Hq q g
     ·subst g;rw[<-Hx.out,<-Hm.out,<-aN.out];omega,y⟩
    case measure=>simp[intOf];omega
  ·obtain rfl:i=d:=by omega
   have gc:=(aI.ext p).cell (i:=7) rfl;clear N hi
   go_wp2_with fail
   go_loopw [44] (fun x wx=>∃k:Nat,k<=c/\x=.int .i64 k/\wx=wr/\Hid (∀j,j < k->(f.getD j []).length<=100)) (fun x _=>c - (intOf x).toNat);case atStart=>exact⟨0,C9 _,rfl,rfl,aa fun j F=>absurd F (E2 _)⟩
   case round=>
    obtain⟨k,hk,rfl,bk,aj⟩:=hrel;subst bk;by_cases N:k < c
    ·have aB:k < f.length:=by rw[<-K.out];exact N
     obtain⟨b,o,ac,bv,a2⟩:=aU.BK (ps:=f) (n:=c) (by have:=HB.ext (a.trans p);rw[K.out]at this⊢;exact this) aP k aB;subst ac;have V:=aQ k aB;obtain⟨bs,X⟩:=exq (f.getD k []);rw[<-X]at V;obtain⟨pk,ck,aA,bC,bw⟩:=V.form;rw[aA]at a2;have aL:=aa X;clear V aA X;by_cases bq:(100:Int) < (bs.length:Int)
     ·go_wp2_with fail
      go_ret;exact⟨.inl rfl,a.trans p⟩
     ·go_wp2_with fail
      go_roundw;case rel=>
       refine⟨k+1,by omega,by go_num,trivial,aa fun j F=> ?_⟩;by_cases a6:j=k
       ·subst a6;rw[<-aL.out];omega
       ·exact aj j (by omega)
      case measure=>simp[intOf];omega
    ·obtain rfl:k=c:=by omega
     go_wp2_with fail
     go_ret;refine⟨.inr ⟨rfl,⟨by show pl.length<=100;rw[<-aO.out];omega,?_,by show f.length<=600;rw[<-K.out];omega,fun s hs=> ?_,fun b hb=> ?_⟩⟩,a.trans p⟩
     ·show sh.length<=30;rw[<-an.out,CY,<-S.out];omega
     ·have bj:s∈L.map cC:=by rw[an.out];exact hs
      obtain⟨x,hx,rfl⟩:=List.mem_map.1 bj;obtain⟨q,r,rfl⟩:=Ev hx;have:=Hq q (by rw[S.out];exact r);rwa[CR,CV r]at this
     ·obtain⟨j,F,rfl⟩:=Ev hb;have:=aj j (by rw[K.out];exact F);rwa[CR,CV F]at this
theorem uj (v:CQ) (l:BC) (w:CP) (h:eg w v l) (hl:l.shown.length<=1048576) (hp:∀s∈l.shown,s.2.2.length<=1048576):
  CZ CO 12 #[v] w fun e w'=>∃v',e=.returned v'/\eg w' v' l/\au w w':=by
 obtain⟨c8,vp,vs,vb,L,rfl,U⟩:=h;obtain rfl:=U.eq;have K:=aa U;have Hp:=aa hp;obtain⟨p2,c2,e2,cN,cH⟩:=U.sh.rd.form;subst e2;obtain⟨p1,u,a,e1⟩:=U.pl.BM;obtain⟨B,z,c,e3⟩:=U.bl.BM;subst e1 e3;unfold Dc at cH;have ba:Hid (l.shown.length=L.length):=aa (by rw[<-U.sl,CY]);obtain⟨J,aI⟩:=exq L.length;have bB:=aa aI;have dj:J<=1048576:=by rw[aI,<-ba.out];exact hl
 rw[<-aI]at K cN⊢;clear U aI hl hp;obtain⟨t,id,A,pl,sh,r,p,D,f⟩:=l;obtain⟨N,Y⟩:=exq ((w.alloc (.cells #[.int .i64 t,.int .i64 id,.int .i64 A,.slice p1 u a,.slice p2 J c2,.int .i64 r,.int .i64 p,.slice B z c,.int .i64 f] 26)).alloc (.cells zL 43));have aS:Hid (au w N):=aa (by rw[Y];exact(ae _ _).trans (ae _ _));have bt:N.heap.size=w.heap.size+1+1:=by rw[Y];simp
 have ce:Hid (aw N w.heap.size (cL ⟨t,id,A,pl,sh,r,p,D,f⟩ (.slice p1 u a) (.slice p2 J c2) (.slice B z c))):=aa (by rw[Y];exact(aw.box w 26 (bR _ _ _ _)).ext (ae _ _))
 have bv:Hid (aw N (w.heap.size+1) (cL dW (.slice none 0 0) (.slice none 0 0) (.slice none 0 0))):=aa (by
  rw[Y];have h:=aw.box (w.alloc (.cells #[.int .i64 t,.int .i64 id,.int .i64 A,.slice p1 u a,.slice p2 J c2,.int .i64 r,.int .i64 p,.slice B z c,.int .i64 f] 26)) 43 (bR dW (.slice none 0 0) (.slice none 0 0) (.slice none 0 0));rw[show(w.alloc (.cells #[.int .i64 t,.int .i64 id,.int .i64 A,.slice p1 u a,.slice p2 J c2,.int .i64 r,.int .i64 p,.slice B z c,.int .i64 f] 26)).heap.size=w.heap.size+1 from by simp]at h
  exact h)
 obtain⟨be,bf⟩:=aw.fresh (cs:=cL ⟨t,id,A,pl,sh,r,p,D,f⟩ (.slice p1 u a) (.slice none 0 0) (.slice B z c)) N 43 zL rfl (bR _ _ _ _);have C:=aa (aH (P:=CO) (cs:=cL ⟨t,id,A,pl,sh,r,p,D,f⟩ (.slice p1 u a) (.slice none 0 0) (.slice B z c)) N 43 zL rfl (bk K.pl.BM iF K.bl.BM) (ty:=43) (by kernel_rfl));rw[bt]at be bf C;have aN:=aa be;have aT:=aa bf;clear be bf;have bc:=aa bt;clear bt;show CZ CO 12 #[.agg #[.int .i64 t,.int .i64 id,.int .i64 A,.slice p1 u a,.slice p2 J c2,.int .i64 r,.int .i64 p,.slice B z c,.int .i64 f]] w _;go_enter Tryz.func12,Tryz.ntmps12
 go_wp2_with (with_reducible refine aC (ty:=43) ?_)
 refine ax ?_;rw[<-Y];clear Y;refine ak rfl rfl C ?_;obtain⟨W3,bS⟩:=exq ((N.alloc (.cells zL 43)).setCells (w.heap.size+1+1) 0 (cL ⟨t,id,A,pl,sh,r,p,D,f⟩ (.slice p1 u a) (.slice none 0 0) (.slice B z c)));rw[<-bS]at aN aT⊢;clear bS C;have cg:Hid (GR cS 3 fD (fun b=>b≠w.heap.size+1) (w.heap.size+1+1) 100 W3 (w.heap.size+1+1) 4 (cL ⟨t,id,A,pl,sh,r,p,D,f⟩ (.slice p1 u a) (.slice none 0 0) (.slice B z c)) (.slice none 0 0) []):=aa (GR.start aN rfl);have cX:=(ce.ext aT).cell (i:=4) rfl
 go_wp2_with fail
 clear cX aN;go_loopw [29] (fun x wr=>∃(i:Nat) (I:CQ) (M:List Sv),i<=J/\x=.int .i64 i/\Hid (GR cS 3 fD (fun b=>b≠w.heap.size+1) (w.heap.size+1+1) 100 wr (w.heap.size+1+1) 4 (cL ⟨t,id,A,pl,sh,r,p,D,f⟩ (.slice p1 u a) I (.slice B z c)) I M/\M.length=i/\M.map cC=sh.take i)/\au N wr) (fun x _=>J - (intOf x).toNat);case atStart=>exact⟨0,_,[],C9 _,rfl,aa ⟨cg,rfl,rfl⟩,aT⟩
 case round=>
  obtain⟨i,I,M,hi,rfl,H,hE⟩:=hrel;have HE:=aa hE;clear hE;by_cases cM:i < J
  ·have az:i < L.length:=by rw[<-bB.out];exact cM
   have cf:=aa (aS.trans HE);have bh:=K.sh.ext cf;obtain⟨g,o,c7,cW,cJ,cI,da,b2⟩:=bh.pos (by omega);injection cW with cO cP cQ;subst cO cQ;have aL:=b2 i az;have bo:=K.sh.ok _ (aJ s0 az);have Z:=bh.ok _ (aJ s0 az);have bq:cC (L.getD i s0)=sh.getD i h0:=by rw[<-dq];rw[show L.map cC=sh from K.out.sl]
   have bm:i < sh.length:=by have h:=ba.out;have h2:sh.length=L.length:=h;omega
   have br:(L.getD i s0).2.2.2.length<=1048576:=by have:=Hp (sh.getD i h0) (aJ h0 bm);rw[<-bq]at this;exact this
   have bE:Hid (sh.take (i+1)=sh.take i++[cC (L.getD i s0)]):=aa (by rw[bq];exact aF h0 sh i bm);obtain⟨x,hx⟩:=exq (L.getD i s0);rw[<-hx]at aL Z bo br bE;clear hx bq bm;obtain⟨E,⟨u1,st⟩,u2,pa⟩:=x;have bb:=aa bo;have ad:=aa Z;obtain⟨q2,d2,b8,b9,cY⟩:=Z.pa.form;obtain⟨G,n5,d1,b7⟩:=Z.st.BM;simp only at b8 b9 br b7;subst b8 b7;obtain⟨m,hm⟩:=exq pa.length;have X:=aa hm;rw[<-hm]at b9 br aL;have b6:rU wr (E,(.slice G n5 d1,st),.slice q2 m d2,pa):=by rw[hm];exact Z
   have ac:=aa (DS (P:=CO) wr g (o+i*3) 57 _ _ aL Er rfl (by rw[bU];kernel_rfl));obtain⟨bI,bM⟩:=aw.fresh (cs:=cS (E,(.slice G n5 d1,st),.slice q2 m d2,pa)) wr 57 eS rfl (kE _);have C:=aa (aH (P:=CO) (cs:=cS (E,(.slice G n5 d1,st),.slice q2 m d2,pa)) wr 57 eS rfl (gM b6) (ty:=57) (by rw[bU];kernel_rfl));have V:=aa bI;have ab:=aa bM;have dc:(0:Int)<=(i:Int):=by omega
   have dd:(i:Int) < (J:Int):=by omega
   have a7:Hid (w.heap.size+1+1 < wr.heap.size/\∀k,I.ownBlock=some k->k < wr.heap.size):=aa ⟨H.1.box.lt,fun k hk=>(H.1.own.lt k hk).2⟩;clear b2 aL Z bo b6 cP cJ cI az bh bI bM hm cY
   go_wp2_with first | refine ao rfl ac ?_ | (with_reducible refine aC (ty:=57) ?_)
   refine ax ?_;refine ak rfl rfl C ?_;obtain⟨O,bT⟩:=exq ((wr.alloc (.cells eS 57)).setCells wr.heap.size 0 (cS (E,(.slice G n5 d1,st),.slice q2 m d2,pa)));obtain⟨X5,bi⟩:=exq wr.heap.size;rw[<-bT]at V ab⊢;rw[<-bi]at V a7⊢;have cm:Hid (X5<=O.heap.size):=aa (by rw[bi];exact ab.size);clear bT bi C ac;obtain⟨bJ,bN⟩:=aw.fresh (cs:=[.int .i64 E,.slice G n5 d1,.slice none 0 0]) O 100 eS rfl (fun h=>by cases h);have C:=aa (aH (P:=CO) (cs:=[.int .i64 E,.slice G n5 d1,.slice none 0 0]) O 100 eS rfl (eK ad.st.BM iF) (ty:=100) (by kernel_rfl));have aO:=aa bJ;have aU:=aa bN;have g0:=V.cell (i:=0) rfl;have g1:=V.cell (i:=1) rfl;clear bJ bN
   go_wp2_with (with_reducible refine aC (ty:=100) ?_)
   refine ax ?_;refine ak rfl rfl C ?_;obtain⟨W6,bV⟩:=exq ((O.alloc (.cells eS 100)).setCells O.heap.size 0 [.int .i64 E,.slice G n5 d1,.slice none 0 0]);obtain⟨X6,bj⟩:=exq O.heap.size;rw[<-bV]at aO aU⊢;rw[<-bj]at aO⊢;have cn:=aa bj;clear bV bj C g0 g1;have g2:=(V.ext aU).cell (i:=2) rfl;have ch:Hid (GR (aj .u8) 32 jL (fun _=>True) O.heap.size 52 W6 X6 2 [.int .i64 E,.slice G n5 d1,.slice none 0 0] (.slice none 0 0) []):=aa (GR.start aO rfl)
   go_wp2_with fail
   clear g2 V;go_loopw [41] (fun y wq=>∃(j:Nat) (vq:CQ),j<=m/\y=.int .i64 j/\Hid (GR (aj .u8) 32 jL (fun _=>True) O.heap.size 52 wq X6 2 [.int .i64 E,.slice G n5 d1,vq] vq (pa.take j))/\au O wq) (fun y _=>m - (intOf y).toNat);case atStart=>exact⟨0,_,C9 _,rfl,ch,aU⟩
   case round=>
    obtain⟨j,vq,hj,rfl,HJ,bO⟩:=hrel;have ar:=aa bO;clear bO;by_cases b3:j < m
    ·have aD:j < pa.length:=by rw[<-X.out];exact b3
     obtain⟨b1,o1,a,bp,cR,cT,cG,ca⟩:=et.pos (aX.ext (aX.ext ad.pa ab) ar) ad.dg (by have:=X.out;simp only;omega);injection bp with bp cU cV;subst bp;have aK:=dI ca ad.dg (i:=j) aD;obtain⟨R,_⟩:=ad.dg.get (i:=j) aD;have bC:=aa (aF [] pa j aD);have bF:Hid ((pa.take j).length=j):=aa (by rw[Da];have:=X.out;omega);simp only at aK R;obtain⟨d,hd⟩:=exq (pa.getD j []);rw[<-hd]at aK R bC;have ac:=aa (aZ (P:=CO) (ty:=54) aK DF (by kernel_rfl) R);have b5:aj .u8 d≠[]:=fun q=>by have:=congrArg Ej q;rw[ints_length,R]at this;cases this
     obtain⟨bK,bP⟩:=aw.fresh (cs:=aj .u8 d) wr 54 zA (by rw[ints_length,R];rfl) b5;have C:=aa (aH (P:=CO) (cs:=aj .u8 d) wr 54 zA (by rw[ints_length,R];rfl) (aE _ _) (ty:=54) (by rw[ints_length,R];kernel_rfl));have aP:=aa bK;have aW:=aa bP;have a8:=aa R;have dh:(0:Int)<=(j:Int):=by omega
     have di:(j:Int) < (m:Int):=by omega
     clear ca aK R b5 hd bK bP cR cT cU cV cG aD
     go_wp2_with first | refine ao rfl ac ?_ | (with_reducible refine aC (ty:=54) ?_)
     refine ax ?_;refine ak rfl rfl C ?_;obtain⟨W8,bW⟩:=exq ((wr.alloc (.cells zA 54)).setCells wr.heap.size 0 (aj .u8 d));obtain⟨X8,bZ⟩:=exq wr.heap.size;rw[<-bW]at aP aW⊢;rw[<-bZ]at aP⊢;clear bW bZ C ac;have bA:=aa (GR.ext cD HJ aW);have gq:=bA.cell;have a9:=aa (aZ (P:=CO) (ty:=54) aP.rg DF (by kernel_rfl) a8)
     go_wp2_with (with_reducible refine aV (ty:=54) ?_)
     refine ax ?_;refine ao rfl a9 ?_
     go_wp2_with (with_reducible refine df (ty:=96) ?_)
     refine ax ?_;refine de mf (by decide) rfl (by simp[a8.out]) ?_;have a0:Hid (au W8 (W8.alloc (.cells (aj .u8 d).toArray 52))):=aa (ae _ _);have a6:=aa (kU W8 52 (aj .u8 d));obtain⟨W9,bX⟩:=exq (W8.alloc (.cells (aj .u8 d).toArray 52));obtain⟨X9,b0⟩:=exq W8.heap.size;rw[<-bX]at a0 a6⊢;rw[<-b0]at a6⊢;clear bX b0 gq;have W:=aa (GR.ext cD bA a0);have bx:=aa ((ar.trans aW).trans a0)
     go_wp2_with (with_reducible refine av ?_)
     refine ax ?_;refine bg mf (W.B1 bF) a6 rfl rfl (by rw[ints_length,a8.out]) (aE _ _) (by unfold Dc;omega) (by omega) (bx.size) ?_;intro c0 cz cc am Q ai al bn bl;have HP:=aa (GR.push (y:=d) cD W bF am Q al trivial);have gb:=(W.BP Q).cell W.BQ;have gf:=(W.BP Q).fz W.lt;have aR:=aa (DC bx ai);clear am Q ai al bn bl
     go_wp2_with fail
     go_roundw;case rel=>exact⟨j+1,_,by omega,by go_num,aa (by rw[bC.out];exact HP),E0 aR (by rw[cn.out];exact CU _) _⟩
     case measure=>simp[intOf];omega
    ·obtain rfl:j=m:=by omega
     clear b3 hj;have bz:=aa (GR.ext bD H.1 (ab.trans ar));have a3:=aa H.2.1;have ck:=aa H.2.2;have ct:Hid (pa.take j=pa):=aa (CX (by rw[<-X.out];exact CU _));have ci:=aa HJ.box;have ay:=aa (HJ.B1 (n:=j) (by rw[Da,<-X.out,Nat.min_self]));rw[ct.out]at ay;obtain⟨pq,cq,cZ,_,_⟩:=(aX.AS ay).form;subst cZ;clear H HJ;have gq:=bz.cell;have a9:=aa (ci.load (P:=CO) Tryz.underlying100 rfl (by kernel_rfl))
     go_wp2_with (with_reducible refine aV (ty:=100) ?_)
     refine ax ?_;refine ao rfl a9 ?_
     go_wp2_with (with_reducible refine df (ty:=41) ?_)
     refine ax ?_;refine de rV (by decide) rfl rfl ?_;have aq:Hid (au wr (wr.alloc (.cells ([.int .i64 E,.slice G n5 d1,.slice pq j cq]:List CQ).toArray 100))):=aa (ae _ _);have a5:=aa (kU wr 100 [.int .i64 E,.slice G n5 d1,.slice pq j cq]);obtain⟨cv,bQ⟩:=exq (wr.alloc (.cells ([.int .i64 E,.slice G n5 d1,.slice pq j cq]:List CQ).toArray 100));obtain⟨c3,bY⟩:=exq wr.heap.size;rw[<-bQ]at aq a5⊢;rw[<-bY]at a5⊢;clear bQ bY gq;have S:=aa (GR.ext bD bz aq);have a2:=aa ((HE.trans (ab.trans ar)).trans aq)
     have cl:Hid (fD (fun b=>b≠w.heap.size+1+1/\I.ownBlock≠some b/\b≠w.heap.size+1) cv (E,(.slice G n5 d1,st),.slice pq j cq,pa)):=aa (by
      refine⟨aY.kept (aY.By (F:=fun b=>b < w.heap.size) bb.st (fun b _ h=>h)) (fun b T _=> ?_),bb.bs,aY.By (aX.ext (by rw[<-X.out];exact aX.AS ay) aq) (fun b T _=> ?_),bb.dg⟩
      ·refine⟨⟨by omega,fun q=> ?_,by omega⟩,(aS.trans a2).block b T⟩;have:=(S.own.lt b q).1;omega
      ·have h1:=(ay.lt b T).1;have h2:=cm.out;have h3:=a7.1;refine⟨by omega,fun q=> ?_,by omega⟩;have:=a7.2 b q
       omega)
     go_wp2_with (with_reducible refine av ?_)
     refine ax ?_;refine bg rV (S.B1 a3) a5 rfl rfl rfl (eK ⟨_,_,_,rfl⟩ ⟨_,_,_,rfl⟩) (by unfold Dc;omega) (by omega) (by have:=a2.size;rw[bc.out]at this;exact this) ?_;intro c0 cz cc am Q ai al bn bl;have HP:=aa (GR.push (y:=(E,(.slice G n5 d1,st),.slice pq j cq,pa)) bD S a3 am Q al cl.out);have gb:=(S.BP Q).cell S.BQ;have gf:=(S.BP Q).fz S.lt;have aR:Hid (au N cc):=aa (DC a2 (by rw[bc.out];exact ai));clear am Q ai al bn bl
     go_wp2_with fail
     go_roundw;case rel=>exact⟨i+1,_,_,by omega,by go_num,aa ⟨HP,by rw[C7,a3.out];rfl,by rw[List.map_append,ck.out,bE.out];rfl⟩,E0 aR (by rw[bc.out];exact CU _) _⟩
     case measure=>simp[intOf];omega
  ·obtain rfl:i=J:=by omega
   have bw:=aa H.1.box;have aQ:=aa (bv.ext HE);have cu:=aa (aX.AS H.1.own).BM;have co:=aa (bw.load (P:=CO) Db rfl (by kernel_rfl));have C:=aa (aQ.store (P:=CO) (cs':=cL ⟨t,id,A,pl,sh,r,p,D,f⟩ (.slice p1 u a) I (.slice B z c)) rfl (bk ⟨_,_,_,rfl⟩ cu ⟨_,_,_,rfl⟩) (ty:=43) (by kernel_rfl));have cp:=aa ((aQ.set (cs':=cL ⟨t,id,A,pl,sh,r,p,D,f⟩ (.slice p1 u a) I (.slice B z c)) rfl).loadVar (P:=CO) Db rfl (by kernel_rfl));have a1:Hid (au w (wr.setCells (w.heap.size+1) 0 (cL ⟨t,id,A,pl,sh,r,p,D,f⟩ (.slice p1 u a) I (.slice B z c)))):=aa (aA _ _ _ _ (aS.trans HE) (Nat.le_succ _))
   have cj:Hid (iE (wr.setCells (w.heap.size+1) 0 (cL ⟨t,id,A,pl,sh,r,p,D,f⟩ (.slice p1 u a) I (.slice B z c))) (cL ⟨t,id,A,pl,sh,r,p,D,f⟩ (.slice p1 u a) I (.slice B z c)) ⟨t,id,A,pl,sh,r,p,D,f⟩ (.slice p1 u a) I (.slice B z c) M):=aa (by
    have hk:∀b,b≠w.heap.size+1->(wr.setCells (w.heap.size+1) 0 (cL ⟨t,id,A,pl,sh,r,p,D,f⟩ (.slice p1 u a) I (.slice B z c))).heap[b]? =wr.heap[b]? :=fun b T=>dO _ _ _ (mK.refl _ _) b T
    refine⟨rfl,K.pl.ext a1,⟨aX.kept (aX.AS H.1.own) (fun k q _=>hk k (by have:=(H.1.own.lt k q).1;omega)),fun x hx=>(bD _ (fun _=>True) _ _ _ (H.1.ok x hx) (fun b T _=>⟨trivial,hk b T.2.2⟩)).ok⟩,?_,K.bl.ext a1,K.BJ⟩;rw[H.out.2.2];have h:sh.length=L.length:=ba.out
    exact CX (by have:=bB.out;omega))
   clear H bv bw aQ
   go_wp2_with (with_reducible refine aV (ty:=43) ?_)
   refine ax ?_;refine ao rfl co ?_
   go_wp2_with (((with_reducible refine bG ?_ ?_ C.out ?_);rfl;rfl))
   refine De (v:=.agg (cL ⟨t,id,A,pl,sh,r,p,D,f⟩ (.slice p1 u a) I (.slice B z c)).toArray) (aB rfl rfl cp) rfl ⟨_,rfl,⟨_,_,_,_,M,rfl,cj⟩,a1⟩
theorem xz (x:Int) (w:CP):CZ CO 175 #[.int .u32 x,.int .i64 (-2)] w fun e w'=>e=.returned (.int .u32 (nL 2 x))/\w'=w:=by
 have a:bits Gm FH (IntKind.u64.wrap (-2)) 31=30:=by decide+kernel
 go_enter Fw,Fp
 go_wp2
 go_ret;exact⟨rfl,rfl⟩
theorem xA (x:Int) (w:CP):CZ CO 175 #[.int .u32 x,.int .i64 (-6)] w fun e w'=>e=.returned (.int .u32 (nL 6 x))/\w'=w:=by
 have a:bits Gm FH (IntKind.u64.wrap (-6)) 31=26:=by decide+kernel
 go_enter Fw,Fp
 go_wp2
 go_ret;exact⟨rfl,rfl⟩
theorem yY (x:Int) (w:CP):CZ CO 175 #[.int .u32 x,.int .i64 (-7)] w fun e w'=>e=.returned (.int .u32 (nL 7 x))/\w'=w:=by
 have a:bits Gm FH (IntKind.u64.wrap (-7)) 31=25:=by decide+kernel
 go_enter Fw,Fp
 go_wp2
 go_ret;exact⟨rfl,rfl⟩
theorem uk (x:Int) (w:CP):CZ CO 175 #[.int .u32 x,.int .i64 (-11)] w fun e w'=>e=.returned (.int .u32 (nL 11 x))/\w'=w:=by
 have a:bits Gm FH (IntKind.u64.wrap (-11)) 31=21:=by decide+kernel
 go_enter Fw,Fp
 go_wp2
 go_ret;exact⟨rfl,rfl⟩
theorem um (x:Int) (w:CP):CZ CO 175 #[.int .u32 x,.int .i64 (-13)] w fun e w'=>e=.returned (.int .u32 (nL 13 x))/\w'=w:=by
 have a:bits Gm FH (IntKind.u64.wrap (-13)) 31=19:=by decide+kernel
 go_enter Fw,Fp
 go_wp2
 go_ret;exact⟨rfl,rfl⟩
theorem xN (x:Int) (w:CP):CZ CO 175 #[.int .u32 x,.int .i64 (-17)] w fun e w'=>e=.returned (.int .u32 (nL 17 x))/\w'=w:=by
 have a:bits Gm FH (IntKind.u64.wrap (-17)) 31=15:=by decide+kernel
 go_enter Fw,Fp
 go_wp2
 go_ret;exact⟨rfl,rfl⟩
theorem xO (x:Int) (w:CP):CZ CO 175 #[.int .u32 x,.int .i64 (-18)] w fun e w'=>e=.returned (.int .u32 (nL 18 x))/\w'=w:=by
 have a:bits Gm FH (IntKind.u64.wrap (-18)) 31=14:=by decide+kernel
 go_enter Fw,Fp
 go_wp2
 go_ret;exact⟨rfl,rfl⟩
theorem xP (x:Int) (w:CP):CZ CO 175 #[.int .u32 x,.int .i64 (-19)] w fun e w'=>e=.returned (.int .u32 (nL 19 x))/\w'=w:=by
 have a:bits Gm FH (IntKind.u64.wrap (-19)) 31=13:=by decide+kernel
 go_enter Fw,Fp
 go_wp2
 go_ret;exact⟨rfl,rfl⟩
theorem uo (x:Int) (w:CP):CZ CO 175 #[.int .u32 x,.int .i64 (-22)] w fun e w'=>e=.returned (.int .u32 (nL 22 x))/\w'=w:=by
 have a:bits Gm FH (IntKind.u64.wrap (-22)) 31=10:=by decide+kernel
 go_enter Fw,Fp
 go_wp2
 go_ret;exact⟨rfl,rfl⟩
theorem uq (x:Int) (w:CP):CZ CO 175 #[.int .u32 x,.int .i64 (-25)] w fun e w'=>e=.returned (.int .u32 (nL 25 x))/\w'=w:=by
 have a:bits Gm FH (IntKind.u64.wrap (-25)) 31=7:=by decide+kernel
 go_enter Fw,Fp
 go_wp2
 go_ret;exact⟨rfl,rfl⟩
theorem rr (x y:Int) (w:CP) (h:y= -2\/y= -6\/y= -7\/y= -11\/y= -13\/y= -17\/y= -18\/y= -19\/y= -22\/y= -25):CZ CO 175 #[.int .u32 x,.int .i64 y] w fun e w'=>e=.returned (.int .u32 (nL (-y).toNat x))/\w'=w:=by
 rcases h with rfl | rfl | rfl | rfl | rfl | rfl | rfl | rfl | rfl | rfl
 ·exact xz x w
 ·exact xA x w
 ·exact yY x w
 ·exact uk x w
 ·exact um x w
 ·exact xN x w
 ·exact xO x w
 ·exact xP x w
 ·exact uo x w
 ·exact uq x w
theorem ur (x:Int) (w:CP):CZ CO 166 #[.int .u32 x,.int .i64 6,.int .i64 11,.int .i64 25] w fun e w'=>e=.returned (.int .u32 (yF 6 11 25 x))/\w'=w:=by
 go_enter Tryz.func166,Tryz.ntmps166
 go_wp2_with fail
 refine(xA _ _).mono ?_;rintro e w' ⟨rfl,rfl⟩
 go_wp2_with fail
 refine(uk _ _).mono ?_;rintro e w' ⟨rfl,rfl⟩
 go_wp2_with fail
 refine(uq _ _).mono ?_;rintro e w' ⟨rfl,rfl⟩
 go_wp2_with fail
 go_ret;exact⟨rfl,rfl⟩
theorem uv (x:Int) (w:CP):CZ CO 166 #[.int .u32 x,.int .i64 2,.int .i64 13,.int .i64 22] w fun e w'=>e=.returned (.int .u32 (yF 2 13 22 x))/\w'=w:=by
 go_enter Tryz.func166,Tryz.ntmps166
 go_wp2_with fail
 refine(xz _ _).mono ?_;rintro e w' ⟨rfl,rfl⟩
 go_wp2_with fail
 refine(um _ _).mono ?_;rintro e w' ⟨rfl,rfl⟩
 go_wp2_with fail
 refine(uo _ _).mono ?_;rintro e w' ⟨rfl,rfl⟩
 go_wp2_with fail
 go_ret;exact⟨rfl,rfl⟩
theorem uw (x:Int) (w:CP):CZ CO 174 #[.int .u32 x,.int .i64 17,.int .i64 19,.int .i64 10] w fun e w'=>e=.returned (.int .u32 (xt 17 19 10 x))/\∃n,w'=w.drewN n:=by
 go_enter Tryz.func174,Tryz.ntmps174
 go_wp2_with fail
 go_quiet ((go_at_call 175;exact Calls.quiet_of_same (rr _ _ _ (by decide))))
 go_wp2
 go_ret;exact⟨rfl,_,rfl⟩
theorem wE (x:Int) (w:CP):CZ CO 174 #[.int .u32 x,.int .i64 7,.int .i64 18,.int .i64 3] w fun e w'=>e=.returned (.int .u32 (xt 7 18 3 x))/\∃n,w'=w.drewN n:=by
 go_enter Tryz.func174,Tryz.ntmps174
 go_wp2_with fail
 go_quiet ((go_at_call 175;exact Calls.quiet_of_same (rr _ _ _ (by decide))))
 go_wp2
 go_ret;exact⟨rfl,_,rfl⟩
theorem rW (x a b c:Int) (w:CP) (h:(a=17/\b=19/\c=10)\/(a=7/\b=18/\c=3)):CZ CO 174 #[.int .u32 x,.int .i64 a,.int .i64 b,.int .i64 c] w fun e w'=>e=.returned (.int .u32 (xt a.toNat b.toNat c.toNat x))/\∃n,w'=w.drewN n:=by
 rcases h with ⟨rfl,rfl,rfl⟩ | ⟨rfl,rfl,rfl⟩
 ·exact uw x w
 ·exact wE x w
theorem ni:(Tryz.prog.info? 189).map (·.size)=some 64:=by kernel_rfl
theorem pS (z o c:Nat) (a:List Int) (S:a.length=64) (hc:64<=c) (aH:c<=Dc) (w:CP) (h:∀i,i < a.length->w.cell? ⟨z,o+i,none⟩=some (.int .u8 (a.getD i 0))) (aD:z < w.heap.size) (aE:bI a):
  CZ CO 165 #[.slice (some ⟨z,o,none⟩) 64 c] w fun e w'=>e=.returned (.agg (aj .u32 (Bw a 64)).toArray)/\au w w':=by
 unfold Dc at aH;have W:=aa h;clear h;have L:=aa S;clear S;go_enter Tryz.func165,Tryz.ntmps165
 go_wp2_with fail
 go_loopw [8] (fun i wr=>∃t:Nat,t<=16/\i=.int .i64 t/\dz wr w.heap.size .u32 64 (fun _=>0)/\dz wr (w.heap.size+1) .u32 64 (fun j=>if j < t then pJ a j else 0)/\Et w.heap.size w wr) (fun i _=>16 - (intOf i).toNat);case atStart=>
  refine⟨0,by omega,rfl,?_,?_,?_⟩
  ·exact(dk w 64 .u32 _ _ rfl).alloc (by simp) _
  ·have:=dk (w.alloc (.cells (Dl 64 (Dx .u32 0)).toArray 189)) 64 .u32 189 (Dl 64 (Dx .u32 0)).toArray rfl;simp only[C4]at this;exact this.congr (fun i _=>by simp)
  ·exact(((CT _ _).alloc (CU _) _).alloc (by simp) _)
 case round=>
  obtain⟨t,ht,rfl,O,Q,N⟩:=hrel;have I:=aa O;clear O;have C:=aa Q;clear Q;by_cases aL:t < 16
  ·go_wp2_with fail
   obtain⟨s,f⟩:∃s:CP,s=wr:=⟨_,rfl⟩;rw[<-f];have d:=aa f;clear f;go_loopw [19] (fun i wr=>∃j:Nat,j<=4/\i=.int .i64 j/\dz wr w.heap.size .u32 64 (fun _=>0)/\dz wr (w.heap.size+1) .u32 64 (fun i=>if i < t then pJ a i else if i=t then j6 a t j else 0)/\Et w.heap.size w wr) (fun i _=>4 - (intOf i).toNat);case atStart=>
    refine⟨0,by omega,rfl,?_,?_,?_⟩
    ·rw[d.out];exact I
    ·rw[d.out];exact C.congr (fun i _=>by rw[mq];split<;>simp)
    ·rw[d.out];exact N
   case round=>
    obtain⟨j,hj,rfl,F,q,g⟩:=hrel;have J:=aa F;have y:=aa q;by_cases aY:j < 4
    ·have hp:=fY a t j (by rw[L.out];omega);obtain⟨x,hx⟩:=exq (a.getD (4*t+j) 0);have aW:wr.cell? ⟨z,o+4*t+j,none⟩=some (.int .u8 x):=by rw[(ay g).1 _ _ aD,Nat.add_assoc,hx];exact W (4*t+j) (by rw[L.out];omega)
     obtain⟨a3,a4⟩:0<=x/\x<=255:=by rw[hx];exact aE.get _
     rw[<-hx]at hp;have Z:=aa hp;clear hx hp;have hw:wr.cell? ⟨w.heap.size+1,t,none⟩=some (.int .u32 (j6 a t j)):=by rw[q.1 t (by omega)];simp
     have V:wr.frozen? ⟨w.heap.size+1,t,none⟩=false:=q.2 t;clear F q
     go_wp2_with fail
     go_roundw;case rel=>
      refine⟨j+1,by omega,by go_num,J.other _ _ (by simp),?_,g.setCell (by simp) _⟩;refine(y.set t (by omega) _).congr (fun i r=> ?_);by_cases e:i=t
      ·subst e;rw[if_pos rfl,if_neg (by omega),if_pos rfl,Z.out];rfl
      ·rw[if_neg e];simp only[e,if_false]
     case measure=>simp[intOf];omega
    ·obtain rfl:j=4:=by omega
     clear F q
     go_wp2_with fail
     go_roundw;case rel=>
      refine⟨t+1,by omega,by go_num,J,y.congr (fun i r=> ?_),g⟩;by_cases e:i=t
      ·subst e;rw[if_neg (by omega),if_pos rfl,if_pos (by omega),mr]
      ·by_cases p:i < t
       ·rw[if_pos p,if_pos (by omega)]
       ·rw[if_neg p,if_neg e,if_neg (by omega)]
     case measure=>simp[intOf];omega
  ·have y:Hid (dz wr (w.heap.size+1) .u32 64 (fun j=>if j < 16 then Bx a j else 0)):=by
    refine C.congr (fun i r=> ?_);by_cases e:i < 16
    ·rw[if_pos (by omega),if_pos e,xu _ _ e]
    ·rw[if_neg (by omega),if_neg e]
   clear C
   go_wp2_with fail
   obtain⟨s,f⟩:∃s:CP,s=wr:=⟨_,rfl⟩;rw[<-f];have d:=aa f;clear f;go_loopw [7] (fun i wr=>∃t:Nat,16<=t/\t<=64/\i=.int .i64 t/\dz wr w.heap.size .u32 64 (fun _=>0)/\dz wr (w.heap.size+1) .u32 64 (fun i=>if i < t then Bx a i else 0)/\Et w.heap.size w wr) (fun i _=>64 - (intOf i).toNat);case atStart=>exact⟨16,by omega,by omega,rfl,by rw[d.out];exact I,by rw[d.out];exact y,by rw[d.out];exact N⟩
   case round=>
    obtain⟨t,aN,a1,rfl,R,b,g⟩:=hrel;have D:=aa R;clear R;have K:=aa b;by_cases aL:t < 64
    ·have h2:wr.cell? ⟨w.heap.size+1,t - 2,none⟩=some (.int .u32 (Bx a (t - 2))):=by rw[b.1 _ (by omega)];exact congrArg (fun v=>some (Dx .u32 v)) (if_pos (by omega))
     have h7:wr.cell? ⟨w.heap.size+1,t - 7,none⟩=some (.int .u32 (Bx a (t - 7))):=by rw[b.1 _ (by omega)];exact congrArg (fun v=>some (Dx .u32 v)) (if_pos (by omega))
     have aw:wr.cell? ⟨w.heap.size+1,t - 15,none⟩=some (.int .u32 (Bx a (t - 15))):=by rw[b.1 _ (by omega)];exact congrArg (fun v=>some (Dx .u32 v)) (if_pos (by omega))
     have ax:wr.cell? ⟨w.heap.size+1,t - 16,none⟩=some (.int .u32 (Bx a (t - 16))):=by rw[b.1 _ (by omega)];exact congrArg (fun v=>some (Dx .u32 v)) (if_pos (by omega))
     have V:wr.frozen? ⟨w.heap.size+1,t,none⟩=false:=b.2 t;have h0:wr.cell? ⟨w.heap.size+1,t,none⟩=some (.int .u32 0):=by rw[b.1 _ (by omega)];exact congrArg (fun v=>some (Dx .u32 v)) (if_neg (by omega))
     clear b
     go_wp2_with fail
     have a2:IntKind.i64.wrap ((t:Int) - 2)=(t:Int) - 2:=Fu _ (by omega);have b2:(0:Int)<=(t:Int) - 2:=by omega
     have q2:(2:Int)<=(t:Int):=by omega
     have c2:(t:Int) - 2 < 64:=by omega
     have d2:((t:Int) - 2).toNat=t - 2:=by omega
     have a7:IntKind.i64.wrap ((t:Int) - 7)=(t:Int) - 7:=Fu _ (by omega);have b7:(0:Int)<=(t:Int) - 7:=by omega
     have q7:(7:Int)<=(t:Int):=by omega
     have c7:(t:Int) - 7 < 64:=by omega
     have d7:((t:Int) - 7).toNat=t - 7:=by omega
     have ac:IntKind.i64.wrap ((t:Int) - 15)=(t:Int) - 15:=Fu _ (by omega);have ag:(0:Int)<=(t:Int) - 15:=by omega
     have aO:(15:Int)<=(t:Int):=by omega
     have al:(t:Int) - 15 < 64:=by omega
     have d15:((t:Int) - 15).toNat=t - 15:=by omega
     have ae:IntKind.i64.wrap ((t:Int) - 16)=(t:Int) - 16:=Fu _ (by omega);have ah:(0:Int)<=(t:Int) - 16:=by omega
     have aP:(16:Int)<=(t:Int):=by omega
     have am:(t:Int) - 16 < 64:=by omega
     have d16:((t:Int) - 16).toNat=t - 16:=by omega
     have b0:(0:Int)<=(t:Int):=by omega
     have c0:(t:Int) < 64:=by omega
     have G:w.heap.size+1 < wr.heap.size:=CW _ _ h2;apply aG 23 [38,39,40,41,42,43,44,45,46,47,48,49,50,51,52,53,54,55,56,57,58,59,60] [ar _,ar _,ar _,ar _,ar _,ar _,ar _,ar _,ar _,ar _,ar _,ar _,ar _,ar _,ar _,ar _,ar _,ar _,ar _,ar _,ar _,ar _,ar _] (by kernel_rfl) (by kernel_rfl) (by kernel_rfl) (by rfl);case hsteps=>
      refine⟨?_,?_,?_,?_,?_,?_,?_,?_,?_,?_,?_,?_,?_,?_,?_,?_,?_,?_,?_,?_,?_,?_,?_,trivial⟩;all_goals
       intro ev H m h hd;have e3:=h 3 (by decide);have e7:=h 7 (by decide);clear h;simp only[sB]at e3 e7;simp only[sD]at hd;have hc:=(ay m).1;simp only[dw,C8,if_true];go_simp;first | exact⟨CT _ _,rfl⟩ | (go_at_call 174;refine(rW _ _ _ _ _ (by decide)).mono ?_;rintro e w' ⟨rfl,n,rfl⟩;exact⟨_,rfl,(CT _ _).drewN _,rfl⟩)
     case hend=>
      intro u H m hend;simp only[sE]at hend;simp only[sF,hend];have a5:H.frozen? ⟨w.heap.size+1,t,none⟩=false:=((ay m).2 _ _ G).trans V;have aV:H.cell? ⟨w.heap.size+1,t,none⟩=some (.int .u32 0):=((ay m).1 _ _ G).trans h0;have E:=aa m;clear hend m a2 b2 c2 d2 q2 a7 b7 c7 d7 q7 ac ag al d15 aO ae ah am d16 aP h2 h7 aw ax
      go_wp2_with fail
      go_roundw;case rel=>
       have aM:w.heap.size < wr.heap.size:=by omega
       refine⟨t+1,by omega,by omega,by go_num,(D.below E aM).other _ _ (by simp),?_,(g.trans (E.mono (by omega))).setCell (by simp) _⟩;refine((K.below E G).set t (by omega) _).congr (fun i r=> ?_);by_cases e:i=t
       ·subst e;rw[if_pos rfl,if_pos (by omega),xv _ _ aN];unfold ad;omega
       ·rw[if_neg e];by_cases p:i < t
        ·rw[if_pos p,if_pos (by omega)]
        ·rw[if_neg p,if_neg (by omega)]
      case measure=>simp[intOf];omega
     case hmono=>exact mL
    ·obtain rfl:t=64:=by omega
     have B:wr.rangeAt (w.heap.size+1) 0 (aj .u32 (Bw a 64)):=by rw[yG];exact(K.congr (f':=Bx a) (fun i r=>by rw[if_pos r])).range
     have aC:=g;obtain⟨cs,A⟩:=exq (Bw a 64);have hlen:cs.length=64:=by rw[A,wl_length]
     rw[<-A]at B;have T:=aZ (P:=CO) B FW ni hlen;have U:=bo (P:=CO) (k:=.u32) (l:=cs) D.there ni hlen;have Y:=aa T;have ab:=aa U;have X:=aa A;have aS:=aa B;have M:=aa hlen;clear T U A B hlen b
     go_wp2_with (first | ((with_reducible refine ao ?_ Y.out ?_);rfl) | ((with_reducible refine bG ?_ ?_ ab.out ?_);rfl;rfl))
     have aJ:(wr.setCells w.heap.size 0 (aj .u32 cs)).rangeAt w.heap.size 0 (aj .u32 cs):=Dr _ _ _ _ (by rw[ints_length,M.out];exact D.there);have aK:=Ep (P:=CO) _ w.heap.size 0 189 (aj .u32 cs) _ aJ FW rfl (by rw[ints_length,M.out];exact ni);refine De (v:=.agg (aj .u32 cs).toArray) ?_ rfl ⟨by rw[X.out],aA _ _ _ _ aC (CU _)⟩;exact aB rfl rfl aK
structure eZ (w:CP):Prop where
 added:∀i,i < 64->w.cell? ⟨11,i,none⟩=some (.int .u32 (kt.getD i 0))
 first:∀i,i < 8->w.cell? ⟨10,i,none⟩=some (.int .u32 (iv.getD i 0))
theorem eZ.ext {w w':CP} (h:eZ w) (b:au w w'):eZ w':=by
 have c:=CW w _ (h.added 0 (by decide));have d:=CW w _ (h.first 0 (by decide));exact⟨fun i a=>((ay b).1 _ _ c).trans (h.added i a),fun i a=>((ay b).1 _ _ d).trans (h.first i a)⟩
theorem lC (x a b c:Int) (w:CP) (h:(a=6/\b=11/\c=25)\/(a=2/\b=13/\c=22)):CZ CO 166 #[.int .u32 x,.int .i64 a,.int .i64 b,.int .i64 c] w fun e w'=>e=.returned (.int .u32 (yF a.toNat b.toNat c.toNat x))/\w'=w:=by
 rcases h with ⟨rfl,rfl,rfl⟩ | ⟨rfl,rfl,rfl⟩
 ·exact ur x w
 ·exact uv x w
theorem ux:(Tryz.prog.info? 205).map (·.size)=some 8:=by kernel_rfl
theorem oe (z:St) (G o c:Nat) (r:List Int) (q:r.length=64) (hc:64<=c) (aM:c<=Dc) (w:CP) (A:∀i,i < r.length->w.cell? ⟨G,o+i,none⟩=some (.int .u8 (r.getD i 0))) (aL:G < w.heap.size) (af:bI r) (hg:eZ w):
  CZ CO 151 #[.agg #[.int .u32 z.a,.int .u32 z.b,.int .u32 z.c,.int .u32 z.d,.int .u32 z.e,.int .u32 z.f,.int .u32 z.g,.int .u32 z.h],.slice (some ⟨G,o,none⟩) 64 c] w fun e w'=>e=.returned (cZ z r).val/\au w w':=by
 have Hb:=aa A;clear A;have Hl:=aa q;clear q;have X:=aa hg;clear hg;have aw:=aa af;clear af;go_enter Tryz.func151,Tryz.ntmps151
 go_wp2_with fail
 refine(pS G o c r Hl hc aM _ ?_ ?_ aw).mono ?_
 ·intro i p;exact((ay ((((CT w.heap.size w).alloc (CU _) _).alloc (by simp only[C4];omega) _).alloc (by simp only[C4];omega) _)).1 _ _ aL).trans (Hb i p)
 ·simp;omega
 rintro e K ⟨rfl,J⟩;obtain⟨ws,T⟩:=exq (Bw r 64);rw[<-T];have Z:=aa T;clear T
 go_wp2_with fail
 go_loopw [16] (fun i wr=>∃(t:Nat) (s:St),t<=64/\i=.int .i64 t/\dz wr w.heap.size .u32 8 (fun i=>s.l.getD i 0)/\dz wr (w.heap.size+1) .u32 8 (fun _=>0)/\dz wr (w.heap.size+1+1) .u32 8 (fun i=>z.l.getD i 0)/\Hid (s=pK z ws t)/\Et w.heap.size w wr) (fun i _=>64 - (intOf i).toNat);case atStart=>
  have z8:∀i,i < 8->(#[.int .u32 z.a,.int .u32 z.b,.int .u32 z.c,.int .u32 z.d,.int .u32 z.e,.int .u32 z.f,.int .u32 z.g,.int .u32 z.h]:Array CQ)[i]? =some (.int .u32 (z.l.getD i 0)):=fun i p=>by
   match i,p with
   | 0,_=>rfl
   | 1,_=>rfl
   | 2,_=>rfl
   | 3,_=>rfl
   | 4,_=>rfl
   | 5,_=>rfl
   | 6,_=>rfl
   | 7,_=>rfl
  have o8:∀i,i < 8->(#[.int .u32 0,.int .u32 0,.int .u32 0,.int .u32 0,.int .u32 0,.int .u32 0,.int .u32 0,.int .u32 0]:Array CQ)[i]? =some (.int .u32 0):=fun i p=>by
   match i,p with
   | 0,_=>rfl
   | 1,_=>rfl
   | 2,_=>rfl
   | 3,_=>rfl
   | 4,_=>rfl
   | 5,_=>rfl
   | 6,_=>rfl
   | 7,_=>rfl
  refine⟨0,z,by omega,rfl,?_,?_,?_,rfl,?_⟩
  ·exact(((gk w 8 .u32 _ _ _ z8).alloc (by simp only[C4];omega) _).alloc (by simp only[C4];omega) _).below J (by simp;omega)
  ·have h:=(gk (w.alloc (.cells #[.int .u32 z.a,.int .u32 z.b,.int .u32 z.c,.int .u32 z.d,.int .u32 z.e,.int .u32 z.f,.int .u32 z.g,.int .u32 z.h] 205)) 8 .u32 205 _ (fun _=>0) o8);simp only[C4]at h;exact(h.alloc (by simp only[C4];omega) _).below J (by simp)
  ·have h:=(gk ((w.alloc (.cells #[.int .u32 z.a,.int .u32 z.b,.int .u32 z.c,.int .u32 z.d,.int .u32 z.e,.int .u32 z.f,.int .u32 z.g,.int .u32 z.h] 205)).alloc (.cells #[.int .u32 0,.int .u32 0,.int .u32 0,.int .u32 0,.int .u32 0,.int .u32 0,.int .u32 0,.int .u32 0] 205)) 8 .u32 205 _ _ z8);simp only[C4]at h;exact h.below J (by simp)
  ·exact((((CT w.heap.size w).alloc (CU _) _).alloc (by simp only[C4];omega) _).alloc (by simp only[C4];omega) _).trans (J.mono (by simp;omega))
 case round=>
  obtain⟨t,s,ht,rfl,m,ac,ad,hs,O⟩:=hrel;have n:=aa m;have U:=aa ac;clear ac;have V:=aa ad;clear ad;by_cases D:t < 64
  ·have ai:=iZ (P:=CO) (w:=wr) (k:=.u32) (l:=ws) (i:=t) FW Tryz.sizeOf187 Tryz.isAgg187 (by rw[Z.out,wl_length]) D;have az:=aa ai;clear ai;have c0:wr.cell? ⟨w.heap.size,0,none⟩=some (.int .u32 s.a):=m.1 0 (by decide);have M:wr.cell? ⟨w.heap.size,1,none⟩=some (.int .u32 s.b):=m.1 1 (by decide);have N:wr.cell? ⟨w.heap.size,2,none⟩=some (.int .u32 s.c):=m.1 2 (by decide);have c3:wr.cell? ⟨w.heap.size,3,none⟩=some (.int .u32 s.d):=m.1 3 (by decide);have c4:wr.cell? ⟨w.heap.size,4,none⟩=some (.int .u32 s.e):=m.1 4 (by decide);have c5:wr.cell? ⟨w.heap.size,5,none⟩=some (.int .u32 s.f):=m.1 5 (by decide);have c6:wr.cell? ⟨w.heap.size,6,none⟩=some (.int .u32 s.g):=m.1 6 (by decide);have c7:wr.cell? ⟨w.heap.size,7,none⟩=some (.int .u32 s.h):=m.1 7 (by decide);have hk:wr.cell? ⟨11,t,none⟩=some (.int .u32 (kt.getD t 0)):=by have:=(ay O).1 11 t (CW w _ (X.added 0 (by decide)));rw[this];exact X.added t D
   obtain⟨kk,Q⟩:=exq (kt.getD t 0);rw[<-Q]at hk;have aC:=aa Q;clear Q m;have a9:(0:Int)<=(t:Int):=by omega
   have ba:(t:Int) < 64:=by omega
   go_wp2_with ((with_reducible refine jY ?_ ?_ az.out ?_);rfl;rfl)
   go_quiet ((go_at_call 166;exact Calls.quiet_of_same (lC _ _ _ _ _ (by decide))))
   have f0:wr.frozen? ⟨w.heap.size,0,none⟩=false:=n.2 0;have f1:wr.frozen? ⟨w.heap.size,1,none⟩=false:=n.2 1;have f2:wr.frozen? ⟨w.heap.size,2,none⟩=false:=n.2 2;have f3:wr.frozen? ⟨w.heap.size,3,none⟩=false:=n.2 3;have f4:wr.frozen? ⟨w.heap.size,4,none⟩=false:=n.2 4;have f5:wr.frozen? ⟨w.heap.size,5,none⟩=false:=n.2 5;have f6:wr.frozen? ⟨w.heap.size,6,none⟩=false:=n.2 6;have f7:wr.frozen? ⟨w.heap.size,7,none⟩=false:=n.2 7
   go_wp2_with (go_at_call 166;refine(lC _ _ _ _ _ (by decide)).mono ?_;rintro e w' ⟨rfl,rfl⟩)
   have aR:yw s kk (ws[t]?.getD 0)=pK z ws (t+1):=by have h1:=hs.out;rw[h1,aC.out,<-CR];rfl
   go_roundw;case rel=>exact⟨t+1,yw s kk (ws[t]?.getD 0),by omega,by go_num,(n.drew nq).BI _ _ _ _ _ _ _ _,(U.drew nq).Cc _ (by omega) _ _ _ _ _ _ _ _,(V.drew nq).Cc _ (by omega) _ _ _ _ _ _ _ _,aR,lf (O.drewN nq) _ (CU _) _ _ _ _ _ _ _ _⟩
   case measure=>simp[intOf];omega
  ·obtain rfl:t=64:=by omega
   clear m
   go_wp2_with fail
   obtain⟨wo,S⟩:∃wo:CP,wo=wr:=⟨_,rfl⟩;rw[<-S];have E:=aa S;clear S;go_loopw [89] (fun i wr=>∃j:Nat,j<=8/\i=.int .i64 j/\dz wr w.heap.size .u32 8 (fun i=>if i < j then(s.l.getD i 0+z.l.getD i 0) % 4294967296 else s.l.getD i 0)/\dz wr (w.heap.size+1) .u32 8 (fun _=>0)/\dz wr (w.heap.size+1+1) .u32 8 (fun i=>z.l.getD i 0)/\Et w.heap.size w wr) (fun i _=>8 - (intOf i).toNat);case atStart=>exact⟨0,by omega,rfl,by rw[E.out];exact n.congr (fun i p=>by simp),by rw[E.out];exact U,by rw[E.out];exact V,by rw[E.out];exact O⟩
   case round=>
    obtain⟨j,hj,rfl,C,ae,I,ab⟩:=hrel;have W:=aa C;have L:=aa ae;clear ae;have aq:=aa I;by_cases D:j < 8
    ·obtain⟨x,hx⟩:=exq (s.l.getD j 0);obtain⟨y,hy⟩:=exq (z.l.getD j 0);have M:wr.cell? ⟨w.heap.size,j,none⟩=some (.int .u32 x):=by rw[C.1 j D,hx];simp
     have N:wr.cell? ⟨w.heap.size+1+1,j,none⟩=some (.int .u32 y):=by rw[I.1 j D,hy]
     have f1:wr.frozen? ⟨w.heap.size,j,none⟩=false:=C.2 j;have Hx:=aa hx;have Hy:=aa hy;clear C I hx hy;have a6:(0:Int)<=(j:Int):=by omega
     have a7:(j:Int) < 8:=by omega
     have aT:w.heap.size+1+1 < wr.heap.size:=CW _ _ N;have R:w.heap.size < wr.heap.size:=by omega
     have aS:w.heap.size+1 < wr.heap.size:=by omega
     go_wp2_with fail
     apply aG 8 [92,93,94,95,96,97,98,99] [ar _,ar _,ar _,ar _,ar _,ar _,ar _,ar _] (by kernel_rfl) (by kernel_rfl) (by kernel_rfl) (by rfl);case hsteps=>
      refine⟨?_,?_,?_,?_,?_,?_,?_,?_,trivial⟩;all_goals
       intro ev K B A hd;have H:=A 2 (by decide);have e5:=A 5 (by decide);have aJ:=A 12 (by decide);clear A;simp only[sB]at H e5 aJ;simp only[sD]at hd;have hc:=(ay B).1;simp only[dw,C8,if_true];go_simp;exact⟨CT _ _,rfl⟩
     case hend=>
      intro u K B hend;simp only[sE]at hend;simp only[sF,hend];have aW:K.cell? ⟨w.heap.size,j,none⟩=some (.int .u32 x):=((ay B).1 _ _ R).trans M;have a4:K.frozen? ⟨w.heap.size,j,none⟩=false:=((ay B).2 _ _ R).trans f1;have F:=aa B;clear hend B M N f1
      go_wp2_with fail
      go_roundw;case rel=>
       refine⟨j+1,by omega,by go_num,?_,(L.below F aS).other _ _ (by simp),(aq.below F aT).other _ _ (by simp;omega),(ab.trans (F.mono (by omega))).setCell (by simp) _⟩;refine((W.below F R).set j (by omega) _).congr (fun i p=> ?_);by_cases e:i=j
       ·subst e;rw[if_pos rfl,if_pos (by omega),Hx.out,Hy.out]
       ·rw[if_neg e];by_cases H:i < j
        ·rw[if_pos H,if_pos (by omega)]
        ·rw[if_neg H,if_neg (by omega)]
      case measure=>simp[intOf];omega
     case hmono=>exact mL
    ·obtain rfl:j=8:=by omega
     obtain⟨l,q⟩:=exq ((zg s z).l);have hlen:l.length=8:=by rw[q];rfl
     have ak:wr.rangeAt w.heap.size 0 (aj .u32 l):=by
      have h:=(W.congr (f':=fun i=>l.getD i 0) (fun i p=>by rw[if_pos p,q,wc _ _ _ p])).range;have e:(List.range 8).map (fun i=>l.getD i 0)=l:=by rw[q];rfl
      rw[e]at h;exact h
     have aE:=aa (aZ (P:=CO) ak GC ux hlen);have aF:=aa (bo (P:=CO) (k:=.u32) (l:=l) L.there ux hlen);have ax:=aa q;have Y:=aa hlen;clear ak q hlen C I
     go_wp2_with (first | ((with_reducible refine ao ?_ aE.out ?_);rfl) | ((with_reducible refine bG ?_ ?_ aF.out ?_);rfl;rfl))
     have aO:(wr.setCells (w.heap.size+1) 0 (aj .u32 l)).rangeAt (w.heap.size+1) 0 (aj .u32 l):=Dr _ _ _ _ (by rw[ints_length,Y.out];exact L.there);have aQ:=Ep (P:=CO) _ (w.heap.size+1) 0 205 (aj .u32 l) _ aO GC rfl (by rw[ints_length,Y.out];exact ux);refine De (v:=.agg (aj .u32 l).toArray) (aB rfl rfl aQ) rfl ⟨?_,aA _ _ _ _ ab (by omega)⟩;have h1:=hs.out;rw[ax.out,h1,Z.out];rfl
theorem wF (w:CP) (i:eZ w):
  CZ CO 133 #[] w fun e w'=>e=.returned (.pointer (some ⟨w.heap.size,0,none⟩))/\w'=w.alloc (.cells #[.int .u32 fJ.a,.int .u32 fJ.b,.int .u32 fJ.c,.int .u32 fJ.d,.int .u32 fJ.e,.int .u32 fJ.f,.int .u32 fJ.g,.int .u32 fJ.h,.slice none 0 0,.int .i64 0] 207):=by
 have g0:=i.first 0 (by decide);have g1:=i.first 1 (by decide);have g2:=i.first 2 (by decide);have g3:=i.first 3 (by decide);have g4:=i.first 4 (by decide);have g5:=i.first 5 (by decide);have g6:=i.first 6 (by decide);have g7:=i.first 7 (by decide);clear i;simp only[iv,List.getD_cons_zero,List.getD_cons_succ]at g0 g1 g2 g3 g4 g5 g6 g7;simp only[fJ];go_enter Tryz.func133,Tryz.ntmps133
 go_wp2
 go_ret;exact⟨rfl,rfl⟩
def nj (w:CP) (hb:Nat):Nat:=match w.cell? ⟨hb,8,none⟩with | some (.slice _ n _)=>n | _=>0
theorem gO {w:CP} {a n c:Nat} {p:Option Addr} (h:w.cell? ⟨a,8,none⟩=some (.slice p n c)):nj w a=n:=by simp[nj,h]
structure lD (w:CP) (B0 hb:Nat) (z:St) (l:List Int) (n:Nat):Prop where
 words:dz w hb .u32 8 (fun i=>z.l.getD i 0)
 rest:∃v,w.cell? ⟨hb,8,none⟩=some v/\w.ownsRow B0 5 1 v l.length (aj .u8 l)/\v.ownBlock≠some hb
 count:w.cell? ⟨hb,9,none⟩=some (.int .i64 n)
 ge:B0<=hb
theorem wG (w:CP) (B0 k n:Nat) (z:St) (l y:List Int) (v:CQ) (hH:lD w B0 k z l n) (hv:∀r,Et B0 w r->Bu r .u8 v y) (hg:∀r,Et B0 w r->eZ r) (aD:bI (l++y)) (bf:B0<=w.heap.size)
  (hl:l.length < 64) (bx:y.length<=1099511627776) (hn:n<=1099511627776):
  CZ CO 134 #[.pointer (some ⟨k,0,none⟩),v] w fun e w'=>e=.returned (.pointer (some ⟨k,0,none⟩))/\lD w' B0 k (jB z (l++y)).1 (jB z (l++y)).2 (n+y.length)/\Et B0 w w':=by
 obtain⟨Q,⟨v0,h8,X,aN⟩,h9,E⟩:=hH;obtain⟨pv,cv,br,bS,bR⟩:=(hv w (CT _ _)).form;subst br;obtain⟨p0,K,bl,bO,bA⟩:=(aX.AS X).form;subst bl;have bs:w.frozen? ⟨k,8,none⟩=false:=Q.2 8;have bT:w.frozen? ⟨k,9,none⟩=false:=Q.2 9;have HW:=aa Q;clear Q;have Hv:=aa hv;clear hv;have Hg:=aa hg;clear hg;have aW:=aa aD;clear aD;have H:=aa aN;clear aN;have a4:=aa X;clear X;go_enter Tryz.func134,Tryz.ntmps134;have a5:=aa (eV a4 H 9 (.int .i64 ((n:Int)+(y.length:Int))));have a7:=aa (Hv _ ((CT B0 w).setCell (p:=⟨k,9,none⟩) E (.int .i64 ((n:Int)+(y.length:Int)))));have bJ:k < w.heap.size:=CW _ _ h9;have av:(w.setCell ⟨k,9,none⟩ (.int .i64 ((n:Int)+(y.length:Int)))).cell? ⟨k,8,none⟩=some (.slice p0 l.length K):=by rw[World.cell?_setCell_other _ _ _ _ (by intro q;injection q with _ q;omega)];exact h8
 have ax:(w.setCell ⟨k,9,none⟩ (.int .i64 ((n:Int)+(y.length:Int)))).cell? ⟨k,9,none⟩=some (.int .i64 ((n:Int)+(y.length:Int))):=Em _ _ _ h9;have a1:=aa av;have a2:=aa ax;clear av ax
 go_wp2_with ((with_reducible refine dV aQ a5.out a7.out (by simp) (aE _ _) (by unfold Dc;omega) (by omega) (by simp;omega) ?_ ?_ ?_);rfl;rfl;intro v' w' Y F be hK;obtain⟨p',T,bk,bN,bz⟩:=(aX.AS Y).form;subst bk;have aK:w'.cell? ⟨k,8,none⟩=some (.slice p0 l.length K):=(F.cell_far _ (by simp;omega) (fun q=>H q.symm)).trans a1;have bF:w'.frozen? ⟨k,8,none⟩=false:=(F.frozen_far _ (by simp;omega) (fun q=>H q.symm)).trans (by rw[World.frozen?_setCell];exact bs);have hX:ld w' k (.slice p' (l.length+y.length) T) (l.length+y.length) (aj .u8 l++aj .u8 y):=ld.AS Y (fun q=>(hK k q).elim (fun q=>H q) (fun q=>by simp at q;omega));have HX:=aa hX;have N:=aa F;clear Y F hK hX)
 have bL:k < w'.heap.size:=CW _ _ aK;go_loopw [23] (fun _ wr=>∃(o:St) (m:List Int) (J:Option Addr) (B:Nat),dz wr k .u32 8 (fun i=>o.l.getD i 0)/\wr.cell? ⟨k,8,none⟩=some (.slice J m.length B)/\ld wr k (.slice J m.length B) m.length (aj .u8 m)/\wr.cell? ⟨k,9,none⟩=some (.int .i64 (n+y.length:Nat))/\Et B0 w wr/\Hid (jB z (l++y)=jB o m)/\Hid (bI m)/\m.length<=l.length+y.length) (fun _ wr=>nj wr k);case atStart=>
  have bn:∀i,w'.cell? ⟨k,i,none⟩=(w.setCell ⟨k,9,none⟩ (.int .i64 ((n:Int)+(y.length:Int)))).cell? ⟨k,i,none⟩:=fun i=>N.cell_far _ (by simp;omega) (fun q=>H q.symm)
  have A:dz w' k .u32 8 (fun i=>z.l.getD i 0):=(HW.BY 9 (by omega) _).grown N (by simp;omega) (fun q=>H q.symm);refine⟨z,l++y,p',T,A.BY 8 (by omega) _,?_,?_,?_,?_,rfl,aW,by rw[C7];omega⟩
  ·rw[C7];exact Em _ _ _ aK
  ·rw[C7,aP];exact HX.set 8 _
  ·refine eN ?_ (by omega);rw[bn 9,a2.out];simp
  ·exact(((CT B0 w).setCell (p:=⟨k,9,none⟩) E _).trans be).setCell (p:=⟨k,8,none⟩) E _
 case round=>
  obtain⟨o,m,J,B,A,M,ab,R,L,he,U,bH⟩:=hrel;have D:=aa A;have ai:=aa ab;obtain⟨pp,cc,aO,bQ,bi⟩:=ab.BD.form;obtain⟨rfl,rfl⟩:J=pp/\B=cc:=by cases aO;exact⟨rfl,rfl⟩
  clear ab aO;have ad:wr.frozen? ⟨k,8,none⟩=false:=A.2 8;have s:k < wr.heap.size:=CW _ _ M;by_cases au:64<=m.length
  ·have K:wr.cell? ⟨k,0,none⟩=some (.int .u32 o.a):=A.1 0 (by decide);have c1:wr.cell? ⟨k,1,none⟩=some (.int .u32 o.b):=A.1 1 (by decide);have P:wr.cell? ⟨k,2,none⟩=some (.int .u32 o.c):=A.1 2 (by decide);have c3:wr.cell? ⟨k,3,none⟩=some (.int .u32 o.d):=A.1 3 (by decide);have c4:wr.cell? ⟨k,4,none⟩=some (.int .u32 o.e):=A.1 4 (by decide);have c5:wr.cell? ⟨k,5,none⟩=some (.int .u32 o.f):=A.1 5 (by decide);have c6:wr.cell? ⟨k,6,none⟩=some (.int .u32 o.g):=A.1 6 (by decide);have c7:wr.cell? ⟨k,7,none⟩=some (.int .u32 o.h):=A.1 7 (by decide);clear A;obtain⟨C,go,bq,V,F⟩:∃C go,J=some ⟨C,go,none⟩/\C≠k/\wr.rangeAt C go (aj .u8 m):=by
    rcases ai with ⟨h1,_,h3⟩ | ⟨b',o',T,h1,h2,h3,h4,h5⟩
    ·exfalso;have:=congrArg Ej h3;rw[ints_length]at this;simp only[DY]at this;omega
    ·cases h1;exact⟨b',o',rfl,h4,h5⟩
   subst bq;have aI:C < wr.heap.size:=bK F (by intro q;have:=congrArg Ej q;rw[ints_length]at this;simp only[DY]at this;omega);have aZ:Hid (∀i,i < (m.take 64).length->wr.cell? ⟨C,go+i,none⟩=some (.int .u8 ((m.take 64).getD i 0))):=fun i W=>by
    have bo:i < 64:=by rw[Da]at W;omega
    rw[F i _ (cJ .u8 m i (by omega)),CR,CR,List.getElem?_take,if_pos bo]
   have a0:=aa (Hg wr L);have N:=aa F;clear F;have bC:64<=B:=by omega
   have bD:(64:Int)<=(B:Int):=by omega
   go_wp2_with fail
   apply aG 13 [29,30,31,32,33,34,35,36,37,38,39,40,41] [ar _,ar _,ar _,ar _,ar _,ar _,ar _,ar _,ar _,ar _,ar _,ar _,ar _] (by kernel_rfl) (by kernel_rfl) (by kernel_rfl) (by rfl);case hsteps=>
    refine⟨?_,?_,?_,?_,?_,?_,?_,?_,?_,?_,?_,?_,?_,trivial⟩;all_goals
     intro ev r t k hd;have e0:=k 0 (by decide);clear k;simp only[Qa,Qb,Q2,Qd]at e0;simp only[sD]at hd;have hc:=(ay t).1;simp only[dw,C8,if_true];go_simp;first | exact⟨CT _ _,rfl⟩ | (go_at_call 151;refine(oe o C go B (m.take 64) (by simp;omega) (by omega) bi _ ?_ ?_ ?_ ?_).mono ?_;(intro i W;rw[hc _ _ aI];exact aZ i W);(exact Nat.lt_of_lt_of_le aI t.size);(exact U.take 64);(exact a0.ext t);rintro e w2 ⟨rfl,I⟩;exact⟨_,rfl,I,rfl⟩)
   case hend=>
    intro u r t hend;simp only[sE]at hend;have f0:r.frozen? ⟨k,0,none⟩=false:=((ay t).2 _ _ s).trans (D.2 0);have d0:r.cell? ⟨k,0,none⟩=some (.int .u32 o.a):=((ay t).1 _ _ s).trans K;have f1:r.frozen? ⟨k,1,none⟩=false:=((ay t).2 _ _ s).trans (D.2 1);have d1:r.cell? ⟨k,1,none⟩=some (.int .u32 o.b):=((ay t).1 _ _ s).trans c1;have f2:r.frozen? ⟨k,2,none⟩=false:=((ay t).2 _ _ s).trans (D.2 2);have d2:r.cell? ⟨k,2,none⟩=some (.int .u32 o.c):=((ay t).1 _ _ s).trans P;have f3:r.frozen? ⟨k,3,none⟩=false:=((ay t).2 _ _ s).trans (D.2 3);have d3:r.cell? ⟨k,3,none⟩=some (.int .u32 o.d):=((ay t).1 _ _ s).trans c3;have f4:r.frozen? ⟨k,4,none⟩=false:=((ay t).2 _ _ s).trans (D.2 4);have d4:r.cell? ⟨k,4,none⟩=some (.int .u32 o.e):=((ay t).1 _ _ s).trans c4;have f5:r.frozen? ⟨k,5,none⟩=false:=((ay t).2 _ _ s).trans (D.2 5);have d5:r.cell? ⟨k,5,none⟩=some (.int .u32 o.f):=((ay t).1 _ _ s).trans c5;have f6:r.frozen? ⟨k,6,none⟩=false:=((ay t).2 _ _ s).trans (D.2 6);have d6:r.cell? ⟨k,6,none⟩=some (.int .u32 o.g):=((ay t).1 _ _ s).trans c6;have f7:r.frozen? ⟨k,7,none⟩=false:=((ay t).2 _ _ s).trans (D.2 7);have d7:r.cell? ⟨k,7,none⟩=some (.int .u32 o.h):=((ay t).1 _ _ s).trans c7;have f8:r.frozen? ⟨k,8,none⟩=false:=((ay t).2 _ _ s).trans ad;have d8:r.cell? ⟨k,8,none⟩=some (.slice (some ⟨C,go,none⟩) m.length B):=((ay t).1 _ _ s).trans M;simp only[sF,hend];have G:=aa t;have O:=aa R;have ah:=aa M;clear hend t K c1 P c3 c4 c5 c6 c7 ad R M;by_cases aF:B=64
    ·subst aF;have aM:m.length=64:=by omega
     have a3:=aa aM;clear aM
     go_wp2_with fail
     go_roundw;case rel=>
      have aA:=(mK.refl k r).BI (.int .u32 (cZ o (m.take 64)).a) (.int .u32 (cZ o (m.take 64)).b) (.int .u32 (cZ o (m.take 64)).c) (.int .u32 (cZ o (m.take 64)).d) (.int .u32 (cZ o (m.take 64)).e) (.int .u32 (cZ o (m.take 64)).f) (.int .u32 (cZ o (m.take 64)).g) (.int .u32 (cZ o (m.take 64)).h);have hlen:(m.drop 64).length=m.length - 64:=C6;refine⟨cZ o (m.take 64),m.drop 64,some ⟨C,go,none⟩,0,((D.below G s).BI _ _ _ _ _ _ _ _).BY 8 (by omega) _,?_,?_,eN (fU (((ay G).1 _ _ s).trans O) (by omega) _ _ _ _ _ _ _ _) (by omega),(lf (L.trans (G.mono (by omega))) _ E _ _ _ _ _ _ _ _).setCell E _,?_,U.drop 64,by omega⟩
      ·rw[hlen,show m.length - 64=0 from by have:=a3.out;omega];exact Em _ _ _ (fU d8 (by omega) _ _ _ _ _ _ _ _)
      ·rw[hlen];exact .inr ⟨C,go,0,rfl,by omega,by omega,V,(by rw[List.drop_eq_nil_of_le (by omega)];intro j x hx;simp[aj]at hx)⟩
      ·exact he.trans (jd _ _ au)
     case measure=>rw[gO ah.out,gO (Em _ _ _ (fU d8 (by omega) _ _ _ _ _ _ _ _))];omega
    ·have bE:64 < B:=by omega
     clear aF
     go_wp2_with fail
     go_roundw;case rel=>
      have aA:=(mK.refl k r).BI (.int .u32 (cZ o (m.take 64)).a) (.int .u32 (cZ o (m.take 64)).b) (.int .u32 (cZ o (m.take 64)).c) (.int .u32 (cZ o (m.take 64)).d) (.int .u32 (cZ o (m.take 64)).e) (.int .u32 (cZ o (m.take 64)).f) (.int .u32 (cZ o (m.take 64)).g) (.int .u32 (cZ o (m.take 64)).h);have hlen:(m.drop 64).length=m.length - 64:=C6;refine⟨cZ o (m.take 64),m.drop 64,some ⟨C,go+64,none⟩,B - 64,((D.below G s).BI _ _ _ _ _ _ _ _).BY 8 (by omega) _,?_,?_,eN (fU (((ay G).1 _ _ s).trans O) (by omega) _ _ _ _ _ _ _ _) (by omega),(lf (L.trans (G.mono (by omega))) _ E _ _ _ _ _ _ _ _).setCell E _,?_,U.drop 64,by omega⟩
      ·rw[hlen];exact Em _ _ _ (fU d8 (by omega) _ _ _ _ _ _ _ _)
      ·rw[hlen];exact .inr ⟨C,go+64,B - 64,rfl,by omega,by omega,V,(aA.set 8 _).range (aL (by rw[show aj .u8 (m.drop 64)=(aj .u8 m).drop 64 from by simp[aj]];exact cU N 64) G) V⟩
      ·exact he.trans (jd _ _ au)
     case measure=>rw[gO ah.out,gO (Em _ _ _ (fU d8 (by omega) _ _ _ _ _ _ _ _))];omega
   case hmono=>exact mL
  ·have bp:m.length < 64:=by omega
   have hq:(jB z (l++y))=(o,m):=he.trans (iq _ _ bp);have Hq:=aa hq;have O:=aa R;clear A hq R
   go_wp2_with fail
   refine(eD _ m _ ai.BD (by omega)).mono ?_;rintro e w2 ⟨v2,rfl,Z,I⟩;obtain⟨p2,P,bm,bP,bB⟩:=(aX.AS Z).form;subst bm;have k8:w2.cell? ⟨k,8,none⟩=some (.slice J m.length B):=((ay I).1 _ _ s).trans M;have y8:w2.frozen? ⟨k,8,none⟩=false:=((ay I).2 _ _ s).trans ad;have S:=aa I;have af:=aa Z;clear I Z
   go_wp2_with fail
   go_ret;have az:B0<=wr.heap.size:=Nat.le_trans bf L.size;have hk:(Value.slice p2 m.length P).ownBlock≠some k:=fun q=>by have:=(af.lt k q).1;omega
   refine⟨rfl,⟨?_,?_,?_,E⟩,(L.trans (S.mono az)).setCell E _⟩
   ·rw[Hq.out];exact(D.below S s).BY 8 (by omega) _
   ·rw[Hq.out];exact⟨_,Em _ _ _ k8,eV (dX af az) hk 8 _,hk⟩
   ·exact eN (((ay S).1 _ _ s).trans O) (by omega)
end Go.Proofs.Bl
