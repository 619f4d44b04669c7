/- Walk of baileeref22.laid. -/
import Derived.Test.YtglenbikdahgjaaGreatDoorPs19
set_option maxRecDepth 100000
set_option maxHeartbeats 16000000
open Bool renaming and_eq_true->Du,not_false->Ec,not_true->DO,or_assoc->EM
open Go renaming Calls->CZ,Value->CQ,World->CP,maxLen->Dc
open Go.Region renaming wanted->C8
open Go.RowKit.Below renaming refl->CT
open Go.Value renaming slice->EG
open List renaming append_assoc->DH,append_nil->DV,getElem?_eq_getElem->CV,length_append->C7,length_map->CY,take_of_length_le->CX,take_zero->Ek
open Nat renaming le_refl->CU,le_trans->Dk,zero_le->C9
open Or renaming inl->D9
namespace Go.Proofs.Bl
open Go Go.RowKit Go.Proofs
open Go.Proofs.Tryz renaming ntmps60->Gs,prog->CO
theorem qX (v:CQ) (l:BC) (w:CP) (h:eg w v l) (Q:l.kind=4) (hn:br l=true) (hz:bA l=true):
  CZ CO 60 #[v] w fun e w'=>∃v',e=.returned v'/\Bu w' .u8 v' (bE l)/\au w w':=by
 obtain⟨eD,vp,vs,vb,L,rfl,J⟩:=h;obtain rfl:=J.eq;obtain⟨hid,cI,cH⟩:=dr hn;obtain⟨kd,id,F,pl,sh,fr,ct,bl,cd⟩:=l;obtain⟨p1,c1,e1,cw,dW⟩:=J.pl.form;obtain⟨p2,R,e2,dQ,dX⟩:=J.sh.rd.form;obtain⟨p3,c3,e3,cx,dY⟩:=J.bl.form;have dn:Hid (Bu w .i64 vp pl):=aa J.pl;have bf:=aa J.sh;have ac:Hid (L.map cC=sh):=aa J.sl;have di:Hid (aU w vb bl):=aa J.bl;simp only at e1 e2 e3 Q hid cI cw cx;subst e1 e2 e3;clear J hn;unfold Dc at dW dX dY;obtain⟨np,bW⟩:=exq pl.length;obtain⟨n,bX⟩:=exq L.length;obtain⟨nb,bV⟩:=exq bl.length;have em:=aa bW;have be:=aa bX;have el:=aa bV;rw[<-bW]at dn cw⊢;rw[<-bX]at bf dQ⊢;rw[<-bV]at di cx⊢;clear bW bX bV;have dm:=aa cH;have Hz:=aa hz;clear cH hz;subst Q;obtain⟨W0,bm⟩:=exq (w.alloc (.cells #[.int .i64 4,.int .i64 id,.int .i64 F,.slice p1 np c1,.slice p2 n R,.int .i64 fr,.int .i64 ct,.slice p3 nb c3,.int .i64 cd] 43));have b9:Hid (au w W0):=aa (by rw[bm];exact ae _ _);obtain⟨r,bP⟩:=exq (cL ⟨4,id,F,pl,sh,fr,ct,bl,cd⟩ (.slice p1 np c1) (.slice p2 n R) (.slice p3 nb c3));have HB:Hid (aw W0 w.heap.size r):=aa (by rw[bm,bP];exact aw.box w 43 (cs:=(cL ⟨4,id,F,pl,sh,fr,ct,bl,cd⟩ (.slice p1 np c1) (.slice p2 n R) (.slice p3 nb c3))) (fun h=>by cases h));have V:Hid (r[0]? =some (.int .i64 4)/\r[1]? =some (.int .i64 id)/\r[2]? =some (.int .i64 F)/\r[3]? =some (.slice p1 np c1)/\r[4]? =some (.slice p2 n R)/\r[5]? =some (.int .i64 fr)/\r[6]? =some (.int .i64 ct)/\r[7]? =some (.slice p3 nb c3)/\r[8]? =some (.int .i64 cd)):=aa (by rw[bP];exact⟨rfl,rfl,rfl,rfl,rfl,rfl,rfl,rfl,rfl⟩);show CZ CO 60 #[.agg #[.int .i64 4,.int .i64 id,.int .i64 F,.slice p1 np c1,.slice p2 n R,.int .i64 fr,.int .i64 ct,.slice p3 nb c3,.int .i64 cd]] w _;obtain⟨dS,dT⟩:=hid;obtain⟨cB,dU⟩:=cI;have cZ:IntKind.u8.wrap 4=4:=rfl;clear bP;go_enter Tryz.func60,Gs
 go_wp2_with fail
 rw[<-bm];clear bm;apply aG 7 [12,13,14,15,16,17,18] [ar _,ar _,ar _,(fun v w'=>Pk w' (w.heap.size+1) 1 v 1 [.int .u8 4]),ar _,ar _,(fun v w'=>dD w' v (aM id))] (by kernel_rfl) (by kernel_rfl) (by kernel_rfl) (by kernel_rfl);case hsteps=>
  refine⟨?_,?_,?_,?_,?_,?_,?_,trivial⟩;all_goals
   intro ev H B hb t;have e1:=hb 1 (by decide);clear hb;simp only[sB]at e1;simp only[sD]at t;have J:=(ay B).1;have q0:=(HB.ext B).cell V.1;have q1:=(HB.ext B).cell V.2.1;simp only[dw,C8,if_true];go_simp;first | exact⟨ae _ _,gW _ _ _ (HB.ext B).lt⟩ | (go_at_call 104;(with_reducible refine(bM id H dS dT).mono ?_);rintro e M ⟨v',rfl,h1,h2⟩;exact⟨_,rfl,h2,h1⟩) | exact⟨CT _ _,by rw[cZ];rfl⟩ | exact⟨CT _ _,rfl⟩
 case hmono=>exact⟨ah _,ah _,ah _,(fun _ _ _ h k=>Pk.ext h k),ah _,ah _,(fun _ _ _ h k=>dD.ext h k),trivial⟩
 case hend=>
  intro u H B hend;simp only[sE]at hend;simp only[sF,hend];have cK:Pk H (w.heap.size+1) 1 (u 15) 1 [.int .u8 4]:=(by first | ((repeat(first | exact hend | exact hend.2 | replace hend:=hend.1));done) | ((repeat(first | exact hend | exact hend.1 | replace hend:=hend.2));first | done | fail));have cT:dD H (u 18) (aM id):=(by first | ((repeat(first | exact hend | exact hend.2 | replace hend:=hend.1));done) | ((repeat(first | exact hend | exact hend.1 | replace hend:=hend.2));first | done | fail));obtain⟨dA,d9,dE,cX,cP⟩:=dy cT (show 0 < 8 by decide);have cW:u 18=.slice (some ⟨dA,d9,none⟩) 8 dE:=cX;have ab:Hid (eQ w r H (u 15) 1 [4]):=aa ⟨HB.ext B,cK,b9.trans B⟩;obtain⟨e5,b0⟩:=exq (u 15);rw[<-b0]at ab;rw[<-b0,cW];have dv:=aa cP;clear cK cT cW cX cP b0 hend B HB cZ b9;obtain⟨eT,ex,rfl⟩:=ab.form
  go_wp2_with (with_reducible refine av ?_)
  refine ax ?_;refine aS aQ ab.own dv rfl (aE _ _) (by decide) (by decide) (by decide) ab.le rfl rfl ?_;intro ec ei hp C Q;have h:eQ w r ei ec (9) (4 :: aM id):=ab.push hp C;obtain⟨eV,ez,rfl⟩:=h.form;have bz:=aa h;clear hp C Q h ab;have K:=bz.box.cell V.2.2.1
  go_wp2_with fail
  refine(bM F _ cB dU).mono ?_;rintro e wx ⟨vx,rfl,cU,cq⟩;obtain⟨dB,ox,dF,cY,cS⟩:=dy cU (show 0 < 8 by decide);have d5:vx=.slice (some ⟨dB,ox,none⟩) 8 dF:=cY;clear cY;subst d5;have O:=aa (bz.ext' cq);have Rx:=aa cS;clear cU cq cS K bz
  go_wp2_with (with_reducible refine av ?_)
  refine ax ?_;refine aS aQ O.own Rx rfl (aE _ _) (by decide) (by decide) (by decide) O.le rfl rfl ?_;intro ed bx hp C Q;have h:eQ w r bx ed (17) (4 :: (aM id++aM F)):=O.push hp C;obtain⟨eW,eA,rfl⟩:=h.form;have bC:=aa h;clear hp C Q h O;have q0:=bC.box.cell V.1
  ·have aY:Hid ((1<=n/\n<=12)/\(∀s∈sh,gQ s=false)/\∀s∈sh,fE s.1=false):=aa (by
    have h:(wi sh.length 1 12&& !sh.any gQ)=true:=Hz.out;rw[Du]at h;have h1:=bj.1 h.1
    exact⟨by have:=be.out;rw[<-ac.out,CY]at h1;omega,cG h.2,cG dm⟩)
   have eI:(n:Int)<=12:=by have:=aY.1.2;omega
   have eH:(0:Int)<=(n:Int):=by omega
   have HV:Hid (bE ⟨4,id,F,pl,sh,fr,ct,bl,cd⟩=4 :: (aM id++aM F)++[(n:Int)]++sh.flatMap nx):=aa (by unfold bE eu;simp[be.out,<-ac.out])
   have dR:Hid (∀s∈sh,gQ s=false/\dd s.2.2):=aa fun s hs=>⟨aY.2.1 s hs,by
    rw[<-ac.out]at hs;obtain⟨x,hx,rfl⟩:=List.mem_map.1 hs
    exact(bf.ok x hx).dg⟩
   have q4:=bC.box.cell V.2.2.2.2.1;have ba:=aa (bC.ext' (ae bx (.cells #[.int .u8 (n:Int)] 5)));have dx:Hid ((bx.alloc (.cells #[.int .u8 (n:Int)] 5)).rangeAt bx.heap.size 0 (aj .u8 [(n:Int)])):=aa fun j x hx=>by rw[Nat.zero_add,World.cell?_alloc_new];exact rD hx
   go_wp2_with (with_reducible refine av ?_)
   refine ax ?_;refine aS aQ ba.own dx rfl (aE _ _) (by decide) (by decide) (by decide) ba.le rfl rfl ?_;intro ee ej hp C Q;have h:eQ w r ej ee 18 (4 :: (aM id++aM F)++[(n:Int)]):=ba.push hp C;obtain⟨eX,eB,rfl⟩:=h.form;have b6:=aa h;clear hp C Q h ba q4 q0;have q4:=b6.box.cell V.2.2.2.2.1
   go_wp2_with fail
   clear q4;go_loopw [3,98] (fun o i wr=>∃(k N:Nat) (p:Option Addr) (c:Nat) (pre:List Int),k<=n/\i=.int .i64 k/\o=.slice p N c/\Hid (pre=4 :: (aM id++aM F)++[(n:Int)]++(sh.take k).flatMap nx)/\Hid (pre.length=N)/\Hid (eQ w r wr (.slice p N c) N pre)) (fun _ i _=>n - (intOf i).toNat);case atStart=>exact⟨0,18,_,_,4 :: (aM id++aM F)++[(n:Int)],C9 _,rfl,rfl,aa (by rw[Ek,List.flatMap_nil,DV]),aa rfl,b6⟩
   case round=>
    obtain⟨k,N,p,c,pre,Q,rfl,rfl,bK,HN,U⟩:=hrel;by_cases dV:k < n
    ·have aW:k < L.length:=by rw[<-be.out];exact dV
     have bp:k < sh.length:=by rw[<-ac.out,CY];exact aW
     have bT:=bf.ext U.ext;obtain⟨g,o,eC,d0,_,_,_,cz⟩:=bT.pos (by omega);injection d0 with dN dO dP;subst dN;have Z:=cz k aW;have a0:=bf.ok _ (aJ s0 aW);have bq:=bT.ok _ (aJ s0 aW);have cN:cC (L.getD k s0)=sh.getD k h0:=by rw[<-dq,ac.out]
     have bv:=aY.2.1 _ (aJ h0 bp);have b1:=fv (aY.2.2 _ (aJ h0 bp));have bN:=aa (fb h0 nx sh k bp)
     have ce:Hid (N<=18+12*339):=aa (by
      rw[<-HN.out,bK.out];have h9:=ru (sh.take k) (fun s hs=>dR s (List.mem_of_mem_take hs));have dL:(sh.take k).length<=12:=by rw[List.length_take];have:=aY.1.2;omega
      have eE:((sh.take k).length)*339<=12*339:=Nat.mul_le_mul_right _ dL;rw[C7];have:(4 :: (aM id++aM F)++[(n:Int)]).length=18:=rfl
      omega)
     rw[<-cN]at bv b1 bN;obtain⟨x,hx⟩:=exq (L.getD k s0);rw[<-hx]at Z bq a0 bv b1 bN;clear hx cN cz dO dP bT;obtain⟨E,⟨u1,st⟩,u2,pa⟩:=x;obtain⟨d7,c0⟩:0<=E/\E<=511:=b1;obtain⟨a2,c2⟩:st.length=16/\pa.length<=10:=iG bv;obtain⟨g1,T,d1,bZ,_,_,cA,an,_⟩:=Bu.pos a0.st (by show 0 < st.length;omega);obtain⟨K,d2,cO,_,eJ⟩:=bq.pa.form;simp only at bZ cO;rw[a2]at bZ;subst bZ cO;obtain⟨m,hm⟩:=exq pa.length;have Hm:=aa hm;have eO:m<=10:=by rw[hm];exact c2
     rw[<-hm]at bq Z;have df:Hid (et w (.slice K m d2) pa):=aa (by rw[hm];exact a0.pa);have bb:Hid (dd pa):=aa a0.dg;have R1:Hid (∀M,au w M->M.rangeAt g1 T (aj .u8 st)):=aa fun M h2=>aL an h2
     have cf:Hid (g1 < w.heap.size):=aa cA;have b5:=aa a2;have aI:=aa (run_loadAt_mid (P:=CO) wr g (o+k*3) 100 _ _ Z Tryz.underlying100 rfl (by rw[bU];kernel_rfl));have cJ:∀z∈([.int .i64 E,.slice (some ⟨g1,T,none⟩) 16 d1,.slice K m d2]:List CQ),z.oneCell'=true:=eK ⟨_,_,_,rfl⟩ ⟨_,_,_,rfl⟩;obtain⟨cm,co⟩:=aw.fresh (cs:=[.int .i64 E,.slice (some ⟨g1,T,none⟩) 16 d1,.slice K m d2]) wr 100 eS rfl (fun q=>by cases q);have aK:=aa (aH (P:=CO) (cs:=[.int .i64 E,.slice (some ⟨g1,T,none⟩) 16 d1,.slice K m d2]) wr 100 eS rfl cJ (ty:=100) (by kernel_rfl));have aA:=aa cm;have ca:=aa co;have eM:(0:Int)<=(k:Int):=by omega
     have eN:(k:Int) < (n:Int):=by omega
     clear Z bq a0 cJ cm co hm a2 c2 bv aW bp an cA
     go_wp2_with first | refine ao rfl aI ?_ | (with_reducible refine aC (ty:=100) ?_)
     refine ax ?_;refine ak rfl rfl aK ?_;obtain⟨W5,cr⟩:=exq ((wr.alloc (.cells eS 100)).setCells wr.heap.size 0 [.int .i64 E,.slice (some ⟨g1,T,none⟩) 16 d1,.slice K m d2]);obtain⟨D,hD⟩:=exq wr.heap.size;rw[<-cr]at aA ca⊢;rw[<-hD]at aA⊢;have bc:Hid ((∀j,(EG p N c).ownBlock=some j->j < D)/\D < W5.heap.size/\w.heap.size < D):=aa ⟨fun j X=>by rw[hD];exact(U.own.block j X).2,aA.lt,by rw[hD];exact U.box.lt⟩;have G:=aa (U.ext' ca);clear cr hD aK aI;have Hq:Hid (∀M,Kq (fun j=>(EG p N c).ownBlock=some j\/W5.heap.size<=j) W5 M->aw M D [.int .i64 E,.slice (some ⟨g1,T,none⟩) 16 d1,.slice K m d2]/\M.rangeAt g1 T (aj .u8 st)):=aa fun M h2=>by
      refine⟨h2.box (fun q=> ?_) aA,fun j z hz=>h2.cell (fun q=> ?_) (R1 W5 G.ext j z hz)⟩
      ·rcases q with q | q
       ·have:=bc.1 D q;omega
       ·have:=bc.2.1;omega
      ·rcases q with q | q
       ·have:=(G.own.block g1 q).1;have:=cf.out;omega
       ·have:=cf.out;have:=G.le;omega
     have d6:IntKind.u8.wrap (m:Int)=(m:Int):=IntWalk.u8_in _ (by omega);have W:Hid (N+2<=Dc/\(N+2)*1<=140737488355328/\N+2+16<=Dc/\(N+2+16)*1<=140737488355328/\N+2+16+1<=Dc/\(N+2+16+1)*1<=140737488355328):=aa (by have:=ce.out;unfold Dc;omega);have cg:Hid ((aj .u8 (bB E)).length=2*1/\(aj .u8 st).length=16*1):=aa ⟨rfl,by rw[ints_length,b5.out]⟩
     go_wp2_with fail
     apply az (Kq (fun j=>(EG p N c).ownBlock=some j\/W5.heap.size<=j)) (JL W5.heap.size N (.slice p N c) (w.heap.size+1) pre (bB E) st (m:Int)) 13 [102,103,104,105,106,107,108,109,110,111,112,113,114] [ar _,ar _,ar _,cR,cR,ar _,ar _,cR,ar _,ar _,ar _,ar _,cR] (fun w=>Kq.refl w) (fun a b c h k=>Kq.trans h k) (by kernel_rfl) (by kernel_rfl) (by kernel_rfl) (by kernel_rfl);case hsteps=>
      refine⟨?_,?_,?_,?_,?_,?_,?_,?_,?_,?_,?_,?_,?_,trivial⟩;all_goals
       intro d ev H B A aB aD Y hb t;replace aB:=aa aB;replace A:=aa A;replace aD:=aa aD;replace Y:=aa Y;have e3:=hb 3 (by decide);have e9:=hb 9 (by decide);clear hb;simp only[sB]at e3 e9;simp only[sG]at t;have hq:=Hq _ B;have es:=hq.1.cell (i:=0) (v:=.int .i64 E) rfl;have c1:=hq.1.cell (i:=1) (v:=.slice (some ⟨g1,T,none⟩) 16 d1) rfl;have R:=hq.1.cell (i:=2) (v:=.slice K m d2) rfl;rw[if_pos (rfl:C8 _ _=true)];first
       | (obtain⟨cl,o9,c9,d4,d3⟩:=A.b (aB 3 (by kernel_rfl)) Y;(with_reducible refine eY (c:=c9) aQ (A.out.a Y.out) d3 cg.out.1 (aE _ _) (by decide) W.out.1 W.out.2.1 (Dk A.out.bw A.out.le) ?_ ?_ ?_);exact(by first | ((repeat(first | exact t | exact t.2 | replace t:=t.1));done) | ((repeat(first | exact t | exact t.1 | replace t:=t.2));first | done | fail));exact d4;exact fun v' w' z1 z2 z3=>(A.Ce Y (aD 7 (by kernel_rfl)) z1 z2 z3).imp (fun y=>y) fun z=>⟨trivial,z⟩) | ((with_reducible refine eY (c:=d1) aQ (A.out.c (aB.out 4 (by kernel_rfl)) Y.out).1 hq.2 cg.out.2 (aE _ _) (by decide) W.out.2.2.1 W.out.2.2.2.1 (Dk A.out.bw A.out.le) ?_ ?_ ?_);rfl;exact(by first | ((repeat(first | exact t | exact t.2 | replace t:=t.1));done) | ((repeat(first | exact t | exact t.1 | replace t:=t.2));first | done | fail));exact fun v' w' z1 z2 z3=>(A.Cf (aB 4 (by kernel_rfl)) Y z1 z2 z3).imp (fun y=>y) fun z=>⟨trivial,z⟩)
       | (go_simp;first | exact⟨Kq.refl _,rfl,A.same (by decide)⟩ | exact⟨Kq.refl _,by rw[d6];rfl,A.same (by decide)⟩ | (go_at_call 105;(with_reducible refine(eG E H d7 (by omega)).mono ?_);rintro e M ⟨cl,o9,c9,rfl,k1,k2⟩;exact⟨_,rfl,Kq.AI k2,trivial,A.call (aD 4 (by kernel_rfl)) (aD 7 (by kernel_rfl)) k2 ⟨cl,o9,c9,rfl,k1⟩⟩) | exact⟨Kq.AI (ae _ _),trivial,A.BS _⟩ | exact⟨Kq.AI (ae _ _),A.BS _⟩ | exact⟨CT _ _,rfl,HJ.same (by decide) A⟩)
     case hmono=>exact mR
     case hR0=>exact Kq.drew _
     case hend=>
      intro u H B hJ hend;simp only[sE]at hend;simp only[sF,hend];have hP:=hJ.f rfl;obtain⟨gg,cV,_,_,Z,_,dZ⟩:=hJ.g rfl;obtain⟨v9,bu⟩:=exq (u 109);rw[<-bu]at hP;rw[<-bu,cV]
      have b8:Hid (aw H w.heap.size r):=aa (B.box (fun q=>by
       rcases q with q | q
       ·have:=(G.own.block _ q).1;omega
       ·have:=G.box.lt;omega) G.box)
      have cb:Hid (au w H):=aa (Below.trans G.ext (B.below G.ext.size (fun j q=>by
       rcases q with q | q
       ·have:=(G.own.block _ q).1;omega
       ·have:=G.ext.size;omega)))
      have O:Hid (eQ w r H v9 (N+2+16) (pre++bB E++st)):=aa ⟨b8,by rw[aP,aP];exact hP,cb⟩;have bG:=aa (Hq _ B).1;have RG:Hid (H.rangeAt gg 0 (aj .u8 [(m:Int)])):=aa Z;have bH:Hid (∀j,v9.ownBlock=some j->j≠D):=aa fun j X q=>by
       have h9:=hJ.f rfl;subst q
       exact absurd X (by
        intro z;rcases hJ.k9 rfl j (by rw[<-bu];exact z)with y | y
        ·have:=bc.1 j y;omega
        ·have:=bc.2.1;omega)
      clear B hJ hend hP cV Z dZ bu b8 cb Hq G U aA
      go_wp2_with (with_reducible refine av ?_)
      refine ax ?_;refine aS aQ O.own RG rfl (aE _ _) (by decide) W.2.2.2.2.1 W.2.2.2.2.2 O.le rfl rfl ?_;intro v7 w7 hp C bo;have h:eQ w r w7 v7 (N+2+16+1) (pre++bB E++st++[(m:Int)]):=O.push hp C;have b7:=aa (bG.grown C (fun q=>bH D q rfl));have ek:Hid ((∀j,v7.ownBlock=some j->j≠D)):=aa fun j X q=>by
       rcases bo j X with y | y
       ·exact bH j y q
       ·have:=bG.lt;omega
      obtain⟨p7,c7,rfl⟩:=h.form;have bD:=aa h;clear hp C bo h O bG bH RG;have R:=b7.cell (i:=2) (v:=.slice K m d2) rfl;obtain⟨a7,bs⟩:=exq (pre++bB E++st++[(m:Int)]);rw[<-bs]at bD;have dp:=aa bs;obtain⟨I,bQ⟩:=exq (N+2+16+1);rw[<-bQ]at bD⊢;have dc:Hid (a7.length=I):=aa (by rw[bs,bQ];simp only[C7,HN.out,b5.out,List.length_singleton];rfl);have eF:I<=5000:=by have:=ce.out;omega
      have en:Hid (D < w7.heap.size):=aa b7.lt;clear bs bQ W
      go_wp2_with fail
      clear R;go_loopw [3,119] (fun o i wr=>∃(j:Nat) (p8:Option Addr) (c8:Nat),j<=m/\i=.int .i64 j/\o=.slice p8 (I+j*32) c8/\Hid (eQ w r wr (.slice p8 (I+j*32) c8) (I+j*32) (a7++(pa.take j).flatten))) (fun _ i _=>m - (intOf i).toNat);case atStart=>exact⟨0,_,_,C9 _,rfl,rfl,by rw[Ek,List.flatten_nil,DV];exact bD⟩
      case round=>
       obtain⟨j,p8,c8,X,rfl,rfl,HI⟩:=hrel;by_cases cD:j < m
       ·have bn:j < pa.length:=by rw[<-Hm.out];exact cD
        obtain⟨er,eR,ew,bY,_,_,_,cQ⟩:=et.pos (ds:=pa) (aX.ext df HI.ext) bb (by omega);injection bY with bY c0 a2;subst bY;clear c0 a2;have an:=dI cQ bb (i:=j) bn;obtain⟨S,_⟩:=bb.get (i:=j) bn;have ch:Hid ((pa.take (j+1)).flatten=(pa.take j).flatten++pa.getD j []):=aa (by rw[aF [] pa j bn];simp);obtain⟨dg,cy⟩:=exq (pa.getD j []);rw[<-cy]at an S ch;have aI:=aa (aZ (P:=CO) (ty:=52) an Tryz.underlying52 (by kernel_rfl) S);have cF:aj .u8 dg≠[]:=fun q=>by have:=congrArg List.length q;rw[ints_length,S]at this;cases this
        obtain⟨cn,cp⟩:=aw.fresh (cs:=aj .u8 dg) wr 52 zA (by rw[ints_length,S];rfl) cF;have aK:=aa (aH (P:=CO) (cs:=aj .u8 dg) wr 52 zA (by rw[ints_length,S];rfl) (aE _ _) (ty:=52) (by rw[ints_length,S];kernel_rfl));have bF:=aa cn;have a9:=aa (HI.ext' cp);have dl:=aa S;have eL:(0:Int)<=(j:Int):=by omega
        have cB:(j:Int) < (m:Int):=by omega
        clear cQ an S cF cy cn cp bn
        go_wp2_with first | refine ao rfl aI ?_ | (with_reducible refine aC (ty:=52) ?_)
        refine ax ?_;refine ak rfl rfl aK ?_;obtain⟨W8,cu⟩:=exq ((wr.alloc (.cells zA 52)).setCells wr.heap.size 0 (aj .u8 dg));obtain⟨X8,cv⟩:=exq wr.heap.size;rw[<-cu]at bF a9⊢;rw[<-cv]at bF⊢;clear cu cv aK aI
        go_wp2_with (with_reducible refine av ?_)
        refine ax ?_;refine aS aQ a9.own bF.rg (by rw[ints_length,dl.out]) (aE _ _) (by decide) (by unfold Dc;omega) (by omega) a9.le rfl rfl ?_;intro v10 eh hp C bo;have h:eQ w r eh v10 (I+j*32+32) _:=a9.push hp C;have e2:I+j*32+32=I+(j+1)*32:=by omega
        rw[e2]at h;obtain⟨eb,dC,rfl⟩:=h.form;have da:=aa h;clear hp C bo h e2
        go_wp2_with fail
        go_roundw;case rel=>exact⟨j+1,eb,dC,by omega,by go_num,rfl,aa (by rw[ch.out,<-DH];exact da)⟩
        case measure=>simp[intOf];omega
       ·obtain rfl:j=m:=by omega
        have cM:pa.take j=pa:=CX (by rw[<-Hm.out];exact CU _);have cc:Hid (eQ w r wr (.slice p8 (I+j*32) c8) (I+j*32) (a7++pa.flatten)):=aa (by have h:=HI.out;rw[cM]at h;exact h);have dk:Hid (pa.flatten.length=j*32):=aa (by rw[Hm.out];exact dJ 32 pa (fun z hz=>(bb z hz).1));clear cM cD X;obtain⟨N3,bR⟩:=exq (I+j*32);rw[<-bR]at cc⊢;have de:Hid ((a7++pa.flatten).length=N3):=aa (by rw[C7,dc.out,dk.out,bR]);clear bR
        go_wp2_with fail
        go_roundw
        case rel=>exact⟨k+1,N3,p8,c8,a7++pa.flatten,by omega,by go_num,rfl,aa (by
         rw[dp.out,bK.out,bN.out];show _=_++(_++nx (E,st,pa));unfold nx
         simp only[DH,Hm.out]),de,cc⟩
        case measure=>simp[intOf];omega
     case hJ0=>exact JL.start (G.own.kept (fun _ _=>rfl) (CU _)) rfl G.le
    ·obtain rfl:k=n:=by omega
     have q0:=U.box.cell V.1;have h:=U.out;have e:pre=4 :: (aM id++aM F)++[(k:Int)]++sh.flatMap nx:=by rw[bK.out,CX (by rw[<-ac.out,CY,<-be.out];exact CU _)]
     have dh:Hid (Bu wr .u8 (.slice p N c) pre):=aa (h.rd HN);have He:=aa e;have HE:=aa h.ext;clear h e
     go_wp2_with fail
     go_ret;refine⟨_,rfl,?_,HE⟩;rw[HV.out,<-He.out];exact dh
theorem qY (v:CQ) (l:BC) (w:CP) (h:eg w v l) (n:l.kind=6) (hn:br l=true) (hz:bA l=true):
  CZ CO 60 #[v] w fun e w'=>∃v',e=.returned v'/\Bu w' .u8 v' (bE l)/\au w w':=by
 obtain⟨ce,vp,vs,vb,L,rfl,q⟩:=h;obtain rfl:=q.eq;obtain⟨hid,aO,aN⟩:=dr hn;obtain⟨kd,id,m,pl,sh,g,B,a,A⟩:=l;obtain⟨p1,E,V,aC,bG⟩:=q.pl.form;obtain⟨p2,F,H,bp,bH⟩:=q.sh.rd.form;obtain⟨N,G,e3,aD,bI⟩:=q.bl.form;have ba:Hid (Bu w .i64 vp pl):=aa q.pl;have bb:=aa q.sh;have b3:Hid (L.map cC=sh):=aa q.sl;have ao:Hid (aU w vb a):=aa q.bl;simp only at V H e3 n hid aO aC aD;subst V H e3;clear q hn;unfold Dc at bG bH bI;obtain⟨K,af⟩:=exq pl.length;obtain⟨M,ag⟩:=exq L.length;obtain⟨d,ac⟩:=exq a.length;have b1:=aa af;have b2:=aa ag;have D:=aa ac;rw[<-af]at ba aC⊢;rw[<-ag]at bb bp⊢;rw[<-ac]at ao aD⊢;clear af ag ac;have a9:=aa aN;have Hz:=aa hz;clear aN hz;subst n;obtain⟨W0,X⟩:=exq (w.alloc (.cells #[.int .i64 6,.int .i64 id,.int .i64 m,.slice p1 K E,.slice p2 M F,.int .i64 g,.int .i64 B,.slice N d G,.int .i64 A] 43));have an:Hid (au w W0):=aa (by rw[X];exact ae _ _);obtain⟨f,ab⟩:=exq (cL ⟨6,id,m,pl,sh,g,B,a,A⟩ (.slice p1 K E) (.slice p2 M F) (.slice N d G));have C:Hid (aw W0 w.heap.size f):=aa (by rw[X,ab];exact aw.box w 43 (cs:=(cL ⟨6,id,m,pl,sh,g,B,a,A⟩ (.slice p1 K E) (.slice p2 M F) (.slice N d G))) (fun h=>by cases h));have r:Hid (f[0]? =some (.int .i64 6)/\f[1]? =some (.int .i64 id)/\f[2]? =some (.int .i64 m)/\f[3]? =some (.slice p1 K E)/\f[4]? =some (.slice p2 M F)/\f[5]? =some (.int .i64 g)/\f[6]? =some (.int .i64 B)/\f[7]? =some (.slice N d G)/\f[8]? =some (.int .i64 A)):=aa (by rw[ab];exact⟨rfl,rfl,rfl,rfl,rfl,rfl,rfl,rfl,rfl⟩);show CZ CO 60 #[.agg #[.int .i64 6,.int .i64 id,.int .i64 m,.slice p1 K E,.slice p2 M F,.int .i64 g,.int .i64 B,.slice N d G,.int .i64 A]] w _;obtain⟨bv,bw⟩:=hid;obtain⟨bz,bC⟩:=aO;have a4:IntKind.u8.wrap 6=6:=rfl;clear ab;go_enter Tryz.func60,Gs
 go_wp2_with fail
 rw[<-X];clear X;apply aG 7 [12,13,14,15,16,17,18] [ar _,ar _,ar _,(fun v w'=>Pk w' (w.heap.size+1) 1 v 1 [.int .u8 6]),ar _,ar _,(fun v w'=>dD w' v (aM id))] (by kernel_rfl) (by kernel_rfl) (by kernel_rfl) (by kernel_rfl);case hsteps=>
  refine⟨?_,?_,?_,?_,?_,?_,?_,trivial⟩;all_goals
   intro ev P s hb hd;have V:=hb 1 (by decide);clear hb;simp only[sB]at V;simp only[sD]at hd;have q:=(ay s).1;have O:=(C.ext s).cell r.1;have q1:=(C.ext s).cell r.2.1;simp only[dw,C8,if_true];go_simp;first | exact⟨ae _ _,gW _ _ _ (C.ext s).lt⟩ | (go_at_call 104;(with_reducible refine(bM id P bv bw).mono ?_);rintro e w2 ⟨v',rfl,h1,h2⟩;exact⟨_,rfl,h2,h1⟩) | exact⟨CT _ _,by rw[a4];rfl⟩ | exact⟨CT _ _,rfl⟩
 case hmono=>exact⟨ah _,ah _,ah _,(fun _ _ _ h k=>Pk.ext h k),ah _,ah _,(fun _ _ _ h k=>dD.ext h k),trivial⟩
 case hend=>
  intro u P s hend;simp only[sE]at hend;simp only[sF,hend];have aP:Pk P (w.heap.size+1) 1 (u 15) 1 [.int .u8 6]:=(by first | ((repeat(first | exact hend | exact hend.2 | replace hend:=hend.1));done) | ((repeat(first | exact hend | exact hend.1 | replace hend:=hend.2));first | done | fail));have aW:dD P (u 18) (aM id):=(by first | ((repeat(first | exact hend | exact hend.2 | replace hend:=hend.1));done) | ((repeat(first | exact hend | exact hend.1 | replace hend:=hend.2));first | done | fail));obtain⟨bi,bL,bl,aZ,aT⟩:=dy aW (show 0 < 8 by decide);have aY:u 18=.slice (some ⟨bi,bL,none⟩) 8 bl:=aZ;have z:Hid (eQ w f P (u 15) 1 [6]):=aa ⟨C.ext s,aP,an.trans s⟩;obtain⟨cu,aj⟩:=exq (u 15);rw[<-aj]at z;rw[<-aj,aY];have be:=aa aT;clear aP aW aY aZ aT aj hend s C a4 an;obtain⟨cn,b6,rfl⟩:=z.form
  go_wp2_with (with_reducible refine av ?_)
  refine ax ?_;refine aS aQ z.own be rfl (aE _ _) (by decide) (by decide) (by decide) z.le rfl rfl ?_;intro bR bX hp j n;have h:eQ w f bX bR (9) (6 :: aM id):=z.push hp j;obtain⟨co,b7,rfl⟩:=h.form;have Z:=aa h;clear hp j n h z;have q2:=Z.box.cell r.2.2.1
  go_wp2_with fail
  refine(bM m _ bz bC).mono ?_;rintro e wx ⟨vx,rfl,aX,aA⟩;obtain⟨bx,ox,cx,a3,aV⟩:=dy aX (show 0 < 8 by decide);have bK:vx=.slice (some ⟨bx,ox,none⟩) 8 cx:=a3;clear a3;subst bK;have R:=aa (Z.ext' aA);have Rx:=aa aV;clear aX aA aV q2 Z
  go_wp2_with (with_reducible refine av ?_)
  refine ax ?_;refine aS aQ R.own Rx rfl (aE _ _) (by decide) (by decide) (by decide) R.le rfl rfl ?_;intro bS bY hp j n;have h:eQ w f bY bS (17) (6 :: (aM id++aM m)):=R.push hp j;obtain⟨cp,b8,rfl⟩:=h.form;have Q:=aa h;clear hp j n h R;have O:=Q.box.cell r.1
  ·have ad:Hid ((1<=d/\d<=512)/\∀b∈a,fa b=false):=aa (by
    have h:(wi a.length 1 512&& !a.any fa)=true:=Hz.out;rw[Du]at h;have h1:=bj.1 h.1
    exact⟨by have:=D.out;omega,cG h.2⟩)
   have ch:(d:Int)<=512:=by have:=ad.1.2;omega
   have bo:(0:Int)<=(d:Int):=by omega
   have a8:Hid (a.flatten.length=d*16):=aa (by rw[D.out];exact dJ 16 a (fun x hx=>ep (ad.2 x hx)));have aJ:wi g 0 511=true:=a9.out;have aK:=bj.1 aJ;have bs:0<=g:=aK.1;have bt:g<=65535:=by omega
   clear aJ aK;have HV:Hid (bE ⟨6,id,m,pl,sh,g,B,a,A⟩=6 :: (aM id++aM m)++bB g++bB d++a.flatten):=aa (by unfold bE eu;simp[D.out]);have q5:=Q.box.cell r.2.2.2.2.2.1
   go_wp2_with fail
   refine(eG g _ bs bt).mono ?_;rintro e cz ⟨b5,cl,cb,rfl,J,I⟩;have T:=aa (Q.ext' I);have bg:=aa J;clear J I Q;clear q5 O
   go_wp2_with (with_reducible refine av ?_)
   refine ax ?_;refine aS aQ T.own bg rfl (aE _ _) (by decide) (by decide) (by decide) T.le rfl rfl ?_;intro bU b0 hp j n;have h:eQ w f b0 bU (19) (6 :: (aM id++aM m)++bB g):=T.push hp j;obtain⟨cr,cc,rfl⟩:=h.form;have U:=aa h;clear hp j n h T;have O:=U.box.cell r.1;have q7:=U.box.cell r.2.2.2.2.2.2.2.1
   go_wp2_with fail
   refine(eG (d:Int) _ bo (by omega)).mono ?_;rintro e cy ⟨b4,ck,b9,rfl,J,I⟩;have S:=aa (U.ext' I);have bf:=aa J;clear J I U;clear q7
   go_wp2_with (with_reducible refine av ?_)
   refine ax ?_;refine aS aQ S.own bf rfl (aE _ _) (by decide) (by decide) (by decide) S.le rfl rfl ?_;intro bT bZ hp j n;have h:eQ w f bZ bT (19+2) (6 :: (aM id++aM m)++bB g++bB d):=S.push hp j;obtain⟨cq,ca,rfl⟩:=h.form;have am:=aa h;clear hp j n h S;have q7:=am.box.cell r.2.2.2.2.2.2.2.1
   go_wp2_with fail
   clear q7 O;go_loopw [3,55] (fun o i wr=>∃(k:Nat) (p:Option Addr) (c:Nat),k<=d/\i=.int .i64 k/\o=.slice p (19+2+k*16) c/\Hid (eQ w f wr (.slice p (19+2+k*16) c) (19+2+k*16) (6 :: (aM id++aM m)++bB g++bB d++(a.take k).flatten))) (fun _ i _=>d - (intOf i).toNat);case atStart=>exact⟨0,_,_,C9 _,rfl,rfl,by rw[Ek,List.flatten_nil,DV];exact am⟩
   case round=>
    obtain⟨k,p,c,n,rfl,rfl,t⟩:=hrel;by_cases bF:k < d
    ·have Y:k < a.length:=by rw[<-D.out];exact bF
     obtain⟨cv,a0,a1,a2⟩:=ao.ext t.ext;obtain⟨gb,ob,bJ,bu,aH⟩:=aU.BK a0 a1 k Y;subst bJ;have ai:=a2 k Y;have W:=ep (ad.2 _ (xF a Y));have ap:Hid ((a.take (k+1)).flatten=(a.take k).flatten++a.getD k []):=aa (by rw[aF [] a k Y];simp);obtain⟨y,hy⟩:=exq (a.getD k []);rw[<-hy]at ai W ap;obtain⟨g1,o1,cd,aI,_,_,_,aR,_⟩:=Bu.pos ai (by omega);rw[aI,W]at aH;have R1:=aa aR;have a6:=aa W;clear a0 a1 a2 bu ai W hy aI aR
     go_wp2_with (with_reducible refine av ?_)
     refine ax ?_;refine aS aQ t.own R1 (by rw[ints_length,a6.out]) (aE _ _) (by decide) (by unfold Dc;omega) (by omega) t.le rfl rfl ?_;intro v5 w5 hp j bD;have h:eQ w f w5 v5 (19+2+k*16+16) _:=t.push hp j;have H:19+2+k*16+16=19+2+(k+1)*16:=by omega
     rw[H]at h;obtain⟨p5,c5,rfl⟩:=h.form;have H5:=aa h;clear hp j bD h H aH
     go_wp2_with fail
     go_roundw;case rel=>exact⟨k+1,p5,c5,by omega,by go_num,rfl,aa (by rw[ap.out,<-DH];exact H5)⟩
     case measure=>simp[intOf];omega
    ·obtain rfl:k=d:=by omega
     have O:=t.box.cell r.1
     go_wp2_with fail
     go_ret;refine⟨_,rfl,?_,t.ext⟩;have h:=t.out;rw[CX (by rw[<-D.out];exact CU _)]at h;rw[HV.out];exact h.rd (by rw[C7,a8.out];rfl)
theorem ei (v:CQ) (l:BC) (w:CP) (h:eg w v l) (d:1<=l.kind/\l.kind<=7) (a:br l=true) (b:bA l=true):
  CZ CO 60 #[v] w fun e w'=>∃c,e=.returned c/\Bu w' .u8 c (bE l)/\au w w':=by
 rcases kf d with h1 | h1 | h1 | h1 | h1 | h1 | h1
 ·exact qS v l w h h1 a b
 ·exact qT v l w h h1 a b
 ·exact qU v l w h h1 a b
 ·exact qX v l w h h1 a b
 ·exact qV v l w h h1 a b
 ·exact qY v l w h h1 a b
 ·exact qW v l w h h1 a b
theorem gX (l:BC):dU l=true↔(l.kind=3\/l.places.length=0)/\(l.kind=4\/l.shown.length=0)/\((l.kind=5\/l.kind=6)\/l.BE=0)/\(l.kind=5\/l.BG=0)/\((l.kind=1\/l.kind=6)\/l.blocks.length=0)/\(l.kind=7\/l.code=0):=by
 unfold dU cQ lF dW;simp only[decide_eq_true_eq,BC.BO];by_cases a:l.kind=3<;>by_cases b:l.kind=4<;>by_cases c:l.kind=5<;>by_cases d:l.kind=6<;>by_cases h1:l.kind=1<;>by_cases e:l.kind=7<;>(simp[h1,a,b,c,d,e,BC.BN]<;>constructor<;>simp_all)
section
variable {l:BC}
theorem zF (h:wi l.kind 1 7=false):aR l=7:=by unfold aR;rw[if_pos h]
theorem ie (h:wi l.kind 1 7=true) (h1:br l=false):aR l=1:=by unfold aR;rw[h,if_neg (by decide),if_pos h1]
theorem xe (h:wi l.kind 1 7=true) (h1:br l=true) (h2:bA l=false):aR l=8:=by unfold aR;rw[h,if_neg (by decide),h1,if_neg (by decide),if_pos h2]
theorem dR (h:wi l.kind 1 7=true) (h1:br l=true) (h2:bA l=true) (a:¬dU l=true):aR l=4:=by
 have a:dU l=false:=by simpa using a
 unfold aR;rw[h,if_neg (by decide),h1,if_neg (by decide),h2,if_neg (by decide),if_pos a]
theorem qZ (h:wi l.kind 1 7=true) (h1:br l=true) (h2:bA l=true) (a:dU l=true) (b:8000 < (bE l).length):aR l=3:=by unfold aR;rw[h,if_neg (by decide),h1,if_neg (by decide),h2,if_neg (by decide),a,if_neg (by decide),if_pos b]
theorem rb (h:wi l.kind 1 7=true) (h1:br l=true) (h2:bA l=true) (a:dU l=true) (b:¬8000 < (bE l).length):aR l=0:=by unfold aR;rw[h,if_neg (by decide),h1,if_neg (by decide),h2,if_neg (by decide),a,if_neg (by decide),if_neg b]
end
theorem eH {α :Type} (p: α ->Bool) (l:List α) (d: α) {k:Nat} (h:k < l.length):(l.take (k+1)).any p=((l.take k).any p||p (l.getD k d)):=by
 rw[List.take_add_one,CV h,List.any_append,List.getD_eq_getElem?_getD,CV h];simp
theorem lY {α :Type} (a b n y E F G H I J c d e f g h i j k m o p q r s t u v w x z A B C D: α) (l:List α):List.append [a,b,n,y,E,F,G,H,I,J,c,d,e,f,g,h,i,j,k,m,o,p,q,r,s,t,u,v,w,x,z,A,B,C,D] l=a :: b :: n :: y :: E :: F :: G :: H :: I :: J :: c :: d :: e :: f :: g :: h :: i :: j :: k :: m :: o :: p :: q :: r :: s :: t :: u :: v :: w :: x :: z :: A :: B :: C :: D :: l:=rfl
theorem fj {P:Program} {ops:Array Oper} {rest:List Oper} {o:Op} {c:TypeId} {pp:String} {b:Array Edge} {g:Option (Nat × Bool)} {Q:Exit->Act->CP->Prop} {a:Act} {w:CP} (h:kx (wpList P ops Q (⟨some 148,o,c,pp,b,g⟩ :: rest) a w)):wpList P ops Q (⟨some 148,o,c,pp,b,g⟩ :: rest) a w:=h
theorem zb:∀ {a b c:Bool},true=(!b||c)->(a&&b&& !c)=false:=by decide
theorem vH:∀ {b c:Bool},false=(!b||c)->b=true/\c=false:=by decide
theorem yq:∀ {b c:Bool},true=(!b||c)->(b&& !c)=false:=by decide
theorem oY (v:CQ) (l:BC) (w:CP) (h:eg w v l) (W:l.kind=1):
  CZ CO 40 #[v] w fun e w'=>e=.returned (.int .i64 (aR l:Nat))/\au w w':=by
 have HL:=aa h;obtain⟨bC,vp,vs,vb,L,rfl,A⟩:=h;obtain rfl:=A.eq;have K:Hid (∀B,au w B->br l=true->bA l=true->CZ CO 60 #[.agg (cL l vp vs vb).toArray] B fun e w'=>∃v',e=.returned v'/\Bu w' .u8 v' (bE l)/\au B w'):=aa fun B h2 hn hz=>ei _ l B (HL.ext h2) (by rw[W];decide) hn hz
 obtain⟨kd,id,c,pl,sh,j,g,a,f⟩:=l;obtain⟨p1,N,e1,aJ,bn⟩:=A.pl.form;obtain⟨p2,O,e2,bj,bo⟩:=A.sh.rd.form;obtain⟨R,Q,e3,aK,bp⟩:=A.bl.form;have bb:Hid (Bu w .i64 vp pl):=aa A.pl;have bf:=aa A.sh;have bg:Hid (L.map cC=sh):=aa A.sl;have az:Hid (aU w vb a):=aa A.bl;simp only at e1 e2 e3 W aJ aK;subst W;subst e1 e2 e3;clear A HL;unfold Dc at bn bo bp;obtain⟨I,aj⟩:=exq pl.length;obtain⟨D,X⟩:=exq L.length;obtain⟨s,ai⟩:=exq a.length;have G:=aa aj;have bw:=aa X;have u:=aa ai;have H:Hid (sh.length=D):=aa (by rw[<-bg.out,CY,X]);rw[<-aj]at bb aJ K⊢;rw[<-X]at bf bj K⊢;rw[<-ai]at az aK K⊢;clear aj X ai;obtain⟨qI,al⟩:=exq (wi id 0 1099511627776);obtain⟨qO,am⟩:=exq (wi c 0 1099511627776);have HN:Hid (br ⟨1,id,c,pl,sh,j,g,a,f⟩=(qI&&qO&&true)):=aa (by rw[al,am];unfold br jN;rfl);have HS:Hid (bA ⟨1,id,c,pl,sh,j,g,a,f⟩=(wi a.length 1 512&& !a.any fa)):=aa (by unfold bA;rfl);have E:=aa (gX ⟨1,id,c,pl,sh,j,g,a,f⟩);have bd:=aa al;have be:=aa am;clear al am;obtain⟨W0,V⟩:=exq (w.alloc (.cells #[.int .i64 1,.int .i64 id,.int .i64 c,.slice p1 I N,.slice p2 D O,.int .i64 j,.int .i64 g,.slice R s Q,.int .i64 f] 43));have ab:Hid (au w W0):=aa (by rw[V];exact ae _ _);obtain⟨p,U⟩:=exq (cL ⟨1,id,c,pl,sh,j,g,a,f⟩ (.slice p1 I N) (.slice p2 D O) (.slice R s Q));rw[<-U]at K;have m:Hid (aw W0 w.heap.size p):=aa (by rw[V,U];exact aw.box w 43 (cs:=(cL ⟨1,id,c,pl,sh,j,g,a,f⟩ (.slice p1 I N) (.slice p2 D O) (.slice R s Q))) (fun h=>by cases h));have d:Hid (p[0]? =some (.int .i64 1)/\p[1]? =some (.int .i64 id)/\p[2]? =some (.int .i64 c)/\p[3]? =some (.slice p1 I N)/\p[4]? =some (.slice p2 D O)/\p[5]? =some (.int .i64 j)/\p[6]? =some (.int .i64 g)/\p[7]? =some (.slice R s Q)/\p[8]? =some (.int .i64 f)/\p.length=9):=aa (by rw[U];exact⟨rfl,rfl,rfl,rfl,rfl,rfl,rfl,rfl,rfl,rfl⟩);show CZ CO 40 #[.agg #[.int .i64 1,.int .i64 id,.int .i64 c,.slice p1 I N,.slice p2 D O,.int .i64 j,.int .i64 g,.slice R s Q,.int .i64 f]] w _;clear U;go_enter Tryz.func40,Tryz.ntmps40
 go_wp2_with fail
 rw[<-V];clear V;refine(bz _ _ _ _).mono ?_;rintro e B ⟨rfl,hw⟩;subst hw;have q0:=m.cell d.1;have Z:=m.cell d.2.1;have q2:=m.cell d.2.2.1;rw[show(!wi 1 1 7)=false from rfl]
 go_wp2_with fail
 refine(bz _ _ _ _).mono ?_;rintro e B ⟨rfl,hw⟩;subst hw;rw[<-bd.out];clear Z;cases qI
 ·rw[Ec];have HV:=aa (ie (l:=⟨1,id,c,pl,sh,j,g,a,f⟩) rfl (by rw[HN.out];rfl))
  go_wp2_with fail
  go_ret;exact⟨by rw[HV.out];rfl,ab⟩
 ·rw[DO]
  go_wp2_with fail
  refine(bz _ _ _ _).mono ?_;rintro e B ⟨rfl,hw⟩;subst hw;rw[<-be.out];cases qO
  ·rw[Ec];have HV:=aa (ie (l:=⟨1,id,c,pl,sh,j,g,a,f⟩) rfl (by rw[HN.out];rfl))
   go_wp2_with fail
   go_ret;exact⟨by rw[HV.out];rfl,ab⟩
  ·rw[DO];have q0:=m.cell d.1;have Z:=m.cell d.2.1;have q2:=m.cell d.2.2.1;have q3:=m.cell d.2.2.2.1;have q4:=m.cell d.2.2.2.2.1;have q5:=m.cell d.2.2.2.2.2.1;have q6:=m.cell d.2.2.2.2.2.2.1;have q7:=m.cell d.2.2.2.2.2.2.2.1;have q8:=m.cell d.2.2.2.2.2.2.2.2.1;have t:Hid (br ⟨1,id,c,pl,sh,j,g,a,f⟩=true):=aa (by rw[HN.out];rfl);obtain⟨qB,ak⟩:=exq (wi (s:Int) 1 512);rw[<-u.out,<-ak]at HS;have bc:=aa ak;clear ak
   go_wp2_with fail
   refine(bz _ _ _ _).mono ?_;rintro e B ⟨rfl,hw⟩;subst hw;rw[<-bc.out]
   go_wp2_with fail
   clear q0 Z q2 q3 q4 q5 q6 q7 q8;go_loopw [3,107] (fun o i wr=>∃(k:Nat) (b:Bool),k<=s/\i=.int .i64 k/\o=.bool b/\Hid (b=(!qB||(a.take k).any fa))/\Hid (aw wr w.heap.size p)/\Hid (au w wr)) (fun _ i _=>s - (intOf i).toNat);case atStart=>exact⟨0,_,C9 _,rfl,rfl,aa (by rw[Ek];simp),m,ab⟩
   case round=>
    obtain⟨k,b,W,rfl,rfl,F,n,r⟩:=hrel;by_cases bm:k < s
    ·have ah:k < a.length:=by rw[<-u.out];exact bm
     obtain⟨bP,aT,aV,aW⟩:=az.ext r;obtain⟨gb,ob,bs,bl,aL⟩:=aU.BK aT aV k ah;subst bs;have an:=aW k ah;have S:=aa (eH fa a [] ah);obtain⟨y,hy⟩:=exq (a.getD k []);rw[<-hy]at an S;obtain⟨g1,bB,aN,_,_⟩:=an.form;rw[aN]at aL;obtain⟨J,Y⟩:=exq y.length;rw[<-Y]at aL;have bx:=aa Y;have aI:Hid (fa y= !decide (J=16)):=aa (by unfold fa;rw[Y]);clear aT aV aW bl an hy aN Y;cases b
     ·by_cases af:J=16
      ·subst af
       go_wp2_with fail
       go_roundw;case rel=>exact⟨k+1,false,by omega,by go_num,rfl,aa (by rw[S.out,aI.out,<-EM,<-F.out];rfl),n,r⟩
       case measure=>simp[intOf];omega
      ·have aG:¬((J:Int)=16):=by omega
       have bG:((J:Int)==16)=false:=by rw[beq_eq_false_iff_ne];exact aG
       have bh:((J:Int) != 16)=true:=by rw[bne_iff_ne];exact aG
       have Hd:Hid (decide (J=16)=false):=aa (decide_eq_false af);clear af
       go_wp2_with fail
       go_roundw;case rel=>exact⟨k+1,true,by omega,by go_num,(by first | rfl | exact congrArg Value.bool bh),aa (by rw[S.out,aI.out,Hd.out,<-EM,<-F.out];rfl),n,r⟩
       case measure=>simp[intOf];omega
     ·go_wp2_with fail
      go_roundw;case rel=>exact⟨k+1,true,by omega,by go_num,rfl,aa (by rw[S.out,<-EM,<-F.out];rfl),n,r⟩
      case measure=>simp[intOf];omega
    ·obtain rfl:k=s:=by omega
     rw[CX (by rw[<-u.out];exact CU _)]at F;have q0:=n.cell d.1;have Z:=n.cell d.2.1;have q2:=n.cell d.2.2.1;have q3:=n.cell d.2.2.2.1;have q4:=n.cell d.2.2.2.2.1;have q5:=n.cell d.2.2.2.2.2.1;have q6:=n.cell d.2.2.2.2.2.2.1;have q7:=n.cell d.2.2.2.2.2.2.2.1;have q8:=n.cell d.2.2.2.2.2.2.2.2.1;cases b
     rotate_left
     ·have HV:=aa (xe (l:=⟨1,id,c,pl,sh,j,g,a,f⟩) rfl t (by rw[HS.out];exact yq F))
      go_wp2_with fail
      go_ret;exact⟨by rw[HV.out];rfl,r⟩
     have C:Hid (bA ⟨1,id,c,pl,sh,j,g,a,f⟩=true):=aa (by rw[HS.out];obtain⟨z1,z2⟩:=vH F;rw[z1,z2];rfl)
     go_wp2_with (with_reducible refine fj ?_)
     refine ax ?_;iterate 28 (try (first | go_values | go_skip | go_guarded | go_step | go_upon | go_back | (simp only[Int.not_lt,Int.not_le]at*;go_simp) | (go_values<;>(try go_simp))))
     rw[lY];by_cases bH:(0:Int) < (I:Int)
     ·have HV:=aa (dR (l:=⟨1,id,c,pl,sh,j,g,a,f⟩) rfl t C (fun q=>by obtain⟨x,a2,a3,a4,a5,z⟩:=E.1 q;(try dsimp only at x a2 a3 a4 a5 z);have:=G.out;have:=H.out;have:=u.out;omega))
      go_wp2_with fail
      go_ret;exact⟨by rw[HV.out];rfl,r⟩
     by_cases bI:(0:Int) < (D:Int)
     ·have HV:=aa (dR (l:=⟨1,id,c,pl,sh,j,g,a,f⟩) rfl t C (fun q=>by obtain⟨x,a2,a3,a4,a5,z⟩:=E.1 q;(try dsimp only at x a2 a3 a4 a5 z);have:=G.out;have:=H.out;have:=u.out;omega))
      go_wp2_with fail
      go_ret;exact⟨by rw[HV.out];rfl,r⟩
     by_cases aQ:j=0
     rotate_left
     ·have bL:(j==0)=false:=by rw[beq_eq_false_iff_ne];exact aQ
      have HV:=aa (dR (l:=⟨1,id,c,pl,sh,j,g,a,f⟩) rfl t C (fun q=>by obtain⟨x,a2,a3,a4,a5,z⟩:=E.1 q;(try dsimp only at x a2 a3 a4 a5 z);have:=G.out;have:=H.out;have:=u.out;omega))
      go_wp2_with fail
      go_ret;exact⟨by rw[HV.out];rfl,r⟩
     subst aQ;by_cases aP:g=0
     rotate_left
     ·have bK:(g==0)=false:=by rw[beq_eq_false_iff_ne];exact aP
      have HV:=aa (dR (l:=⟨1,id,c,pl,sh,0,g,a,f⟩) rfl t C (fun q=>by obtain⟨x,a2,a3,a4,a5,z⟩:=E.1 q;(try dsimp only at x a2 a3 a4 a5 z);have:=G.out;have:=H.out;have:=u.out;omega))
      go_wp2_with fail
      go_ret;exact⟨by rw[HV.out];rfl,r⟩
     subst aP;by_cases aO:f=0
     rotate_left
     ·have bJ:(f==0)=false:=by rw[beq_eq_false_iff_ne];exact aO
      have HV:=aa (dR (l:=⟨1,id,c,pl,sh,0,0,a,f⟩) rfl t C (fun q=>by obtain⟨x,a2,a3,a4,a5,z⟩:=E.1 q;(try dsimp only at x a2 a3 a4 a5 z);have:=G.out;have:=H.out;have:=u.out;omega))
      go_wp2_with fail
      go_ret;exact⟨by rw[HV.out];rfl,r⟩
     subst aO;have hf:dU ⟨1,id,c,pl,sh,0,0,a,0⟩=true:=by refine E.2 ⟨?_,?_,?_,?_,?_,?_⟩<;>(first | exact D9 rfl | exact D9 (D9 rfl) | exact D9 (Or.inr rfl) | exact D9 trivial | exact D9 (D9 trivial) | exact D9 (Or.inr trivial) | ((try dsimp only);have:=G.out;have:=H.out;have:=u.out;omega))
     have Hf:=aa hf;clear hf;have Hl:=aa (n.load (P:=CO) Tryz.underlying43 rfl (by rw[d.out.2.2.2.2.2.2.2.2.2];kernel_rfl))
     go_wp2_with ((with_reducible refine ao ?_ Hl.out ?_);rfl)
     refine(K _ r t C).mono ?_;rintro e wz ⟨vz,rfl,aS,aH⟩;obtain⟨pz,cz,bk,_,_⟩:=aS.form;subst bk;have ar:=aa (r.trans aH);obtain⟨M,hM⟩:=exq ((bE ⟨1,id,c,pl,sh,0,0,a,0⟩).length);rw[<-hM];have HM:=aa hM;clear hM aS aH Hl;by_cases T:8000 < M
     ·have bi:(8000:Int) < (M:Int):=by omega
      have HV:=aa (qZ (l:=⟨1,id,c,pl,sh,0,0,a,0⟩) rfl t C Hf (by rw[<-HM.out];exact T));clear T
      go_wp2_with fail
      go_ret;exact⟨by rw[HV.out];rfl,ar⟩
     ·have bi:¬((8000:Int) < (M:Int)):=by omega
      have HV:=aa (rb (l:=⟨1,id,c,pl,sh,0,0,a,0⟩) rfl t C Hf (by rw[<-HM.out];exact T));clear T
      go_wp2_with fail
      go_ret;exact⟨by rw[HV.out];rfl,ar⟩
end Go.Proofs.Bl
