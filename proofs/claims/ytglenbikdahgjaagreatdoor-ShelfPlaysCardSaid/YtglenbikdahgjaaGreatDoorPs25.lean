/- Walk of the law ShelfPlays. -/
import Derived.Deep.CutRange
import Derived.ChangeMaps5
import Derived.Test.YtglenbikdahgjaaGreatDoorPs24
set_option maxRecDepth 100000
set_option maxHeartbeats 16000000
open And renaming intro->Dj
open Go renaming Calls->CZ,Value->CQ,World->CP,run_loadAt_mid->DS
open Go.Region renaming wanted->C8
open Go.RowKit.Below renaming refl->CT
open Go.World renaming cell?_of_block->Dp
open List renaming getElem?_cons_succ->DU,getElem?_cons_zero->E8,mem_map->DM
open Nat renaming le_refl->CU,zero_le->C9
open Option renaming bind_some->Ed
open Option.some renaming inj->Ei
namespace Go.Proofs.Bl
open Go Go.RowKit Go.Proofs
open Go.Proofs.Tryz renaming prog->CO,underlying187->FZ,underlying189->FW,underlying26->C5,underlying27->Ef,underlying43->Db,underlying5->Ex,underlying9->EY
variable {B0 b d:Nat}
theorem Pl.ext {H:Nat->Prop} {s t:bL} {w w':CP} (h:Pl B0 H b d s t w) (a:au w w'):Pl B0 H b d s t w':=by
 obtain⟨N,Q,F,h⟩:=h;exact⟨N,Q,F,h.ext a⟩
theorem Pl.less {H H2:Nat->Prop} {s t:bL} {w:CP} (h:Pl B0 H b d s t w) (a:∀i,H2 i->H i):Pl B0 H2 b d s t w:=by
 obtain⟨N,Q,F,h⟩:=h;exact⟨N,Q,F,h.less a⟩
theorem Pl.kh {H H2:Nat->Prop} {s t:bL} {w w':CP} (h:Pl B0 H b d s t w) (k:Kq H2 w w') (a:∀i,H2 i->H i):Pl B0 H b d s t w':=by
 obtain⟨N,Q,F,h⟩:=h;exact⟨N,Q,F,h.kh k a⟩
theorem Pl.dl {H:Nat->Prop} {s t:bL} {w:CP} (h:Pl B0 H b d s t w):B0<=d/\d < w.heap.size:=by
 obtain⟨N,Q,F,h⟩:=h;exact h.dl
theorem Pl.so {H:Nat->Prop} {s t:bL} {w:CP} (h:Pl B0 H b d s t w):cH s:=by
 obtain⟨N,Q,F,h⟩:=h;exact h.so
theorem Pl.act {s t:bL} {w w':CP} (h:Pl B0 (fun _=>False) b d s t w) (a:au w w') (c:w.heap.size < w'.heap.size):Pl B0 (fun i=>i=w.heap.size) b d s t w':=by
 obtain⟨N,Q,F,h⟩:=h;exact⟨_,_,_,(h.hole a).less fun i q=>.inr (by rw[q];exact⟨CU _,c⟩)⟩
theorem Pl.AT {H:Nat->Prop} {s t:bL} {w:CP} (h:Pl B0 H b d s t w):∃p c,w.cell? ⟨d,0,none⟩=some (.slice p (dA t).length c):=by
 obtain⟨N,Q,F,h⟩:=h;obtain⟨f,a,D,g⟩:=h.dv;obtain⟨p,c,e,_,_⟩:=g.ro.BD.form;refine⟨p,c,?_⟩;rw[ku,<-g.len,<-e];exact g.bx.cell (i:=0) rfl
theorem iE.parts {w:CP} {cs:List CQ} {l:BC} {vp vs vb:CQ} {L:List Sv} (a:iE w cs l vp vs vb L):(∀b∈l.blocks,bI b)/\(∀s∈l.shown,bI s.2.1)/\∀s∈l.shown,dd s.2.2:=⟨a.BJ,fun s c=>by
 rw[<-a.sl]at c;obtain⟨z,d,rfl⟩:=DM.1 c;exact(a.sh.ok z d).bs,fun s c=>by
 rw[<-a.sl]at c;obtain⟨z,d,rfl⟩:=DM.1 c
 exact(a.sh.ok z d).dg⟩
theorem vU {s:bL} {l:BC} (a:aR l=0) (b:∀z∈l.shown,dd z.2.2):kR s (bE l)=if (bC s l).2=true then(if aR (bC s l).1=0 then(bE (bC s l).1,true)else([],false))else([],false):=by
 unfold kR;rw[sf a b,if_pos rfl]
theorem jt {w:CP} {a:Nat} {k:Int × Int × Int} {l:BC} {vp vs vb c:CQ} {y:List Int} (h:aw w a (cW (k,(l,vp,vs,vb),c,y))):(Instr.loadAt 26 (.pointer (some ⟨a,3,none⟩))).run CO w=.ok (.agg (cL l vp vs vb).toArray) w:=by
 have d:w.rangeAt a 3 (cL l vp vs vb):=fun j v b=>by
  have:=h.cell (i:=3+j) (v:=v) (by
   show((.int .i64 k.1 :: .int .i64 k.2.1 :: .int .i64 k.2.2 :: (cL l vp vs vb++[c]))[3+j]?)=some v;rw[show 3+j=j+1+1+1 by omega,DU,DU,DU,List.getElem?_append_left (by have:=(List.getElem?_eq_some_iff.1 b).1;exact this)]
   exact b)
  exact this
 exact DS (P:=CO) _ a 3 26 _ _ d C5 rfl (by kernel_rfl)
theorem pC (v0:CQ) (X:List Sa) (w:CP) (S:List Nat) (a:Nat->Addr) (hR:xm w v0 X) (hg:dT w) (he:ix S a w) (s1:1∈S) (s2:2∈S) (s3:3∈S) (s4:4∈S) (s7:7∈S) (s8:8∈S):
  CZ CO 5 #[v0] w fun e w'=>e=.returned (.bool true)/\au w w':=by
 obtain⟨p,c,f6,f7,f5⟩:=hR.rd.form;subst f6;unfold maxLen at f5;have HR:=aa hR;have Hg:=aa hg;have He:=aa he;have I:=aa (Dj s1 (Dj s2 (Dj s3 (Dj s4 (Dj s7 s8)))));obtain⟨n,c7⟩:=exq X.length;have Hn:=aa c7;rw[<-c7]at f7 HR⊢;clear hR hg he s1 s2 s3 s4 s7 s8 c7;go_enter Tryz.func5,Tryz.ntmps5
 go_wp2_with fail
 refine(xa w S a He I.1 I.2.2.1 I.2.2.2.1 I.2.2.2.2.1 I.2.2.2.2.2).mono ?_;rintro e W ⟨rfl,ew⟩;have b3:=aa ew;clear ew
 go_wp2_with fail
 refine(rf (.slice p n c) X W (HR.ext b3)).mono ?_;rintro e f ⟨fV,ex⟩;have bg:=aa (b3.trans ex);clear ex b3;rcases fV with rfl | ⟨rfl,hlen,eR⟩
 ·go_wp2_with fail
  go_ret;exact⟨rfl,bg⟩
 have fp:=aa eR;have fq:Hid (n<=40):=aa (by rw[Hn.out];exact hlen);clear hlen eR
 go_wp2_with fail
 refine(oQ f).mono ?_;rintro e v1 ⟨b,m,sb,rfl,fM,fN,fP,eG,eH,eI,-,hB,hM,cY,eC⟩;have bl:(v1.alloc (.cells #[.slice none 0 0,.slice none 0 0] 38)).heap.size=v1.heap.size+1:=World.size_alloc _ _;obtain⟨V2,bb⟩:=exq (v1.alloc (.cells #[.slice none 0 0,.slice none 0 0] 38));have ch:Hid (au v1 V2):=aa (by rw[bb];exact ae _ _);have aP:Hid (aw V2 v1.heap.size [.slice none 0 0,.slice none 0 0]):=aa (by rw[bb];exact aw.box (cs:=[.slice none 0 0,.slice none 0 0]) v1 38 (fun q=>by cases q));obtain⟨C,c0⟩:=exq v1.heap.size;rw[<-c0]at aP bl;rw[<-bb]at bl;have d8:Hid (gx (fun i=>i=m\/i=sb\/i=C) (fun i=>i=m\/i=sb) V2 b xC):=aa ((gx.Ck hB hM cY eG eH eI).ext ch)
 have ag:Hid (f.heap.size<=b/\f.heap.size<=m/\f.heap.size<=sb/\b < C/\m < C/\sb < C/\C < V2.heap.size/\w.heap.size<=f.heap.size/\V2.heap.size=C+1):=aa (by
  have:=bl;have:=bg.size;have:=hB.lt;have:=hM.lt;have:=cY.lt;have:=aP.lt
  omega)
 have dN:Hid (au w V2):=aa ((bg.trans eC).trans ch);obtain⟨B0,fK⟩:=exq f.heap.size;have aO:Hid (w.heap.size<=B0):=aa (by have:=ag.out;omega)
 have d3:Hid (Pl B0 (fun _=>False) b C xC xC V2):=aa ⟨fun i=>i=m\/i=sb\/i=C,fun i=>i=m\/i=sb,fun i=>i < B0,d8,ek.Ck aP (fun q=>by have:=ag.out;omega),⟨.slice none 0 0,0,[],aP.cell (i:=0) rfl,Pk.nil _ _ _,rfl⟩,cH.zero,cH.zero,fun i q=>q.imp id .inl,fun i q=>by have:=ag.out;omega,fun i q=>by have:=ag.out;omega,fun i q r=>by have:=ag.out;omega,fun i q=>q,fun i q=>q.elim,.inr (.inr rfl),fun q=>by have:=ag.out;omega,by have:=ag.out;omega,by have:=ag.out;omega,fun v i h1 h2=>by
  obtain rfl:=Ei ((aP.cell (i:=0) (v:=.slice none 0 0) rfl).symm.trans h1)
  cases h2⟩
 clear fM fN fP eG eH eI hB hM cY eC ch aP bl d8 ag fK
 go_wp2_with fail
 rw[<-bb,<-c0];clear bb c0;go_loopw [36] (fun x wr=>∃(i:Nat) (s:bL),i<=n/\x=.int .i64 i/\Hid (Pl B0 (fun _=>False) b C s s wr)/\Hid (mn s/\s.ids.length<=i)/\Hid (au w wr)) (fun x _=>n - (intOf x).toNat);case atStart=>exact⟨0,xC,C9 _,rfl,d3,aa ⟨fun p hp=>(by cases hp),CU _⟩,dN⟩
 case round=>
  obtain⟨i,s,G,rfl,aB,Hs,HE⟩:=hrel;clear d3 dN bg;by_cases fU:i < n;case pos=>
   have bA:i < X.length:=by rw[<-Hn.out];exact fU
   have cX:=HR.out;obtain⟨g,o,gp,fX,fR,fQ,fS,eM⟩:=cX.pos (by omega);injection fX with fW dc eX;subst fW eX;have e1:=eM i bA;have bF:wr.rangeAt g (o+i*13) (cW (X.getD i mJ)):=fun j v hj=>by rw[Dp (w:=w) (HE.out.block g fS)];exact e1 j v hj
   have eV:=cX.ok _ (aJ mJ bA);have c6:=fp _ (aJ mJ bA);obtain⟨k,D,pl,l,vp,vs,vb,vy,y,e7⟩:∃(k D pl:Int) (l:BC) (vp vs vb vy:CQ) (y:List Int),X.getD i mJ=((k,D,pl),(l,vp,vs,vb),vy,y):=⟨(X.getD i mJ).1.1,(X.getD i mJ).1.2.1,(X.getD i mJ).1.2.2,(X.getD i mJ).2.1.1,(X.getD i mJ).2.1.2.1,(X.getD i mJ).2.1.2.2.1,(X.getD i mJ).2.1.2.2.2,(X.getD i mJ).2.2.1,(X.getD i mJ).2.2.2,rfl⟩;rw[e7]at bF eV c6;have dS:Hid (nh l):=aa c6;obtain⟨⟨L,hL⟩,hy,c1⟩:=eV;have a1:Hid (iE w (cL l vp vs vb) l vp vs vb L):=aa hL;obtain⟨py,Z,df,_,_⟩:=hy.form;have df:vy=.slice py y.length Z:=df;subst df;have HY:Hid (∀f,au w f->Bu f .u8 (.slice py y.length Z) y):=aa fun f h=>hy.ext h
   have ed:Hid (bI y):=aa c1;obtain⟨ny,c8⟩:=exq y.length;rw[<-c8]at HY bF;have eW:∀c∈cW ((k,D,pl),(l,vp,vs,vb),.slice py ny Z,y),c.oneCell'=true:=vS (w:=w) ⟨⟨L,hL⟩,by rw[c8];exact hy,c1⟩;have en:=aa (DS (P:=CO) wr g (o+i*13) 73 _ _ bF Tryz.underlying73 rfl (by rw[fC];kernel_rfl));obtain⟨bW,cM⟩:=aw.fresh (cs:=cW ((k,D,pl),(l,vp,vs,vb),.slice py ny Z,y)) wr 73 zW (by rw[fC];rfl) (xG _);have eq:=aa (aH (P:=CO) (cs:=cW ((k,D,pl),(l,vp,vs,vb),.slice py ny Z,y)) wr 73 zW (by rw[fC];rfl) eW (ty:=73) (by rw[fC];kernel_rfl));have aA:=aa (aB.act cM bW.lt);have er:Hid (C < wr.heap.size/\B0<=C/\w.heap.size<=B0):=aa ⟨aB.dl.2,aB.dl.1,aO⟩;have Y:=aa bW;have aj:Hid (au w _):=aa (HE.trans cM);have gr:(0:Int)<=(i:Int):=by omega
   have gs:(i:Int) < (n:Int):=by omega
   clear eM bF e1 dc fR fQ bA cX e7 c6 hL hy c1 c8 eW aB HE cM
   go_wp2_with first | refine ao rfl en ?_ | (with_reducible refine aC (ty:=73) ?_)
   refine ax ?_;refine ak rfl rfl eq ?_;clear eq en bW;obtain⟨W6,cZ⟩:=exq ((wr.alloc (.cells zW 73)).setCells wr.heap.size 0 (cW ((k,D,pl),(l,vp,vs,vb),.slice py ny Z,y)));obtain⟨E,eF⟩:=exq wr.heap.size;rw[<-eF]at cZ aA Y er aj⊢;rw[<-cZ]at aA Y aj⊢;clear cZ eF;have q0:=Y.cell (i:=0) (v:=.int .i64 k) rfl
   go_upto_if 42 with (fail)
   clear q0
   go_cut []from 43 to 126 (fun wx=>∃U:bL,Hid (Pl B0 (fun i=>i=E) b C U U wx)/\Hid (mn U/\U.ids.length<=i+1)/\Hid (au w wx)/\Hid (aw wx E (cW ((k,D,pl),(l,vp,vs,vb),.slice py ny Z,y))))
   case first=>
    by_cases hk:k=0;case neg=>
     have gv:(k != 0)=true:=bne_iff_ne.2 hk;obtain⟨BB,cI⟩:=exq (jq s D pl y);have cg:Hid (∀f t,au w f->Pl B0 (fun i=>i=E) b C s t f->CZ CO 24 #[.pointer (some ⟨b,0,none⟩),.int .i64 D,.int .i64 pl,.slice py ny Z] f fun e w'=>e=.returned (.bool BB)/\Pl B0 (fun i=>i=E) b C (gZ s D pl y) t w'/\Kh B0 (fun i=>i=E) f w'):=aa fun f t h hP=>by rw[cI];exact tv hP D pl _ y (HY f h) ed
     have cf:Hid (∀f t,au w f->Pl B0 (fun i=>i=E) b C t s f->CZ CO 25 #[.pointer (some ⟨C,0,none⟩),.int .i64 D,.int .i64 pl,.slice py ny Z] f fun e w'=>e=.returned (.bool BB)/\Pl B0 (fun i=>i=E) b C t (gZ s D pl y) w'/\Kh B0 (fun i=>i=E) f w'):=aa fun f t h hP=>by rw[cI];exact tz hP D pl _ y (HY f h) ed
     have aE:Hid (mn (gZ s D pl y)/\(gZ s D pl y).ids.length<=i+1):=aa ⟨vO Hs.1 D pl y,by rw[xk];have:=Hs.2;omega⟩;obtain⟨s5,e2⟩:=exq (gZ s D pl y);rw[<-e2]at cg cf aE;clear cI e2
     go_wp2_with fail
     apply az (Kq (fun i=>B0<=i/\¬i=E)) (lU B0 (fun i=>i=E) b C s s5 7 15) 16 [43,44,45,46,47,48,49,50,51,52,53,54,55,56,57,58] [ar _,ar _,ar _,ar _,ar _,ar _,ar _,ar _,ar _,ar _,ar _,ar _,ar _,ar _,ar _,ar _] (fun w=>Kq.refl w) (fun a b c h k=>Kq.trans h k) (by kernel_rfl) (by kernel_rfl) (by kernel_rfl) (by kernel_rfl);case hsteps=>
      refine⟨?_,?_,?_,?_,?_,?_,?_,?_,?_,?_,?_,?_,?_,?_,?_,?_,trivial⟩;all_goals
       intro d ev W A aQ ei em bD K F;replace ei:=aa ei;replace aQ:=aa aQ;replace em:=aa em;replace bD:=aa bD;have e3:=K 3 (by decide);have e4:=K 4 (by decide);have fH:=K 6 (by decide);clear K;simp only[sB]at e3 e4 fH;simp only[sG]at F;have e9:au w W:=Kh.ext (H:=fun i=>i=E) A aj aO;have bz:=Kq.box A (fun q=>q.2 rfl) Y;have q1:=bz.cell (i:=1) (v:=.int .i64 D) rfl;have q2:=bz.cell (i:=2) (v:=.int .i64 pl) rfl;have gI:=bz.cell (i:=12) (v:=.slice py ny Z) rfl;clear bz;rw[if_pos (rfl:C8 _ _=true)];go_simp;first | exact⟨Kq.refl _,rfl,aQ.same rfl⟩ | (go_at_call 24;(with_reducible refine(cg.out _ _ e9 (aQ.out.CH bD.out)).mono ?_);rintro e Q ⟨rfl,h8,V⟩;exact⟨_,rfl,V,rfl,lU.one rfl h8⟩) | (go_at_call 25;(with_reducible refine(cf.out _ _ e9 (aQ.out.CI bD.out)).mono ?_);rintro e Q ⟨rfl,h8,V⟩;exact⟨_,rfl,V,rfl,lU.two rfl h8⟩) | exact⟨CT _ _,rfl,HJ.same (by decide) aQ⟩
     case hmono=>exact mR
     case hR0=>exact Kq.drew _
     case hend=>
      intro u W A hJ hend;simp only[sE]at hend;simp only[sF,hend];have bk:Hid (Pl B0 (fun i=>i=E) b C s5 s5 W):=aa (by unfold lU at hJ;simpa using hJ);have bh:Hid (au w W):=aa (Kh.ext (H:=fun i=>i=E) A aj aO);have be:=aa (Kq.box A (fun q=>q.2 rfl) Y);have fa:(BB != BB)=false:=by simp
      clear A hend hJ cg cf aA aj Y
      go_wp2_with fail
      go_meet
      exact⟨s5,bk,aE,bh,be⟩
     case hJ0=>exact lU.start (aA.ext (CT _ _).drew)
    case pos=>
     subst hk
     go_wp2_with fail
     refine(xi aA).mono ?_;rintro e w8 ⟨c9,rfl,cT,cJ,bt⟩;obtain⟨R,bw⟩:=exq W6.heap.size;obtain⟨J,bx⟩:=exq w8.heap.size;rw[<-bw,<-bx]at cT cJ;have bj:Hid (Pl B0 (fun i=>i=E\/(R<=i/\i < J)) b C s s w8):=aa cT;have dE:=aa cJ;have HZ:Hid (R<=J/\E < R/\C < E/\B0<=C/\w.heap.size<=B0):=aa ⟨by rw[bw,bx];exact bt.size,by rw[bw];exact Y.lt,er⟩;have a0:=aa (aj.trans bt);have bY:=aa (Y.ext bt);have cp:=aa bx;clear cT cJ bt aA aj Y bw bx
     go_wp2_with refine ao rfl (jt bY) ?_
     refine(xg aO a0 bj l vp vs vb L a1 S a (Hg.ext a0).s (He.ext a0) I.1 I.2.2.1 I.2.2.2.1 I.2.2.2.2.1 I.2.2.2.2.2).mono ?_;rintro e Q ⟨⟨xp,xs,xb,XL,rfl,bu⟩,eB,ba⟩;obtain⟨x,hx⟩:=exq ((bC s l).1);obtain⟨iz,c4⟩:=exq ((bC s l).2);rw[<-hx]at bu⊢;rw[<-c4];rw[<-cp.out]at bu;have Hx:=aa (Dj hx c4);have dU:Hid (nh x):=aa (by rw[hx];exact rC bj.so);have fm:Hid (cH s):=aa bj.so;have bh:Hid (au w Q):=aa (Kh.ext ba a0 aO);have be:=aa (Kq.box ba (fun q=>q.2 (.inl rfl)) bY);have dF:Hid (qE (fun i=>R<=i/\i < J) c9 s Q):=aa (dE.kh (B0:=B0) (Kq.mono ba fun i _ q=>⟨q.1,fun r=>q.2 (.inr r)⟩));have bk:=aa eB;have b9:=aa bu;have eh:Hid (J<=Q.heap.size):=aa (by rw[cp.out];exact Kq.size ba);clear hx c4 bu eB ba bj dE a0 bY cp;obtain⟨ab,M⟩:=aw.fresh (cs:=cL x xp xs xb) Q 26 zL rfl (bR _ _ _ _);have a5:=aa (aH (P:=CO) (cs:=cL x xp xs xb) Q 26 zL rfl b9.BH.one (ty:=26) (by kernel_rfl))
     go_wp2_with (with_reducible refine aC (ty:=26) ?_)
     refine ax ?_;refine ak rfl rfl a5 ?_;obtain⟨bp,eD⟩:=exq ((Q.alloc (.cells zL 26)).setCells Q.heap.size 0 (cL x xp xs xb));obtain⟨bO,cE⟩:=exq Q.heap.size;rw[<-eD]at ab M⊢;rw[<-cE]at ab⊢;have dk:=aa cE;clear eD cE a5;have b4:=aa (bh.trans M);have ds:=aa ab;have bS:=aa (be.ext M);have dy:=aa (dF.ext M);have dY:=aa (bk.ext M);have dO:Hid (cn (fun k=>J<=k) bp x xp xs xb XL):=aa (b9.kept fun i G T=>⟨G,M.block i T⟩);have co:Hid (J<=bO/\bO < bp.heap.size):=aa ⟨by rw[dk.out];exact eh,ab.lt⟩;have dQ:Hid (cn (fun i=>i < w.heap.size) bp l vp vs vb L):=aa ((cn.Ca a1).kept fun i G _=>⟨G,b4.block i G⟩);clear ab M bh be dF bk b9 eh dk
     go_wp2_with refine ao rfl (jt bS) ?_
     refine(xn (fun i=>i < w.heap.size) l vp vs vb L bp dQ (by have:=dS.sh;omega) (fun z hz=>by have:=(dS.st z hz).2;omega)).mono ?_;rintro e gg ⟨gf,L5,rfl,ez,aL⟩;have dP:=aa ez;have dI:=aa aL;have b5:=aa (b4.trans aL);have dt:=aa (ds.ext aL);have dn:=aa (bS.ext aL);have dz:=aa (dy.ext aL);have dR:Hid (cn (fun k=>J<=k) gg x xp xs xb XL):=aa (dO.kept fun i G T=>⟨G,aL.block i T⟩);clear ez aL b4 ds bS dy dO dQ
     go_wp2_with fail
     refine(xh (B:=w.heap.size) dY dI l vp gf vb L5 aO dP a1.BJ (by have:=Hs.2;have:=fq.out;omega) (Hg.ext b5)).mono ?_;rintro e ai ⟨⟨yp,ys,yb,YL,rfl,cN⟩,eA,aT⟩;rw[<-Hx.out.1]at cN⊢;rw[<-Hx.out.2];have dJ:Hid (au w ai):=aa (b5.trans' (N:=w.heap.size) (aT.mono fun i _ q=>by have:=HZ.out;have q:i=C:=q;omega) (CU _));have dp:=aa (aT.box (fun q=>by have:=HZ.out;have q:E=C:=q;omega) dn);have bZ:=aa (aT.box (fun q=>by have:=HZ.out;have:=co.out;have q:bO=C:=q;omega) dt);have dB:Hid (qE (fun i=>R<=i/\i < J) c9 s ai):=aa (dz.kh (B0:=B0) (aT.mono fun i _ q=>⟨by have:=HZ.out;have q:i=C:=q;omega,fun r=>by have:=HZ.out;have q:i=C:=q;omega⟩));have d9:Hid (iE ai (cL x xp xs xb) x xp xs xb XL):=aa (dR.kept (F':=fun k=>J<=k) fun i G T=>⟨G,aT.block i T fun q=>by have:=HZ.out;have q:i=C:=q;omega⟩).BH;have dZ:=aa eA;have cj:=aa cN;have ee:Hid (J<=ai.heap.size):=aa (by have:=co.out;have:=bZ.lt;omega);clear cN eA aT b5 dI dn dt dz dR dP dY;obtain⟨ab,M⟩:=aw.fresh (cs:=cL x yp ys yb) ai 43 zL rfl (bR _ _ _ _);have a5:=aa (aH (P:=CO) (cs:=cL x yp ys yb) ai 43 zL rfl cj.BH.one (ty:=43) (by kernel_rfl))
     go_wp2_with (with_reducible refine aC (ty:=43) ?_)
     refine ax ?_;refine ak rfl rfl a5 ?_;obtain⟨a6,eE⟩:=exq ((ai.alloc (.cells zL 43)).setCells ai.heap.size 0 (cL x yp ys yb));obtain⟨bP,cF⟩:=exq ai.heap.size;rw[<-eE]at ab M⊢;rw[<-cF]at ab⊢;have dm:=aa cF;clear eE cF a5;have dK:=aa (dJ.trans M);have b0:=aa ab;have du:=aa (bZ.ext M);have dq:=aa (dp.ext M);have dC:=aa (dB.ext M);have d0:=aa (dZ.ext M);have ea:=aa (d9.ext M);have ck:Hid (cn (fun k=>¬(k=E\/(R<=k/\k < J))) a6 x yp ys yb YL):=aa (cj.kept fun i G T=>⟨G,M.block i T⟩);have fn:Hid (J<=bP):=aa (by rw[dm.out];exact ee);clear ab M dJ bZ dp dB dZ d9 cj ee dm co;have cr:=aa (fun f (h:au a6 f)=>(du.ext h).load (P:=CO) C5 rfl (by kernel_rfl));have ct:=aa (fun f (h:au a6 f)=>(b0.ext h).load (P:=CO) Db rfl (by kernel_rfl));have dX:Hid (∀f,au a6 f->CZ CO 12 #[.agg (cL x xp xs xb).toArray] f fun e w'=>∃v',e=.returned v'/\eg w' v' x/\au f w'):=aa fun f h=>uj _ x f ⟨_,_,_,_,_,rfl,ea.ext h⟩ (by have:=dU.sh;omega) (fun z hz=>by have:=(dU.st z hz).2;omega)
     have d6:Hid (∀f va,au a6 f->eg f va x->CZ CO 15 #[va,.agg (cL x yp ys yb).toArray] f fun e w'=>e=.returned (.bool true)/\au f w'):=aa fun f va h h2=>by have h3:=oO va _ x x f h2 ⟨_,_,_,_,_,rfl,(ck.BH).ext h⟩;rw[show cQ x x=true by simp[cQ]]at h3;exact h3
     have cv:Hid ((iz != iz)=false):=aa (by simp)
     go_wp2_with fail
     apply aG 13 [77,78,79,80,81,82,83,84,85,86,87,88,89] [ar _,ar _,ar _,ar _,ar _,(fun v w'=>eg w' v x),ar _,ar _,ar _,ar _,ar _,ar _,ar _] (by kernel_rfl) (by kernel_rfl) (by kernel_rfl) (by kernel_rfl);case hsteps=>
      refine⟨?_,?_,?_,?_,?_,?_,?_,?_,?_,?_,?_,?_,?_,trivial⟩;all_goals
       intro ev W A K F;have fI:=K 7 (by decide);have e8:=K 8 (by decide);have fJ:=K 9 (by decide);have cz:=K 10 (by decide);have fB:=K 11 (by decide);clear K;simp only[sB]at fI e8 fJ cz fB;simp only[sD]at F;have hc:=(ay A).1;have fa:=cv.out;simp only[dw,C8,fO,DU,E8,Ed,F,beq_self_eq_true,if_true];first
       | ((with_reducible refine bX ?_ (cr.out _ A) ?_);exact e8;exact rfl) | ((with_reducible refine bX ?_ (ct.out _ A) ?_);exact cz;exact rfl) | ((with_reducible refine ifp_load ?_ ?_ (cr.out _ A) ?_);(first | exact rfl | (go_simp;done) | (simp;done) | decide);exact e8;exact rfl) | ((with_reducible refine ifp_load ?_ ?_ (ct.out _ A) ?_);(first | exact rfl | (go_simp;done) | (simp;done) | decide);exact cz;exact rfl)
       | (go_simp;first | (go_at_call 12;(with_reducible refine(dX.out _ A).mono ?_);rintro e Q ⟨v9,rfl,h8,V⟩;exact⟨_,rfl,V,h8⟩) | (go_at_call 15;(with_reducible refine(d6.out _ _ A (by first | ((repeat(first | exact F | exact F.2 | replace F:=F.1));done) | ((repeat(first | exact F | exact F.1 | replace F:=F.2));first | done | fail))).mono ?_);rintro e Q ⟨rfl,V⟩;exact⟨_,rfl,V,rfl⟩) | exact rfl | exact⟨CT _ _,rfl⟩ | exact⟨CT _ _,rfl⟩)
     case hmono=>exact⟨ah _,ah _,ah _,ah _,ah _,(fun _ _ _ h k=>eg.ext h k),ah _,ah _,ah _,ah _,ah _,ah _,ah _,trivial⟩
     case hend=>
      intro u W A hend;simp only[sE]at hend;simp only[sF,hend];obtain⟨fi,e6⟩:=exq W;rw[<-e6]at A⊢;have bf:=aa (dK.trans A);have bT:=aa (dq.ext A);have dD:=aa (dC.ext A);have d1:=aa (d0.ext A);have dv:=aa (b0.ext A);have eb:Hid (cn (fun k=>¬(k=E\/(R<=k/\k < J))) fi x yp ys yb YL):=aa (ck.kept fun i G T=>⟨G,A.block i T⟩);clear A hend e6 cr ct dX d6 dK dq dC d0 b0 du ea ck;have aE:Hid (mn (cm s l)/\(cm s l).ids.length<=i+1):=aa ⟨vP Hs.1 l,by have:=vk s l;have:=Hs.2;omega⟩
      go_wp2_with refine ao rfl (jt bT) ?_
      refine(lW _ l fi S a ⟨_,_,_,_,_,rfl,a1.ext bf⟩ (He.ext bf) I.1 I.2.2.1 I.2.2.2.1 I.2.2.2.2.1 I.2.2.2.2.2).mono ?_;rintro e gh ⟨gK,rfl,bv,aM⟩;obtain⟨gC,gl,f3,_,_⟩:=bv.form;subst f3;obtain⟨n15,eT⟩:=exq ((if aR l=0 then bE l else []).length);rw[<-eT]at bv⊢;have a4:=aa bv;have aZ:=aa (bf.trans aM);have bU:=aa (bT.ext aM);have b2:=aa (dD.ext aM);have cb:=aa (d1.ext aM);have b1:=aa (dv.ext aM);have cl:Hid (cn (fun k=>¬(k=E\/(R<=k/\k < J))) gh x yp ys yb YL):=aa (eb.kept fun i G T=>⟨G,aM.block i T⟩);clear bv aM eT bf bT dD d1 dv eb;obtain⟨cy,c2⟩:=exq (aR l);rw[<-c2]at a4⊢;have fo:=aa c2;clear c2;by_cases h0:cy=0;case neg=>
       rw[da a cy h0];clear h0 a4 b2 b1 cl
       go_wp2_with fail
       go_meet
       exact⟨cm s l,aa (cb.less fun i q=>.inl q),aE,aZ,bU⟩
      case pos=>
       rw[if_pos h0]at a4;subst h0;rw[ef]
       go_wp2_with fail
       have hc:=fo.symm;have bc:=a1.parts;refine(xj b2 fm _ (bE l) S a a4 (vI hc bc.1 bc.2.1 bc.2.2) (by have:=(nG hc).2.2.2.2;omega) (Hg.ext aZ).s (fun w' k=>He.ext (aZ.trans' (N:=w.heap.size) (k.mono fun i _ q=>by have:=HZ.out;have q:R<=i/\i < J:=q;omega) (CU _))) I.1 I.2.1 I.2.2.1 I.2.2.2.1 I.2.2.2.2.1 I.2.2.2.2.2).mono ?_;rw[vU hc bc.2.2,<-Hx.out.1,<-Hx.out.2];obtain⟨pr,dd⟩:=exq ((if iz=true then(if aR x=0 then(bE x,true)else([],false))else(([]:List Int),false)));rw[<-dd];have aF:=aa dd;clear hc bc dd;rintro e dh ⟨f9,n16,fw,rfl,eY,aU⟩;have aS:=aa eY;have dL:Hid (au w dh):=aa (aZ.trans' (N:=w.heap.size) (aU.mono fun i _ q=>by have:=HZ.out;have q:R<=i/\i < J:=q;omega) (CU _));have dr:=aa (aU.box (fun q=>by have:=HZ.out;have q:R<=E/\E < J:=q;omega) bU);have d2:=aa (cb.kh aU fun i q=>.inr q);have dx:=aa (aU.box (fun q=>by have:=fn.out;have q:R<=bP/\bP < J:=q;omega) b1);have ec:Hid (cn (fun k=>¬(k=E\/(R<=k/\k < J))) dh x yp ys yb YL):=aa (cl.kept fun i G T=>⟨G,aU.block i T fun q=>G (.inr q)⟩);clear eY aU aZ bU b2 cb b1 cl a4
       go_wp2_with refine ao rfl (dx.load (P:=CO) Db rfl (by kernel_rfl)) ?_
       refine(nI _ x dh ⟨_,_,_,_,_,rfl,ec.BH⟩).mono ?_;rintro e gi ⟨gL,rfl,cV,a9⟩;obtain⟨gD,gm,f4,_,_⟩:=cV.form;subst f4;have aD:=aa cV;have aS:Hid (pr.2=true->Bu gi .u8 (.slice f9 n16 fw) pr.1):=aa fun q=>(aS q).ext a9
       have b6:=aa (dL.trans a9);have bV:=aa (dr.ext a9);have cc:=aa ((d2.ext a9).less (H2:=fun i=>i=E) fun i q=>.inl q);obtain⟨n17,eU⟩:=exq ((if aR x=0 then bE x else []).length);rw[<-eU]at aD⊢;obtain⟨cx,eL⟩:=exq (aR x);rw[<-eL]at aD aF⊢;clear cV a9 dL dr d2 dx ec eL eU;cases iz with
       | false=>
        obtain rfl:pr=([],false):=aF.out;clear aF aS aD
        go_wp2_with fail
        go_meet
        exact⟨cm s l,cc,aE,b6,bV⟩
       | true=>
        by_cases h1:cx=0
        ·obtain rfl:pr=(bE x,true):=by rw[aF.out,if_pos rfl,if_pos h1]
         rw[if_pos h1]at aD;subst h1;have gk:=dG (P:=CO) (aS rfl) Ef Ex EY;have fx:=dG (P:=CO) aD Ef Ex EY;clear aF aS aD
         go_wp2_with fail
         go_meet
         exact⟨cm s l,cc,aE,b6,bV⟩
        ·obtain rfl:pr=([],false):=by rw[aF.out,if_pos rfl,if_neg h1]
         have gq:¬(cx:Int)=0:=by omega
         clear aF aS aD
         go_wp2_with fail
         go_meet
         exact⟨cm s l,cc,aE,b6,bV⟩
   case rest=>
    obtain⟨U,ca,ep,dH,bQ⟩:=hcut;clear aA Hs aj Y;have q1:=bQ.cell (i:=1) (v:=.int .i64 D) rfl
    go_wp2_with fail
    clear q1;refine(tC ca D).mono ?_;rintro e gM ⟨ga,n20,fy,rfl,eZ,br⟩;obtain⟨iy,c3⟩:=exq ((bn U D).isSome);rw[<-c3];have dM:=aa (dH.trans br);have cd:=aa (ca.ext br);have d4:=aa eZ;have q1:=(bQ.ext br).cell (i:=1) (v:=.int .i64 D) rfl;clear eZ br ca dH bQ
    go_wp2_with fail
    clear q1;refine(l6 cd D).mono ?_;rintro e bN ⟨gb,n21,fz,rfl,e0,bs⟩;rw[<-c3];have fk:=aa (dM.trans bs);have a2:=aa (cd.ext bs);have d5:=aa (Dj (d4.ext bs) e0);clear e0 bs cd dM d4 c3;have ej:Hid (∀z∈(bn U D).getD [],bI z):=aa fun z hz=>by
     cases hg:bn U D with
     | none=>rw[hg]at hz;cases hz
     | some st=>rw[hg]at hz;exact((a2.so.get hg).2.2 z hz).2
    have d7:Hid (∀f,au bN f->CZ CO 31 #[.slice ga n20 fy,.slice gb n21 fz] f fun e w'=>e=.returned (.bool true)/\au f w'):=aa fun f h=>by have h3:=fT _ _ _ _ f (d5.1.ext h) (d5.2.ext h) ej ej;rw[show decide ((bn U D).getD []=(bn U D).getD [])=true from decide_eq_true rfl]at h3;exact h3
    obtain⟨O,aN⟩:=exq ((dA U).length);have dV:Hid (∀f,au bN f->CZ CO 32 #[.pointer (some ⟨b,0,none⟩)] f fun e w'=>∃p c,e=.returned (.slice p O c)/\au f w'):=aa fun f h=>by refine(rE (a2.ext h) ep.1).mono ?_;rintro e w' ⟨p,c,rfl,_,hE⟩;exact⟨p,c,by rw[aN],hE⟩
    obtain⟨pd,fA,db⟩:=a2.AT;rw[<-aN]at db;have dW:Hid (∀f,au bN f->f.cell? ⟨C,0,none⟩=some (.slice pd O fA)):=aa fun f h=>by rw[Dp (w:=bN) (h.block C a2.out.dl.2)];exact db
    have cv:Hid ((iy != iy)=false):=aa (by simp);have ft:Hid (((O:Int) != (O:Int))=false):=aa (by simp);clear db aN
    go_wp2_with fail
    apply aG 19 [141,142,143,144,145,146,147,148,149,150,151,152,153,154,155,156,157,158,159] [ar _,ar _,ar _,ar _,ar _,ar _,ar _,ar _,ar _,ar _,ar _,(fun v _=>∃p c,v=.slice p O c),ar _,ar _,ar _,ar _,ar _,ar _,ar _] (by kernel_rfl) (by kernel_rfl) (by kernel_rfl) (by kernel_rfl);case hsteps=>
     refine⟨?_,?_,?_,?_,?_,?_,?_,?_,?_,?_,?_,?_,?_,?_,?_,?_,?_,?_,?_,trivial⟩;all_goals
      intro ev W A K F;have e3:=K 3 (by decide);have e4:=K 4 (by decide);have fD:=K 18 (by decide);have fE:=K 19 (by decide);have fF:=K 20 (by decide);have fG:=K 21 (by decide);clear K;simp only[sB]at e3 e4 fD fE fF fG;simp only[sD]at F;have hc:=(ay A).1;have fa:=cv.out;have gB:=ft.out;have gj:=dW _ A;simp only[dw,C8,fO,DU,E8,Ed,F,beq_self_eq_true,if_true];go_simp;first | (go_at_call 31;(with_reducible refine(d7.out _ A).mono ?_);rintro e Q ⟨rfl,V⟩;exact⟨_,rfl,V,rfl⟩) | (go_at_call 32;(with_reducible refine(dV.out _ A).mono ?_);rintro e Q ⟨p9,c9,rfl,V⟩;exact⟨_,rfl,V,_,_,rfl⟩) | exact rfl | exact⟨CT _ _,rfl⟩ | (have h7:∃p c,ev 152=.slice p O c:=(by first | ((repeat(first | exact F | exact F.2 | replace F:=F.1));done) | ((repeat(first | exact F | exact F.1 | replace F:=F.2));first | done | fail));obtain⟨p7,go,h7⟩:=h7;go_simp;exact⟨CT _ _,rfl⟩) | exact⟨CT _ _,rfl⟩
    case hmono=>exact⟨ah _,ah _,ah _,ah _,ah _,ah _,ah _,ah _,ah _,ah _,ah _,(fun _ _ _ h _=>h),ah _,ah _,ah _,ah _,ah _,ah _,ah _,trivial⟩
    case hend=>
     intro u W A hend;simp only[sE]at hend;simp only[sF,hend];have a3:=aa ((a2.ext A).less (H2:=fun _=>False) fun _ q=>q.elim);have b7:=aa (fk.trans A);clear A hend d7 dV dW
     go_wp2_with fail
     go_roundw;case rel=>exact⟨i+1,U,by omega,by go_num,a3,ep,b7⟩
     case measure=>simp[intOf];omega
  case neg=>
   obtain rfl:i=n:=by omega
   go_wp2_with fail
   refine(rE aB Hs.1).mono ?_;rintro e di ⟨pk,cy,rfl,de,cK⟩;obtain⟨O,aN⟩:=exq ((dA s).length);rw[<-aN]at de⊢;have cu:=aa aN;have fl:=aa de;have b7:=aa (HE.trans cK);have a3:=aa (aB.ext cK);clear aN de cK aB HE
   go_wp2_with fail
   go_loopw [166] (fun x wr=>∃j:Nat,j<=O/\x=.int .i64 j/\Hid (au di wr)) (fun x _=>O - (intOf x).toNat);case atStart=>exact⟨0,C9 _,rfl,aa (CT _ _)⟩
   case round=>
    obtain⟨j,hj,rfl,bi⟩:=hrel;by_cases eS:j < O;case neg=>
     obtain rfl:j=O:=by omega
     go_wp2_with fail
     go_ret;exact⟨rfl,b7.trans bi⟩
    case pos=>
     have c5:j < (dA s).length:=by rw[<-cu.out];exact eS
     obtain⟨es,op,fx,hq,_,_,eJ,_,eK⟩:=Bu.pos fl (by omega);injection hq with fZ f0 f1;subst fZ f1;have el:Hid (∀f,au di f->∀i,i < O->f.cell? ⟨es,op+i,none⟩=some (.int .i64 ((dA s).getD i 0))):=aa fun f h i G=>by rw[Dp (w:=di) (h.block es eJ)];exact eK i (by rw[<-cu.out];exact G)
     obtain⟨kj,bB⟩:=exq ((dA s).getD j 0);have e5:(bn s kj).isSome=true:=tm (by rw[bB];exact aJ 0 c5);have qc:=el _ bi j eS;rw[<-bB]at qc;have fs:=aa e5;have gt:(0:Int)<=(j:Int):=by omega
     have gu:(j:Int) < (O:Int):=by omega
     have fr:Hid (∀i,i+1=j->(dA s).getD i 0 < kj):=aa fun i G=>by subst G;rw[bB];exact vF a3.so c5
     clear c5 eK bB e5 f0 eJ
     go_wp2_with fail
     clear qc;refine(l6 (a3.ext bi) kj).mono ?_;rintro e gN ⟨gE,n28,gn,rfl,f2,ey⟩;rw[fs.out];have b8:=aa (bi.trans ey);clear f2 ey;cases j with
     | zero=>
      go_wp2_with fail
      go_roundw;case rel=>exact⟨1,by omega,by go_num,b8⟩
      case measure=>simp[intOf];omega
     | succ j'=>
      have qp:=el _ b8 j' (by omega);have eP:=fr j' rfl;obtain⟨kp,eQ⟩:=exq ((dA s).getD j' 0);rw[<-eQ]at qp eP;have gw:¬kj<=kp:=by omega
      have gz:(0:Int) < ((j'+1:Nat):Int):=by omega
      have dc:(((j'+1:Nat):Int) - 1)=(j':Int):=by omega
      have eX:(j':Int) < (O:Int):=by omega
      have gy:O<=4:=by rw[cu.out,ku];exact a3.so.ln
      have gA:wrap64 (j':Int)=(j':Int):=by clear dc eP;unfold wrap64;omega
      clear eQ
      go_wp2_with fail
      go_roundw;case rel=>exact⟨j'+1+1,by omega,by go_num,b8⟩
      case measure=>simp[intOf];omega
section
open Go.ChangeAt Go.ChangeShapes Go.WideShapes
theorem vV {L:List (String × DataW Unit)} {w:CP} (h:laidMetH CO L w)
  (h1:(L.filter fun x=>x.1== "bailee/sha.added")=[("bailee/sha.added",Lib.tabData .u32 kt)]) (h2:(L.filter fun x=>x.1== "bailee/sha.first")=[("bailee/sha.first",Lib.tabData .u32 iv)]):eZ w:=
 ⟨iN h h1 (by kernel_rfl) (t:=189) (by kernel_rfl) FW FZ (by kernel_rfl) (by kernel_rfl),
  iN h h2 (by kernel_rfl) (t:=205) (by kernel_rfl) Tryz.underlying205 FZ (by kernel_rfl) (by kernel_rfl)⟩
theorem xo {L:List (String × DataW Unit)} {w:CP} (h:laidMetH CO L w)
  (h1:(L.filter fun x=>x.1== "bailee/sha.added")=[("bailee/sha.added",Lib.tabData .u32 kt)]) (h2:(L.filter fun x=>x.1== "bailee/sha.first")=[("bailee/sha.first",Lib.tabData .u32 iv)])
  (a:(L.filter fun x=>x.1== "bailee/baileeref07.added")=[("bailee/baileeref07.added",Lib.tabData .u32 kt)]) (b:(L.filter fun x=>x.1== "bailee/baileeref07.begins")=[("bailee/baileeref07.begins",Lib.tabData .u32 iv)]):dT w:=
 ⟨vV h h1 h2,
  iN h a (by kernel_rfl) (t:=189) (by kernel_rfl) FW FZ (by kernel_rfl) (by kernel_rfl),
  iN h b (by kernel_rfl) (t:=188) (by kernel_rfl) Tryz.underlying188 FZ (by kernel_rfl) (by kernel_rfl)⟩
end
section
open Go.ChangeAt Go.ChangeShapes Go.WideShapes
def tx:DataW Unit->List UInt8
 | .iface _ (.ptr (.agg [.lit (.string t)]))=>t
 | _=>[]
end
end Go.Proofs.Bl
