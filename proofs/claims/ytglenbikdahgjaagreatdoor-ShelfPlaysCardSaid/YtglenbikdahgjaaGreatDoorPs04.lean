/- Texts that stood apart, in one: WSha6, WSha7, WSha8. -/
import Derived.Test.YtglenbikdahgjaaGreatDoorPs03
set_option maxRecDepth 100000
set_option maxHeartbeats 16000000
open Array renaming replicate_succ->FI,replicate_zero->FJ
open Go renaming Calls->CZ,Value->CQ,World->CP,maxLen->Dc,run_loadVar_mid->Ep
open Go.Builtin renaming zeroCells->FK
open Go.Fence renaming wide->E4
open Go.Oper renaming semAt_some->Gy
open Go.RowKit renaming Below->Et
open Go.RowKit.Below renaming refl->CT,setCell->E0,trans->DC
open Go.Value renaming int->Dx,slice->EG
open Go.World renaming block_lt_of_cell?->CW,rangeAt_setCells_same->Dr
open Int renaming ediv_one->FX
open List renaming append_toArray->FR,cons_append->Fy,finRange->E9,getD_eq_getElem?_getD->CR,getElem?_eq_getElem->CV,length_append->C7,length_cons->DB,length_nil->DY,mem_cons->DA,nil_append->Eh,not_mem_nil->Eg,push_toArray->Ga,range->DD,replicate->Dl,size_toArray->Fv,take_length->Fl,take_of_length_le->CX
open Nat renaming le_refl->CU,le_trans->Dk,zero_le->C9
namespace Go.Proofs.Bl
open Go Go.RowKit Go.Proofs
open Go.Proofs.Tryz renaming prog->CO,underlying54->DF
variable {g:Nat}
section
attribute [local go_sem] Gy
theorem pT (w:CP) (p:Option Addr) (n c:Nat):
  CZ CO 152 #[.slice p n c,.int .i64 64] w fun e w'=>e=.returned (.func (.func 167) #[] #[.pointer (some ⟨w.heap.size,0,none⟩),.pointer (some ⟨w.heap.size+1,0,none⟩)])/\w'=(w.alloc (.cells #[.slice p n c] 27)).alloc (.cells #[.int .i64 64] 3):=by
 go_enter Tryz.func152,Tryz.ntmps152
 go_wp2
 go_ret;exact⟨rfl,rfl⟩
theorem pU (n lr h g j c b off m cap:Nat) (hn:1<=n) (af:64*m<=cap) (am:64*m<=1099511627776) (t:h < c) (q:g < c) (w:h≠j) (s:g≠j) (J z:List (Fin m)->CP->Prop) (B0:Nat) (O:AbidesFrom B0 J)
  (U:∀pre x W,J pre W->pre.length < m->YieldAt E4 (n - 1) CO lr #[.slice (some ⟨b,off+64*x.val,none⟩) 64 64] W fun e d=>
   (e=.returned (.bool true)/\J (pre++[x]) d/\cP j c W d)\/(e=.returned (.bool false)/\z (pre++[x]) d))
  (W:CP) (H:W.cell? ⟨h,0,none⟩=some (.slice (some ⟨b,off,none⟩) (64*m) cap)) (E:W.cell? ⟨g,0,none⟩=some (.int .i64 64)) (h0:J [] W) (aa:c<=W.heap.size):
  CallsIn E4 n CO 167 #[.func (.yield lr) #[] #[],.pointer (some ⟨h,0,none⟩),.pointer (some ⟨g,0,none⟩)] W fun e d=>(∃v,e=.returned v)/\
   ((∃xs,xs=E9 m/\J xs d)\/(∃pre,(∃k,k<=m/\pre=dS m k)/\z pre d)):=by
 refine callsIn_of_wp Tryz.func167 rfl trivial ?_ rfl;simp only[Tryz.ntmps167,Fv,DB,DY,Nat.reduceAdd,Nat.reduceSub,FI,FJ,Ga,FR,Eh,Fy]
 gi_wp2
 gi_loopw [4] (fun i wr=>∃k:Nat,k<=m/\i=.int .i64 (64*k:Nat)/\J (dS m k) wr/\cP j c W wr)
  (fun i _=>64*m - (intOf i).toNat)
 case atStart=>exact⟨0,C9 _,rfl,h0,cP.refl _ _ _⟩
 case round=>
  obtain⟨k,Y,rfl,C,f⟩:=hrel;have Z:c<=wr.heap.size:=Dk aa f.1;have B:h < wr.heap.size:=CW _ _ ((f.cell (i:=0) t w).trans H);have A:g < wr.heap.size:=CW _ _ ((f.cell (i:=0) q s).trans E);have I:=(f.cell (i:=0) t w).trans H;have F:=(f.cell (i:=0) q s).trans E;by_cases p:k < m
  ·gi_wp2
   have ae:(64:Int)<=((64*m - 64*k:Nat):Int):=by omega
   have hle:((64*k:Nat):Int)<=((64*m:Nat):Int):=by omega
   have al:((64*k:Nat):Int)<=(cap:Int):=by omega
   have ab:(64*(k:Int)).toNat=64*k:=by omega
   refine wpIn_wide.2 ?_;apply aG 6 [13,14,15,16,17,18] [ar (.int .i64 64),ar (.slice (some ⟨b,off,none⟩) (64*m) cap),ar (.int .i64 (64*k:Nat)),ar (.slice (some ⟨b,off+64*k,none⟩) (64*m - 64*k) (cap - 64*k)),ar (.int .i64 (64*m - 64*k:Nat)),ar (.int .i64 64)] (by kernel_rfl) (by kernel_rfl) (by kernel_rfl) (by rfl);case hsteps=>
    refine⟨?_,?_,?_,?_,?_,?_,trivial⟩;all_goals
     intro ev l a o V;have L:=o 1 (by decide);have M:=o 2 (by decide);have N:=o 4 (by decide);clear o;simp only[sB]at L M N;simp only[sD]at V;have D:=(ay a).1;have K:=(D _ 0 B).trans I;have G:=(D _ 0 A).trans F;simp only[dw,Region.wanted,if_true];go_simp;first
      | exact⟨CT _ _,rfl⟩
      | exact⟨CT _ _,by rw[if_neg (by omega)];rfl⟩
      | exact⟨CT _ _,by rw[if_neg (by omega),ab];rfl⟩
      | exact⟨CT _ _,congrArg (Dx .i64) (by omega)⟩
   case hend=>
    intro u l a hend;simp only[sE]at hend;simp only[sF,hend];have K:=((ay a).1 _ 0 B).trans I;have G:=((ay a).1 _ 0 A).trans F;have P:J (dS m k) l:=O _ wr l none C (j9 a) (fun r e=>by cases e);have S:cP j c wr l:=⟨a.size,fun i X _=>a.block i (Nat.lt_of_lt_of_le X Z)⟩
    go_wp2_with fail
    obtain⟨fn,tmps,assign,body,hy,T⟩:=U _ ⟨k,p⟩ l P (by rw[fP _ _ Y];exact p);dsimp only at hy;have ai:((64*k:Nat):Int)+64<=(cap:Int):=by omega
    have aj:(64*(k:Int)+64).toNat=64*k+64:=by omega
    gi_wp2
    refine T.mono ?_;rintro e W3 (⟨rfl,Q,y⟩ | ⟨rfl,R⟩)
    ·have ah:=(y.cell (i:=0) t w).trans K;have ag:=(y.cell (i:=0) q s).trans G;have ak:64*(k:Int)+64=((64*(k+1):Nat):Int):=by omega
     gi_wp2
     go_roundw;case rel=>exact⟨k+1,by omega,by simp,by rw[ee _ _ p];exact Q,(f.trans S).trans y⟩
     case measure=>simp[intOf];omega
    ·gi_wp2
     refine bodyPost_ret (results_none rfl _ _ _) rfl ?_;exact⟨⟨_,rfl⟩,.inr ⟨_,⟨k+1,by omega,(ee _ _ p).symm⟩,R⟩⟩
   case hmono=>exact mL
  ·obtain rfl:k=m:=by omega
   gi_wp2
   go_end0
   exact⟨⟨_,rfl⟩,.inl ⟨_,rfl,by rw[<-lx];exact C⟩⟩
theorem nn (n c a d b off m cap:Nat) (v:1<=n) (r:64*m<=cap) (u:64*m<=1099511627776) (w:CP) (g:c < w.heap.size) (f:a < w.heap.size) (j:c≠d) (i:a≠d)
  (t:w.cell? ⟨c,0,none⟩=some (.slice (some ⟨b,off,none⟩) (64*m) cap)) (s:w.cell? ⟨a,0,none⟩=some (.int .i64 64)):
  SeqStopsK E4 n CO 167 #[.pointer (some ⟨c,0,none⟩),.pointer (some ⟨a,0,none⟩)] (fun x:Fin m=>#[EG (some ⟨b,off+64*x.val,none⟩) 64 64]) (cP d w.heap.size) (fun xs=>xs=E9 m) (fun pre=>∃k,k<=m/\pre=dS m k) m w:=
 fun l J h W e o _ q h0=>
  pU n l c a d w.heap.size b off m cap v r u g f j i J h W.heap.size o q W ((e.cell (p:=⟨c,0,none⟩) g).trans t) ((e.cell (p:=⟨a,0,none⟩) f).trans s) h0 e.size
end
section
attribute [local go_sem] Gy
theorem xQ:(Tryz.prog.info? 54).map (·.size)=some 32:=by kernel_rfl
theorem wH (w:CP) (B0 y n:Nat) (z:St) (l:List Int) (hH:lD w B0 y z l n) (hg:eZ w) (bu:bI l) (hl:l.length < 64) (hn:n<=1099511627776):
  CZ CO 135 #[.pointer (some ⟨y,0,none⟩)] w fun e w'=>e=.returned (.agg (aj .u8 (nV z l n).bytes).toArray)/\au w w':=by
 obtain⟨hW,⟨v0,h8,a1,cG⟩,h9,c9⟩:=hH;obtain⟨p0,c0,cq,cD,cn⟩:=(aX.AS a1).form;subst cq;have bE:y < w.heap.size:=CW _ _ h9;have HW:=aa hW;clear hW;have Hg:=aa hg;clear hg;have b2:=aa bu;clear bu;refine(callsIn_wide (n:=9)).1 ?_;refine callsIn_of_wp_marks Tryz.func135 rfl trivial ?_ rfl;simp only[Tryz.ntmps135,Fv,DB,DY,Nat.reduceAdd,Nat.reduceSub,FI,FJ,Ga,FR,Eh,Fy];refine wpIn_wide.2 ?_
 go_wp2_with fail
 have bm:dz (w.alloc (.cells (Dl 32 (Dx .u8 0)).toArray 54)) w.heap.size .u8 32 (fun _=>0):=dk w 32 .u8 54 (Dl 32 (Dx .u8 0)).toArray rfl;have aT:au w (w.alloc (.cells (Dl 32 (Dx .u8 0)).toArray 54)):=(CT _ _).alloc (CU _) _;have hR0:Bu (w.alloc (.cells (Dl 32 (Dx .u8 0)).toArray 54)) .u8 (.slice p0 l.length c0) l:=(aX.AS a1).ext aT;have aG:(w.alloc (.cells (Dl 32 (Dx .u8 0)).toArray 54)).heap.size=w.heap.size+1:=by simp
 refine(eD _ l _ hR0 (by omega)).mono ?_;rintro e O ⟨v2,rfl,aC,aF⟩;rw[aG]at aC;have ap:Et w.heap.size w O:=aT.trans (aF.mono (by rw[aG];omega));have bn:=bm.below aF (by rw[aG];omega);have bP:w.heap.size+1<=O.heap.size:=by have:=aF.size;omega
 clear bm aT hR0 aG aF;obtain⟨p2,c2,cs,bF,co⟩:=(aX.AS aC).form;subst cs;have a8:=aa bn;clear bn;have I:au O (O.alloc (.cells #[.int .u8 128] 5)):=(CT _ _).alloc (CU _) _;have bf:=aa (aN aC I);have Q:=aa (aX.AS (cX O 5 #[.int .u8 128] O.heap.size 1 1 (CU _) (by decide) rfl))
 go_wp2_with ((with_reducible refine dV aQ bf.out Q.out (by simp) (by decide) (by unfold Dc;omega) (by omega) (by simp;omega) ?_ ?_ ?_);rfl;rfl;intro v3 w3 a2 cw aq cf;obtain⟨p3,c3,ct,cE,c7⟩:=(aX.AS a2).form;subst ct)
 have R:Et (w.heap.size+1) O w3:=(I.mono (by omega)).trans aq;have a9:=aa (a8.below R (by omega));have bj:w3.cell? ⟨y,9,none⟩=some (.int .i64 n):=((ay (ap.trans (R.mono (by omega)))).1 _ _ bE).trans h9;have be:=aa (HW.below (ap.trans (R.mono (by omega))) bE);have aq:=ap.trans (R.mono (by omega));have a3:w.heap.size+1<=w3.heap.size:=Dk bP R.size;clear R a8 I bf Q cw cf aC ap bP bF co HW h8 cD cn a1 cG h9;have bJ:w3.ownsRow (w.heap.size+1) 5 1 (.slice p3 (l.length+1+0) c3) (l.length+1+0) (aj .u8 (l++128 :: Dl 0 0)):=by rw[aP];exact a2
 clear a2;go_loopw [3] (fun e wr=>∃(j:Nat) (p:Option Addr) (c:Nat),e=.slice p (l.length+1+j) c/\j<=dC l.length/\wr.ownsRow (w.heap.size+1) 5 1 (.slice p (l.length+1+j) c) (l.length+1+j) (aj .u8 (l++128 :: Dl j 0))/\Et (w.heap.size+1) w3 wr) (fun e _=>200 - fZ e);case atStart=>exact⟨0,p3,c3,rfl,C9 _,bJ,CT _ _⟩
 case round=>
  obtain⟨j,p,c,rfl,T,V,L⟩:=hrel;obtain⟨pr,cr,ag,bH,bw⟩:=(aX.AS V).form;obtain⟨rfl,rfl⟩:p=pr/\c=cr:=by cases ag;exact⟨rfl,rfl⟩
  clear ag;by_cases a0:j=dC l.length
  ·have bM:((l.length:Int)+1+(j:Int)) % 64=56:=by rw[a0];unfold dC;omega
   go_wp2_with fail
   subst a0;have cb:wr.cell? ⟨y,9,none⟩=some (.int .i64 n):=((ay L).1 _ _ (by omega)).trans bj;have bW:=aa (a9.below L (by omega));have b1:=aa (be.below L (by omega));have cc:=aq.trans (L.mono (by omega));have aE:w.heap.size+1<=wr.heap.size:=Dk a3 L.size;have hP:(l++128 :: Dl (dC l.length) (0:Int)).length=l.length+1+dC l.length:=by simp;omega
   have dg:dC l.length<=64:=by unfold dC;omega
   have hM:(l.length+1+dC l.length+8) % 64=0:=nU _;have c1:l.length+1+dC l.length<=128:=by omega
   generalize l.length+1+dC l.length=M at*;generalize cj:l++128 :: Dl (dC l.length) (0:Int)=P0 at*;have cK:wr.ownsRow (w.heap.size+1) 5 1 (.slice p (M+0) c) (M+0) (aj .u8 (P0++(je n).take 0)):=by simpa using V
   clear aq L a9 be a3 bj bM V bH bw bJ T;go_loopw [3,4] (fun e b8 ws=>∃(j:Nat) (p:Option Addr) (c:Nat),b8=.int .i64 (56 - 8*(j:Int))/\j<=8/\e=.slice p (M+j) c/\ws.ownsRow (w.heap.size+1) 5 1 (.slice p (M+j) c) (M+j) (aj .u8 (P0++(je n).take j))/\Et (w.heap.size+1) wr ws) (fun e _ _=>200 - fZ e);case atStart=>exact⟨0,p,c,by simp,by omega,rfl,cK,CT _ _⟩
   case round=>
    obtain⟨j,q,d,rfl,T,rfl,U,H⟩:=hrel;obtain⟨pr,cr,ag,bH,bw⟩:=(aX.AS U).form;obtain⟨rfl,rfl⟩:q=pr/\d=cr:=by cases ag;exact⟨rfl,rfl⟩
    clear ag;by_cases cA:j=8
    ·subst cA;have dj:w.heap.size+1<=wr.heap.size:=Dk aE H.size;have bX:=aa (bW.below H (by omega));have J:dz wr y .u32 8 (fun i=>z.l.getD i 0):=b1.below H (by omega);have X:wr.cell? ⟨y,0,none⟩=some (.int .u32 z.a):=J.1 0 (by decide);have Y:wr.cell? ⟨y,1,none⟩=some (.int .u32 z.b):=J.1 1 (by decide);have Z:wr.cell? ⟨y,2,none⟩=some (.int .u32 z.c):=J.1 2 (by decide);have x3:wr.cell? ⟨y,3,none⟩=some (.int .u32 z.d):=J.1 3 (by decide);have x4:wr.cell? ⟨y,4,none⟩=some (.int .u32 z.e):=J.1 4 (by decide);have x5:wr.cell? ⟨y,5,none⟩=some (.int .u32 z.f):=J.1 5 (by decide);have x6:wr.cell? ⟨y,6,none⟩=some (.int .u32 z.g):=J.1 6 (by decide);have x7:wr.cell? ⟨y,7,none⟩=some (.int .u32 z.h):=J.1 7 (by decide);clear J
     go_wp2_with fail
     have y0:=aa (gk wr 8 .u32 205 #[.int .u32 z.a,.int .u32 z.b,.int .u32 z.c,.int .u32 z.d,.int .u32 z.e,.int .u32 z.f,.int .u32 z.g,.int .u32 z.h] (fun i=>z.l.getD i 0) (fun i hi=>by
      match i,hi with
      | 0,_=>rfl
      | 1,_=>rfl
      | 2,_=>rfl
      | 3,_=>rfl
      | 4,_=>rfl
      | 5,_=>rfl
      | 6,_=>rfl
      | 7,_=>rfl))
     refine(pT _ _ _ _).mono ?_;rintro e C ⟨rfl,ak⟩;rw[World.size_alloc];clear X Y Z x3 x4 x5 x6 x7;have aU:au (wr.alloc (.cells #[.int .u32 z.a,.int .u32 z.b,.int .u32 z.c,.int .u32 z.d,.int .u32 z.e,.int .u32 z.f,.int .u32 z.g,.int .u32 z.h] 205)) C:=by rw[ak];exact((CT _ _).alloc (CU _) _).alloc (by simp) _
     have av:au wr C:=((CT _ _).alloc (CU _) _).trans (aU.mono (by simp));have aV:C.cell? ⟨wr.heap.size+1,0,none⟩=some (.slice q (M+8) d):=by rw[ak];exact((ay ((CT _ _).alloc (CU _) _)).1 _ _ (by simp)).trans (by simp)
     have bv:C.cell? ⟨wr.heap.size+1+1,0,none⟩=some (.int .i64 64):=by rw[ak];have:=j8 ((wr.alloc (.cells #[.int .u32 z.a,.int .u32 z.b,.int .u32 z.c,.int .u32 z.d,.int .u32 z.e,.int .u32 z.f,.int .u32 z.g,.int .u32 z.h] 205)).alloc (.cells #[.slice q (M+8) d] 27)) (.int .i64 64) 3;simpa using this
     have cL:C.heap.size=wr.heap.size+3:=by rw[ak];simp
     have ba:=aa (y0.below aU (by simp));have bb:=aa (bX.below av (by have:=H.size;omega));have Hq:=aa (aN U av);have aS:Et w.heap.size w C:=(cc.trans (H.mono (by omega))).trans (av.mono (by have:=H.size;omega));obtain⟨m,hm⟩:∃m,M+8=64*m:=⟨(M+8) / 64,by omega⟩;have hL:P0++(je n).take 8=kP l n:=by rw[CX (by simp),<-cj];rfl
     rw[hL]at U;have bL:(kP l n).length=64*m:=by rw[<-hL,C7,hP];simp;omega
     obtain⟨b,o,cI,cl,bN⟩:∃b o,q=some ⟨b,o,none⟩/\b < wr.heap.size/\wr.rangeAt b o (aj .u8 (kP l n)):=by
      rcases aX.AS U with ⟨_,h2,_⟩ | ⟨b,o,c,h1,_,_,h4⟩
      ·omega
      ·cases h1;exact⟨b,o,rfl,bK h4 (by intro e;have:=congrArg List.length e;rw[ints_length,bL]at this;simp only[DY]at this;omega),h4⟩
     subst cI;have bg:=aa (aL bN av);rw[hm]at aV;clear ak aU y0 U bN
     go_wp2_with fail
     refine(wpIn_wide (n:=9)).1 ?_;apply wpIn_rangeFunc_ownF (F:=E4) (encs:=fun x:Fin m=>#[EG (some ⟨b,o+64*x.val,none⟩) 64 64]) (Kp:=cP wr.heap.size C.heap.size) rfl (by decide) (gf:=167) (lb:=#[.pointer (some ⟨wr.heap.size+1,0,none⟩),.pointer (some ⟨wr.heap.size+1+1,0,none⟩)]) rfl trivial (enters_of Tryz.func167 (by kernel_rfl) rfl)
      (nn 8 (wr.heap.size+1) (wr.heap.size+1+1) wr.heap.size b o m d (by decide) (by omega) (by omega) C (by omega) (by omega) (by omega) (by omega) aV bv)
      (fun h k=>cP.trans h k) (cP.putObj (CU _)) (CT _ _) (fun _=>rfl)
      (fun pre W=>dz W wr.heap.size .u32 8 (fun i=>(ir (kP l n) z (pre.map Fin.val)).l.getD i 0)/\(cP wr.heap.size C.heap.size C W/\Et w.heap.size C W))
      (fun _ _ _=>False)
     case hI=>refine OwnFrom.and ?_ (OwnFrom.and (jE (CU _) (CU _)) (ownFrom_below (by omega) (by omega)));intro pre A B row hs cv V;exact hs.grown cv (CW _ _ (hs.1 0 (by decide))) (fun e=>by have:=(V _ e.symm).1;omega)
     case hIx=>exact fun _ _ _ _ _ hs _ _=>hs
     case h0=>exact⟨ba,cP.refl _ _ _,CT _ _⟩
     case hassign=>
      intro lr x W K hK
      gi_wp2
      exact hK
     case hbody=>
      rintro lr pre x W ⟨u,N,S⟩ hlen;obtain⟨r,al⟩:∃r,ir (kP l n) z (pre.map Fin.val)=r:=⟨_,rfl⟩;have cH:ir (kP l n) z ((pre++[x]).map Fin.val)=cZ r (((kP l n).drop (64*x.val)).take 64):=by rw[<-al];simp[ir]
      simp only[al]at u;have s:wr.heap.size < W.heap.size:=by have:=N.1;omega
      have hx:x.val < m:=x.isLt;have bt:(((kP l n).drop (64*x.val)).take 64).length=64:=by rw[List.length_take,List.length_drop];omega
      have bz:∀i,i < (((kP l n).drop (64*x.val)).take 64).length->W.cell? ⟨b,o+64*x.val+i,none⟩=some (.int .u8 ((((kP l n).drop (64*x.val)).take 64).getD i 0)):=fun i hi=>by rw[bt]at hi;rw[N.cell (by omega) (by omega)];have:=bg (64*x.val+i) _ (cJ .u8 (kP l n) (64*x.val+i) (by omega));rw[show o+64*x.val+i=o+(64*x.val+i)from by omega,this,CR,CR,List.getElem?_take,if_pos hi,List.getElem?_drop]
      have cm:bI (((kP l n).drop (64*x.val)).take 64):=((ri n b2).drop _).take _;have bA:eZ W:=Hg.ext (aS.trans S);generalize c5:((kP l n).drop (64*x.val)).take 64=blk at*;have ck:b < W.heap.size:=by omega
      have X:W.cell? ⟨wr.heap.size,0,none⟩=some (.int .u32 r.a):=u.1 0 (by decide);have Y:W.cell? ⟨wr.heap.size,1,none⟩=some (.int .u32 r.b):=u.1 1 (by decide);have Z:W.cell? ⟨wr.heap.size,2,none⟩=some (.int .u32 r.c):=u.1 2 (by decide);have x3:W.cell? ⟨wr.heap.size,3,none⟩=some (.int .u32 r.d):=u.1 3 (by decide);have x4:W.cell? ⟨wr.heap.size,4,none⟩=some (.int .u32 r.e):=u.1 4 (by decide);have x5:W.cell? ⟨wr.heap.size,5,none⟩=some (.int .u32 r.f):=u.1 5 (by decide);have x6:W.cell? ⟨wr.heap.size,6,none⟩=some (.int .u32 r.g):=u.1 6 (by decide);have x7:W.cell? ⟨wr.heap.size,7,none⟩=some (.int .u32 r.h):=u.1 7 (by decide);have b4:=aa bz;have G:=aa u;have b5:=aa bA;clear bz u bA;have h1:1<=9 - 1 - 1:=by decide
      gi_wp2
      refine⟨trivial,?_⟩;refine(CallsIn.inRound lr (callsIn_wide.2 (oe r b (o+64*x.val) 64 blk bt (by omega) (by decide) W b4 ck cm b5))).mono ?_;rintro e w6 ⟨rfl,t⟩;have d0:=((ay t).1 _ _ s).trans X;have d1:=((ay t).1 _ _ s).trans Y;have d2:=((ay t).1 _ _ s).trans Z;have d3:=((ay t).1 _ _ s).trans x3;have d4:=((ay t).1 _ _ s).trans x4;have d5:=((ay t).1 _ _ s).trans x5;have d6:=((ay t).1 _ _ s).trans x6;have d7:=((ay t).1 _ _ s).trans x7;have f0:=((ay t).2 _ _ s).trans (G.2 0);have f1:=((ay t).2 _ _ s).trans (G.2 1);have f2:=((ay t).2 _ _ s).trans (G.2 2);have f3:=((ay t).2 _ _ s).trans (G.2 3);have f4:=((ay t).2 _ _ s).trans (G.2 4);have f5:=((ay t).2 _ _ s).trans (G.2 5);have f6:=((ay t).2 _ _ s).trans (G.2 6);have f7:=((ay t).2 _ _ s).trans (G.2 7);have an:=aa t;clear t X Y Z x3 x4 x5 x6 x7
      gi_wp2
      have cu:=(G.below an s).BI (cZ r blk).a (cZ r blk).b (cZ r blk).c (cZ r blk).d (cZ r blk).e (cZ r blk).f (cZ r blk).g (cZ r blk).h;have bC:=(cP.BZ (g:=wr.heap.size) an N.1).BI (.int .u32 (cZ r blk).a) (.int .u32 (cZ r blk).b) (.int .u32 (cZ r blk).c) (.int .u32 (cZ r blk).d) (.int .u32 (cZ r blk).e) (.int .u32 (cZ r blk).f) (.int .u32 (cZ r blk).g) (.int .u32 (cZ r blk).h);refine⟨me (lv an) _ _ _ _ _ _ _ _ _,bC,?_,N.trans bC,lf (S.trans (an.mono (by omega))) _ (by omega) _ _ _ _ _ _ _ _⟩;rw[cH];exact cu
     case hdone=>
      rintro D ys W hD rfl ⟨u,N,S⟩ hK;have hend:ir (kP l n) z ((E9 m).map Fin.val)=nV z l n:=by rw[show(E9 m).map Fin.val=DD m from by apply List.ext_getElem<;>simp];exact kA m _ _ bL
      simp only[hend]at u;have bp:dz W w.heap.size .u8 32 (fun _=>0):=dz.BU bb N (by omega) (by omega);have s:wr.heap.size < W.heap.size:=by have:=N.1;omega
      have S:=aS.trans S;have cW:w.heap.size < D:=by omega
      clear hend N aS aV bv bg bb ba cL cl;obtain⟨r,al⟩:∃r,nV z l n=r:=⟨_,rfl⟩;simp only[al]at u;have bY:=aa (dz.alloc bp (by omega) (.cells zA 54));have HO:=aa (dk W 32 .u8 54 zA rfl);have E:=dz.alloc u s (.cells zA 54);have cR:=aa E;have X:(W.alloc (.cells zA 54)).cell? ⟨wr.heap.size,0,none⟩=some (.int .u32 r.a):=E.1 0 (by decide);have Y:(W.alloc (.cells zA 54)).cell? ⟨wr.heap.size,1,none⟩=some (.int .u32 r.b):=E.1 1 (by decide);have Z:(W.alloc (.cells zA 54)).cell? ⟨wr.heap.size,2,none⟩=some (.int .u32 r.c):=E.1 2 (by decide);have x3:(W.alloc (.cells zA 54)).cell? ⟨wr.heap.size,3,none⟩=some (.int .u32 r.d):=E.1 3 (by decide);have x4:(W.alloc (.cells zA 54)).cell? ⟨wr.heap.size,4,none⟩=some (.int .u32 r.e):=E.1 4 (by decide);have x5:(W.alloc (.cells zA 54)).cell? ⟨wr.heap.size,5,none⟩=some (.int .u32 r.f):=E.1 5 (by decide);have x6:(W.alloc (.cells zA 54)).cell? ⟨wr.heap.size,6,none⟩=some (.int .u32 r.g):=E.1 6 (by decide);have x7:(W.alloc (.cells zA 54)).cell? ⟨wr.heap.size,7,none⟩=some (.int .u32 r.h):=E.1 7 (by decide);clear u E bp
      go_wp2_with fail
      have b0:dz _ W.heap.size .u8 32 (fun j=>if j < 4*0 then r.byte j else 0):=HO.congr (fun j T=>by rw[if_neg (by omega)]);have dh:w.heap.size+1<=W.heap.size:=by omega
      clear X Y Z x3 x4 x5 x6 x7;go_loopw [52] (fun i' ws=>∃i:Nat,i'=.int .i64 i/\i<=8/\dz ws W.heap.size .u8 32 (fun j=>if j < 4*i then r.byte j else 0)/\Et W.heap.size W ws/\Et W.heap.size (W.alloc (.cells zA 54)) ws) (fun i' _=>8 - (intOf i').toNat);case atStart=>exact⟨0,rfl,by omega,b0,(CT _ _).alloc (CU _) _,CT _ _⟩
      case round=>
       obtain⟨i,rfl,hi,ax,ar,aR⟩:=hrel;by_cases cy:i=8
       ·subst cy;have bD:=aZ (P:=CO) (ty:=54) (ax.range) DF (by kernel_rfl) (by simp);have bc:=aa (bY.below (B:=W.heap.size) (w':=wr) (by exact aR) (by omega));have bO:=bo (P:=CO) (k:=.u8) (ty:=54) (l:=(DD 32).map (fun j=>if j < 4*8 then r.byte j else 0)) bc.there (by kernel_rfl) (by simp);have b6:=aa bD;have b7:=aa bO;clear ax bD bO
        go_wp2_with (first | ((with_reducible refine ao ?_ b6.out ?_);rfl) | ((with_reducible refine bG ?_ ?_ b7.out ?_);rfl;rfl))
        have cd:D < W.heap.size:=(Array.getElem?_eq_some_iff.1 hK).1;have bq:(wr.setCells w.heap.size 0 (aj .u8 ((DD 32).map (fun j=>if j < 4*8 then r.byte j else 0)))).heap[D]? =some (.deferred (some [])):=(dO _ _ _ (mK.refl w.heap.size wr) D (by omega)).trans ((ar.block D cd).trans hK);refine⟨by simp,.inl ⟨_,_,rfl,run_takeDeferred bq,?_⟩⟩;have cz:((wr.setCells w.heap.size 0 (aj .u8 ((DD 32).map (fun j=>if j < 4*8 then r.byte j else 0)))).putObj D (.deferred none)).rangeAt w.heap.size 0 (aj .u8 ((DD 32).map (fun j=>if j < 4*8 then r.byte j else 0))):=fun j v hv=>by rw[World.cell?_of_block (w:=wr.setCells w.heap.size 0 (aj .u8 ((DD 32).map (fun j=>if j < 4*8 then r.byte j else 0)))) (World.putObj_heap_other (by simp;omega))];exact Dr _ _ _ _ (by simpa using bc.out.there) j v hv
        have cC:=Ep (P:=CO) _ w.heap.size 0 54 _ _ cz DF rfl (by rw[ints_length,List.length_map,List.length_range];exact xQ);refine⟨_,aB rfl rfl cC,?_,?_⟩
        ·rw[al,St.BW]
        ·exact(aA _ _ _ _ (S.trans (ar.mono (by omega))) (CU _)).trans (belowK_b (w:=w) (CU _) _ D _ _ (by omega) bq rfl rfl)
       ·have bQ:(Instr.index 205 (.agg (aj .u32 r.l).toArray) (.int .i64 i)).run CO wr=.ok (.int .u32 (r.l.getD i 0)) wr:=iZ Tryz.underlying205 (fun w=>by simp[go_sem]) (fun w=>by simp[go_sem]) rfl (by omega);have aH:=aa ax;clear ax
        go_wp2_with ((with_reducible refine jY (p:=.agg (aj .u32 r.l).toArray) (v:=.int .i64 i) ?_ ?_ bQ ?_);rfl;rfl)
        obtain⟨x,hx⟩:∃x,r.l[i]?.getD 0=x:=⟨_,rfl⟩;simp only[hx];have di:W.heap.size < wr.heap.size:=CW _ _ (aH.1 0 (by decide));have bV:=aa (show dz wr W.heap.size .u8 32 (fun j=>if j < 4*i+0 then r.byte j else 0)from aH.out);have bT:=aa ar;have bU:=aa aR;clear ar aR aH bQ;go_loopw [56] (fun k' ws=>∃k:Nat,k'=.int .i64 k/\k<=4/\dz ws W.heap.size .u8 32 (fun j=>if j < 4*i+k then r.byte j else 0)/\Et W.heap.size W ws/\Et W.heap.size (W.alloc (.cells zA 54)) ws) (fun k' _=>4 - (intOf k').toNat);case atStart=>exact⟨0,rfl,by omega,bV,bT,bU⟩
        case round=>
         obtain⟨k,rfl,hk,aw,bk,bl⟩:=hrel;by_cases cB:k=4
         ·subst cB
          go_wp2_with fail
          go_roundw;case rel=>exact⟨i+1,rfl,by omega,aw,bk,bl⟩
          case measure=>simp[intOf];omega
         ·have hc:wr.cell? ⟨W.heap.size,4*i+k,none⟩=some (.int .u8 0):=(aw.1 _ (by omega)).trans (by simp);have c8:wr.frozen? ⟨W.heap.size,4*i+k,none⟩=false:=aw.2 _;have df:(4*(i:Int)+(k:Int)).toNat=4*i+k:=by omega
          have bF:(24 - 8*(k:Int)).toNat=24 - 8*k:=by omega
          have cE:(0:Int)<=24 - 8*(k:Int):=by omega
          go_wp2_with fail
          go_roundw;case rel=>
           refine⟨k+1,by simp,by omega,(aw.set (4*i+k) (by omega) (x / 2^(24 - 8*k) % 256)).congr (fun j T=> ?_),bk.setCell (p:=⟨W.heap.size,4*i+k,none⟩) (CU _) _,bl.setCell (p:=⟨W.heap.size,4*i+k,none⟩) (CU _) _⟩;by_cases aY:j=4*i+k
           ·rw[if_pos aY,if_pos (by omega),aY,St.byte,show(4*i+k) / 4=i from by omega,show(4*i+k) % 4=k from by omega,CR,hx]
           ·rw[if_neg aY];by_cases bB:j < 4*i+k
            ·rw[if_pos bB,if_pos (by omega)]
            ·rw[if_neg bB,if_neg (by omega)]
          case measure=>simp[intOf];omega
     case hstop=>rintro D c pre W _ _ h _;exact h.elim
    ·have cU:wr.cell? ⟨y,9,none⟩=some (.int .i64 n):=((ay H).1 _ _ (by omega)).trans cb;have db:(0:Int)<=56 - 8*(j:Int):=by omega
     have cM:w.heap.size+1<=wr.heap.size:=Dk aE H.size;have I:au wr (wr.alloc (.cells #[.int .u8 ((n:Int)*8 / 2^(56 - 8*j) % 256)] 5)):=(CT _ _).alloc (CU _) _;have Hr:=aa (aN U I);have Q:=aa (aX.AS (cX wr 5 #[.int .u8 ((n:Int)*8 / 2^(56 - 8*j) % 256)] wr.heap.size 1 1 (CU _) (by decide) rfl));have ch:M+j+1<=Dc:=by unfold Dc;omega
     go_wp2_with ((with_reducible refine dV aQ Hr.out Q.out rfl (by simp[Value.oneCell']) ch (by omega) (by simp;omega) ?_ ?_ ?_);rfl;rfl;intro v4 w4 ai cx aO cg;obtain⟨p4,c4,aW,cF,cp⟩:=(aX.AS ai).form;subst aW)
     go_roundw;case rel=>refine⟨j+1,by omega,by omega,p4,c4,⟨rfl,rfl,rfl⟩,?_,(H.trans (I.mono cM)).trans aO⟩;rw[mv n j (by omega),<-List.append_assoc,aP];exact ai
     case measure=>simp only[fZ];omega
  ·have bM:((l.length:Int)+1+(j:Int)) % 64≠56:=by unfold dC at T a0;omega
   have I:au wr (wr.alloc (.cells #[.int .u8 0] 5)):=(CT _ _).alloc (CU _) _;have Hr:=aa (aN V I);have Q:=aa (aX.AS (cX wr 5 #[.int .u8 0] wr.heap.size 1 1 (CU _) (by decide) rfl));have da:j<=64:=by unfold dC at T;omega
   have aE:w.heap.size+1<=wr.heap.size:=Dk a3 L.size
   go_wp2_with ((with_reducible refine dV aQ Hr.out Q.out (by simp) (by decide) (by unfold Dc;omega) (by omega) (by simp;omega) ?_ ?_ ?_);rfl;rfl;intro v4 w4 ai cx aO cg;obtain⟨p4,c4,aW,cF,cp⟩:=(aX.AS ai).form;subst aW)
   go_roundw;case rel=>refine⟨j+1,p4,c4,rfl,by omega,?_,(L.trans (I.mono aE)).trans aO⟩;rw[show l++128 :: Dl (j+1) (0:Int)=(l++128 :: Dl j 0)++[0]from by simp[List.replicate_succ'],aP];exact ai
   case measure=>simp only[fZ];omega
end
theorem uy (w:CP):lD (w.alloc (.cells #[.int .u32 fJ.a,.int .u32 fJ.b,.int .u32 fJ.c,.int .u32 fJ.d,.int .u32 fJ.e,.int .u32 fJ.f,.int .u32 fJ.g,.int .u32 fJ.h,.slice none 0 0,.int .i64 0] 207)) w.heap.size w.heap.size fJ [] 0:=by
 have j:=World.alloc_heap_new w (.cells #[.int .u32 fJ.a,.int .u32 fJ.b,.int .u32 fJ.c,.int .u32 fJ.d,.int .u32 fJ.e,.int .u32 fJ.f,.int .u32 fJ.g,.int .u32 fJ.h,.slice none 0 0,.int .i64 0] 207);refine⟨gk w 8 .u32 _ _ _ (fun i k=> ?_),⟨.slice none 0 0,?_,World.ownsRow_nil _ _ _ _,by simp[Value.ownBlock]⟩,?_,CU _⟩
 ·match i,k with
  | 0,_=>rfl
  | 1,_=>rfl
  | 2,_=>rfl
  | 3,_=>rfl
  | 4,_=>rfl
  | 5,_=>rfl
  | 6,_=>rfl
  | 7,_=>rfl
 ·simp only[World.cell?,j];rfl
 ·simp only[World.cell?,j];rfl
theorem pV (v:CQ) (ps:List (List Int)) (w:CP) (hR:aU w v ps) (hg:eZ w) (ad:bI ps.flatten) (hlen:ps.flatten.length<=1099511627776):
  CZ CO 88 #[v] w fun e w'=>e=.returned (.agg (aj .u8 (sha ps.flatten)).toArray)/\au w w':=by
 obtain⟨vs,I,aV,ah⟩:=hR;obtain⟨p,c,aM,aW,aL⟩:=I.form;subst aM;have Hv:=aa I;have av:=aa ah;have y:=aa hg;have O:=aa ad;clear I ah hg ad;go_enter Tryz.func88,Tryz.ntmps88
 go_wp2_with fail
 obtain⟨a,m⟩:=exq (w.alloc (.cells zA 54));rw[<-m];have V:au w a:=by rw[m];exact(CT _ _).alloc (CU _) _
 have W:dz a w.heap.size .u8 32 (fun _=>0):=by rw[m];exact dk w 32 .u8 _ _ rfl
 have ag:a.heap.size=w.heap.size+1:=by rw[m];simp
 have n:=aa V;have ak:=aa W;have S:=aa ag;clear m V W ag;refine(wF a (y.ext n)).mono ?_;rintro e w' ⟨rfl,J⟩;have r:=uy a;rw[<-J]at r;have A:Et a.heap.size a w':=by rw[J];exact(CT _ _).alloc (CU _) _
 obtain⟨f,G⟩:=exq a.heap.size;rw[<-G]at r A⊢;have j:=aa G;clear J G
 go_wp2_with fail
 go_loopw [9] (fun i wr=>∃k:Nat,k<=ps.length/\i=.int .i64 k/\lD wr f f (jB fJ (ps.take k).flatten).1 (jB fJ (ps.take k).flatten).2 (ps.take k).flatten.length/\Et f a wr) (fun i _=>ps.length - (intOf i).toNat);case atStart=>exact⟨0,C9 _,rfl,r,A⟩
 case round=>
  obtain⟨k,hk,rfl,X,U⟩:=hrel;have t:=aa X;have d:=aa U;clear X U r A;have aS:ps.length<=9223372036854775807:=by unfold Dc at aL;omega
  have q:Hid (au w wr):=aa (n.trans (d.mono (by rw[j.out];exact CU _)));by_cases af:k < ps.length
  ·obtain⟨b,o,aI,aC⟩:∃b o,p=some ⟨b,o,none⟩/\wr.cell? ⟨b,o+k,none⟩=some (vs.getD k undef):=by
    rcases (Hv.ext q)with ⟨h1,h2,h3⟩ | ⟨b,o,c',h1,h2,h3,h4⟩
    ·omega
    ·cases h1;refine⟨b,o,rfl,h4 k _ ?_⟩;rw[CR,CV (by omega)];rfl
   subst aI;have D:=av k af;have F:=ka ps k af;obtain⟨z,ac⟩:=exq (ps.getD k []);rw[<-ac]at D F;have N:=aa D;have u:=aa F;clear D F ac;have Z:=N.ext q;obtain⟨pk,ck,E,aT,aQ⟩:=Z.form;rw[E]at aC;have ao:=aa E;clear E Z
   go_wp2_with fail
   have aF:(ps.take k).flatten.length<=1099511627776:=Dk (jF ps k) hlen;have aG:(ps.take (k+1)).flatten.length<=1099511627776:=Dk (jF ps (k+1)) hlen;have aH:z.length<=1099511627776:=by rw[u.out,C7]at aG;omega
   have g:=nT (ps.take k).flatten.length fJ (ps.take k).flatten (CU _);have ab:bI ((jB fJ (ps.take k).flatten).2++z):=by
    have:=tR O (k+1);rw[u.out]at this;intro x hx;rcases List.mem_append.1 hx with hx | hx
    ·exact this x (List.mem_append_left _ (g.2 x hx))
    ·exact this x (List.mem_append_right _ hx)
   have aK:a.heap.size<=wr.heap.size:=d.size;refine(wG wr f f (ps.take k).flatten.length _ _ z _ t ?_ ?_ ab (by rw[j.out];exact aK) g.1 aH aF).mono ?_
   ·intro w1 K;rw[<-ao.out];exact N.ext (n.trans ((d.trans K).mono (by rw[j.out];exact CU _)))
   ·intro w1 K;exact y.ext (n.trans ((d.trans K).mono (by rw[j.out];exact CU _)))
   rintro e M ⟨rfl,Y,T⟩;have am:=aa Y;have ai:=aa T;clear Y T g ab
   go_wp2_with fail
   go_roundw;case rel=>refine⟨k+1,by omega,by go_num,?_,d.trans ai⟩;have h:=am.out;rw[u.out,ll _ _ _ _ (CU _),C7];exact h
   case measure=>simp[intOf];omega
  ·obtain rfl:k=ps.length:=by omega
   have C:=t.out;rw[Fl]at C;have g:=nT ps.flatten.length fJ ps.flatten (CU _);have an:=aa C;have R:=aa g;clear C g t
   go_wp2_with fail
   refine(wH wr f f ps.flatten.length _ _ an (y.ext q) (fun x hx=>O x (R.2 x hx)) R.1 hlen).mono ?_;rintro e M ⟨rfl,L⟩;have B:dz M w.heap.size .u8 32 (fun _=>0):=(ak.below d (by rw[j.out,S.out];omega)).below L (by have:=d.size;rw[S.out]at this;omega);rw[rO];have aJ:Hid (sha ps.flatten=(jB fJ (kP ps.flatten ps.flatten.length)).1.bytes):=rfl;obtain⟨sh,s⟩:=exq (sha ps.flatten);rw[<-aJ.out,<-s];have H:sh.length=32:=by rw[s];rfl
   have aq:=aa (bo (P:=CO) (k:=.u8) (ty:=54) (l:=sh) B.there (by kernel_rfl) H);have al:=aa B;have aw:=aa L;have ap:=aa s;have Q:=aa H;clear B L s H
   go_wp2_with (((with_reducible refine bG ?_ ?_ aq.out ?_);rfl;rfl))
   have aD:=Dr M w.heap.size 0 (aj .u8 sh) (by rw[ints_length,Q.out];exact al.there);have aE:=Ep (P:=CO) _ w.heap.size 0 54 (aj .u8 sh) _ aD DF rfl (by rw[ints_length,Q.out];kernel_rfl);refine bodyPost_ret (v:=.agg (aj .u8 sh).toArray) (aB rfl rfl aE) rfl ⟨by rw[ap.out],aA _ _ _ _ (q.trans aw) (CU _)⟩
theorem rX (n:Nat) (w:CP) (h0:0 < n) (r:n<=1099511627776):
  CZ CO 142 #[.slice none 0 0,.int .i64 n] w fun e w'=>∃c,e=.returned (.slice (some ⟨w.heap.size,0,none⟩) 0 c)/\w'.ownsRow w.heap.size 5 1 (.slice (some ⟨w.heap.size,0,none⟩) 0 c) 0 []/\au w w':=by
 obtain⟨i,k,m,q,b⟩:=info_parts aQ.info;have a:∀ty,(Builtin.append_ #[27,3] ty #[.slice none 0 0,.int .i64 (n:Int)]).run CO w=
   .ok (.slice (some ⟨w.heap.size,0,none⟩) n (grownCap w (0+n) 0 5)) (w.drew.alloc (.cells (([]:List CQ).toArray++FK (Dx .u8 0).cells n++FK (Dx .u8 0).cells (grownCap w (0+n) 0 5 - (0+n))) 5)):=fun ty=>by
  have h:=Lib.run_append_grow_zeros w 27 3 ty 5 i (.int .u8 0) .i64 .i64 Tryz.underlying27 Tryz.underlying3 k m none 0 0 [] (run_firstCells_none w.drew i.size 0 0 0) n h0 (by omega) (by omega) (by omega) (by rw[b];omega)
   (growslice_fits (by omega) (by rw[b];omega))
  rw[Nat.zero_add]at h⊢;exact h
 have p:0+n<=grownCap w (0+n) 0 5:=grownCap_ge w _ _ _;have d:grownCap w (0+n) 0 5<=Dc:=grownCap_le_maxLen w (0+n) 0 _ (by unfold Dc;omega);obtain⟨G,g⟩:=exq (grownCap w (0+n) 0 5);rw[<-g]at a p d;have f:(([]:List CQ).toArray++FK (Dx .u8 0).cells n++FK (Dx .u8 0).cells (G - (0+n))).size=G*1:=by simp only[Array.size_append,size_zeroCells,Value.cells,Fv,DY,DB];omega
 obtain⟨cs,j⟩:=exq (([]:List CQ).toArray++FK (Dx .u8 0).cells n++FK (Dx .u8 0).cells (G - (0+n)));rw[<-j]at a f;have l:=World.ownsRow_made (w:=w.drew) (base:=w.heap.size) (e:=5) (size:=1) cs G (CU _) d f;have o:=aa l;unfold Dc at d;clear j g f l k m q b;go_enter Tryz.func142,Tryz.ntmps142
 go_wp2_with (with_reducible refine av ?_)
 refine ax ?_;refine tK a rfl rfl ?_;clear a
 go_wp2
 go_ret;exact⟨G,rfl,o,((CT _ _).drew).alloc (CU _) _⟩
theorem ke (v:CQ) (ps:List (List Int)) (w:CP) (hR:aU w v ps) (h0:0 < ps.flatten.length) (hlen:ps.flatten.length<=1099511627776):
  CZ CO 100 #[v] w fun e w'=>∃v',e=.returned v'/\w'.ownsRow w.heap.size 5 1 v' ps.flatten.length (aj .u8 ps.flatten)/\au w w':=by
 obtain⟨vs,J,Z,ab⟩:=hR;obtain⟨p,c,ay,aI,aw⟩:=J.form;subst ay;have Q:=aa J;have R:=aa ab;have t:=aa Z;obtain⟨T,D⟩:=exq ps.flatten.length;rw[<-D]at h0 hlen;have y:=aa D;clear J ab D Z;have aH:ps.length<=9223372036854775807:=by unfold Dc at aw;omega
 go_enter Tryz.func100,Tryz.ntmps100
 go_wp2_with fail
 go_loop [3,11] (fun s i=>∃k N:Nat,k<=ps.length/\i=.int .i64 k/\s=.int .i64 N/\Hid (N=(ps.take k).flatten.length)/\N<=T) (fun _ i=>ps.length - (intOf i).toNat);case atStart=>exact⟨0,0,C9 _,rfl,rfl,rfl,C9 _⟩
 case round=>
  obtain⟨k,N,hk,rfl,rfl,x,al⟩:=hrel;by_cases F:k < ps.length
  ·obtain⟨b,o,I,an,E⟩:∃b o,p=some ⟨b,o,none⟩/\b < w.heap.size/\w.cell? ⟨b,o+k,none⟩=some (vs.getD k undef):=by
    rcases Q with ⟨h1,h2,z⟩ | ⟨b,o,c',h1,h2,z,l⟩
    ·omega
    ·cases h1;refine⟨b,o,rfl,bK l (fun q=>by have:=t.out;rw[q]at this;simp at this;omega),l k _ ?_⟩;rw[CR,CV (by rw[t.out];exact F)];rfl
   subst I;have f:=ka ps k F;have a:=R k F;obtain⟨d,n⟩:=exq (ps.getD k []);rw[<-n]at f a;obtain⟨pk,ck,r,ar,ao⟩:=a.form;rw[r]at E;have m:Hid (N+d.length=(ps.take (k+1)).flatten.length):=by show _=_;rw[f,C7,x.out]
   have hle:N+d.length<=T:=by rw[m.out,y.out];exact jF ps (k+1)
   clear f a r n;have aG:decide ((N:Int)+(d.length:Int) < 0)=false:=decide_eq_false (by omega)
   go_wp2_with fail
   go_round;case rel=>exact⟨k+1,N+d.length,by omega,by go_num,by go_num,m,hle⟩
   case measure=>simp[intOf];omega
  ·obtain rfl:k=ps.length:=by omega
   obtain rfl:N=T:=by rw[x.out,y.out,Fl]
   clear x al
   go_wp2_with fail
   refine(rX N w h0 hlen).mono ?_;rintro e w1 ⟨j,rfl,H,U⟩;obtain⟨B,A⟩:=exq w.heap.size;rw[<-A]at H⊢;have u:=aa A;have P:=aa H;have K:=aa U;clear H U A
   go_wp2_with fail
   go_loopw [6,27] (fun s i wr=>∃(k M:Nat) (p1:Option Addr) (j:Nat),k<=ps.length/\i=.int .i64 k/\s=.slice p1 M j/\Hid (M=(ps.take k).flatten.length)/\M<=N/\wr.ownsRow B 5 1 (.slice p1 M j) M (aj .u8 (ps.take k).flatten)/\au w wr) (fun _ i _=>ps.length - (intOf i).toNat);case atStart=>exact⟨0,0,_,j,C9 _,rfl,rfl,rfl,C9 _,P,K⟩
   case round=>
    obtain⟨k,M,p1,j,hk,rfl,rfl,L,aC,X,S⟩:=hrel;have O:=aa X;have g:=aa S;clear X S P K;by_cases G:k < ps.length
    ·obtain⟨b,o,I,an,E⟩:∃b o,p=some ⟨b,o,none⟩/\b < wr.heap.size/\wr.cell? ⟨b,o+k,none⟩=some (vs.getD k undef):=by
      rcases Q.ext g with ⟨h1,h2,z⟩ | ⟨b,o,c',h1,h2,z,l⟩
      ·omega
      ·cases h1;refine⟨b,o,rfl,bK l (fun q=>by have:=t.out;rw[q]at this;simp at this;omega),l k _ ?_⟩;rw[CR,CV (by rw[t.out];exact G)];rfl
     subst I;have f:=ka ps k G;have a:=R k G;obtain⟨d,n⟩:=exq (ps.getD k []);rw[<-n]at f a;obtain⟨pk,ck,r,ar,ao⟩:=a.form;rw[r]at E a;have W:=a.ext g;have ae:=aa W;have m:Hid (M+d.length=(ps.take (k+1)).flatten.length):=by show _=_;rw[f,C7,L.out]
     have hle:M+d.length<=N:=by rw[m.out,y.out];exact jF ps (k+1)
     have af:=aa f;clear f a W r n
     go_wp2_with (with_reducible refine av ?_)
     refine ax ?_;refine bg aQ O ae rfl rfl (by simp) (aE _ _) (by unfold Dc;omega) (by omega) (by rw[u.out];exact g.size) ?_;intro q3 d3 w2 Y ap C ak aF aD;have ag:=aa Y;have ad:Hid (au w w2):=aa (DC g (by rw[u.out]at C;exact C));clear Y ap C ak
     go_wp2_with fail
     go_roundw;case rel=>refine⟨k+1,M+d.length,q3,d3,by omega,by go_num,rfl,m,hle,?_,ad⟩;rw[af.out,aP];exact ag
     case measure=>simp[intOf];omega
    ·obtain rfl:k=ps.length:=by omega
     go_wp2_with fail
     go_ret;have h:=O.out;have V:=L.out;rw[Fl]at h V;rw[V]at h⊢;exact⟨_,rfl,by rw[<-u.out];exact h,g⟩
theorem iP (v:CQ) (ps:List (List Int)) (w:CP) (c:aU w v ps) (h0:0 < ps.flatten.length) (hlen:ps.flatten.length<=1099511627776):
  CZ CO 100 #[v] w fun e w'=>∃a,e=.returned a/\Bu w' .u8 a ps.flatten/\au w w':=
 (ke v ps w c h0 hlen).mono fun _ _ ⟨a,h1,h2,b⟩=>⟨a,h1,aX.AS h2,b⟩
theorem rY (v:CQ) (l:List Int) (w:CP) (a:Bu w .u8 v l) (hlen:l.length<=1099511627000):
  CZ CO 90 #[v] w fun e w'=>∃g,e=.returned g/\w'.ownsRow w.heap.size 5 1 g (l.length+1) (aj .u8 (0 :: l))/\au w w':=by
 obtain⟨p,c,r,y,x⟩:=a.form;subst r;have m:=aa (a.ext (ae w (.cells #[.int .u8 0] 5)));have j:=aa (cX w 5 #[.int .u8 0] w.heap.size 1 1 (CU _) (by decide) rfl);clear a;go_enter Tryz.func90,Tryz.ntmps90
 go_wp2_with (with_reducible refine av ?_)
 refine ax ?_;refine bg aQ j m rfl rfl (by simp) (aE _ _) (by unfold Dc;omega) (by omega) (by simp) ?_;intro q d s f o b n u t;have k:=aa f;have i:Hid (au w s):=aa (DC (ae w _) b);clear f o b n
 go_wp2_with fail
 go_ret;refine⟨_,rfl,?_,i⟩;have h:=k.out;rw[Nat.add_comm l.length 1];exact h
theorem rZ (v:CQ) (l:List Int) (w:CP) (c:Bu w .u8 v l) (hlen:l.length<=1099511627000):
  CZ CO 90 #[v] w fun e w'=>∃a,e=.returned a/\Bu w' .u8 a (0 :: l)/\au w w':=
 (rY v l w c hlen).mono fun _ _ ⟨a,h1,h2,b⟩=>⟨a,h1,aX.AS h2,b⟩
structure dT (w:CP):Prop where
 s:eZ w
 Cd:∀i,i < 64->w.cell? ⟨9,i,none⟩=some (.int .u32 (kt.getD i 0))
 B6:∀i,i < 8->w.cell? ⟨8,i,none⟩=some (.int .u32 (iv.getD i 0))
theorem dT.ext {w w':CP} (h:dT w) (a:au w w'):dT w':=by
 have c:=CW w _ (h.Cd 0 (by decide));have d:=CW w _ (h.B6 0 (by decide));exact⟨h.s.ext a,fun i b=>((ay a).1 _ _ c).trans (h.Cd i b),fun i b=>((ay a).1 _ _ d).trans (h.B6 i b)⟩
instance yx (w:CP):Coe (dT w) (eZ w):=⟨dT.s⟩
def aM (x:Int):List Int:=[x / 72057594037927936 % 256,x / 281474976710656 % 256,x / 1099511627776 % 256,x / 4294967296 % 256,x / 16777216 % 256,x / 65536 % 256,x / 256 % 256,x % 256]
theorem og (x:Int):(aM x).length=8:=rfl
theorem oh (x:Int):bI (aM x):=fun y hy=>by
 unfold aM at hy;simp only[DA,Eg,or_false]at hy;rcases hy with rfl | rfl | rfl | rfl | rfl | rfl | rfl | rfl<;>omega
def bB (x:Int):List Int:=[x / 256 % 256,x % 256]
theorem fu (x:Int):bI (bB x):=fun y hy=>by
 unfold bB at hy;simp only[DA,Eg,or_false]at hy;rcases hy with rfl | rfl<;>omega
theorem aw.AS {w:CP} {base e s n c:Nat} {xs:List CQ} (h:w.ownsRow base e s (.slice (some ⟨g,0,none⟩) n c) n xs) (f:xs≠[]):aw w g xs:=by
 rcases Pk.AS h with ⟨h1,_,_⟩ | ⟨i,cap,h1,_,hp⟩
 ·cases h1
 ·injection h1 with a _ b;injection a with a;injection a with a;subst a b;exact⟨hp.rg,fun j d=>hp.th j (by rw[hp.len]at d;have:=Nat.mul_le_mul_right s hp.le;omega),f⟩
def zu (x:Int) (k:Nat):List Int:=Dl (8 - k) 0++(aM x).drop (8 - k)
theorem aw.CK {w:CP} {l:List Int} (h:aw w g (aj .u8 l)) (a:l.length=8):dD w (.slice (some ⟨g,0,none⟩) 8 8) l:=by
 refine⟨some ⟨g,0,none⟩,8,by rw[a],.inr ⟨g,0,8,by rw[a],by rw[a];exact CU _,by decide,h.rg⟩⟩
theorem kV (x:Int) (w:CP) (h0:0<=x) (h1:x<=65535):
  CZ CO 102 #[.int .i64 x] w fun e w'=>∃v,e=.returned v/\dD w' v (bB x)/\au w w':=by
 go_enter Tryz.func102,Tryz.ntmps102
 go_wp2_with fail
 go_ret;refine⟨_,rfl,⟨_,_,rfl,?_⟩,ae _ _⟩;have h:=mM w 5 .u8 (bB x) (show 2<=Dc by decide);have e:x / 256 % 256=x / 256:=by omega
 unfold bB at h⊢;rw[e]at h⊢;exact h
theorem uz (x:Int) (w:CP) (h0:0<=x) (h1:x<=65535):
  CZ CO 105 #[.int .i64 x] w fun e w'=>∃v,e=.returned v/\dD w' v (bB x)/\au w w':=by
 go_enter Tryz.func105,Tryz.ntmps105
 go_wp2_with fail
 go_ret;refine⟨_,rfl,⟨_,_,rfl,?_⟩,ae _ _⟩;have h:=mM w 5 .u8 (bB x) (show 2<=Dc by decide);have e:x / 256 % 256=x / 256:=by omega
 unfold bB at h⊢;rw[e]at h⊢;exact h
theorem lE (x:Int) (w:CP) (h0:0<=x) (h1:x<=1099511627776):
  CZ CO 101 #[.int .i64 x] w fun e w'=>∃v,e=.returned v/\dD w' v (aM x)/\au w w':=by
 go_enter Tryz.func101,Tryz.ntmps101
 go_wp2_with fail
 go_loopw [3,4] (fun o i wr=>∃(k:Nat) (p:Option Addr) (c:Nat),k<=8/\i=.int .i64 (7 - k)/\o=.slice p k c/\wr.ownsRow w.heap.size 5 1 (.slice p k c) k (aj .u8 ((aM x).take k))/\au w wr) (fun _ i _=>(intOf i+1).toNat);case atStart=>exact⟨0,none,0,by omega,rfl,rfl,⟨rfl,.inl ⟨rfl,rfl⟩⟩,CT _ _⟩
 case round=>
  obtain⟨k,p,c,z,rfl,rfl,l,g⟩:=hrel;have d:=aa l;have a:=aa g;clear l g;by_cases j:k=8
  ·subst j
   go_wp2_with fail
   go_ret;exact⟨_,rfl,⟨p,c,rfl,aX.AS d⟩,a⟩
  ·have u:k=0\/k=1\/k=2\/k=3\/k=4\/k=5\/k=6\/k=7:=by omega
   clear z j;rcases u with rfl | rfl | rfl | rfl | rfl | rfl | rfl | rfl
   all_goals
    go_wp2_with (with_reducible refine av ?_)
    refine ax ?_;refine bg aQ (aN d (ae _ _)) (eI wr 5 .u8 _) rfl rfl rfl (aE _ _) (by decide) (by decide) (Dk a.size (ae _ _).size) ?_;intro p2 q A b y f t C B;rw[<-aP]at b;have n:=aa b;have m:Hid (au w A):=aa (DC (a.trans (ae _ _)) f);clear b y f t
    go_wp2_with fail
    go_roundw
    case rel=>exact⟨_,p2,q,by decide,by first | rfl | go_num,rfl,by
     have h:=n.out;simp only[aM,List.take_succ_cons,List.take_zero,Eh,Fy]at h⊢
     first | exact h | (
       have e:x / 72057594037927936 % 256=x / 72057594037927936:=by omega
       have r:x / 281474976710656 % 256=x / 281474976710656:=by omega
       have s:x / 1099511627776 % 256=x / 1099511627776:=by omega
       simp only[e,r,s]at h⊢
       exact h),m⟩
    case measure=>simp[intOf]
theorem bM (x:Int) (w:CP) (h0:0<=x) (h1:x<=1099511627776):
  CZ CO 104 #[.int .i64 x] w fun e w'=>∃v,e=.returned v/\dD w' v (aM x)/\au w w':=by
 obtain⟨B,p,o,m,A⟩:=rM (P:=CO) aQ 8 (by decide) (by decide) w;have q:=aa (aw.AS o (fun h=>by cases h));have r:=aa m;have z:(Instr.makeSlice 27 (.int .i64 8) (.int .i64 8)).run CO w=.ok (.slice (some ⟨w.heap.size,0,none⟩) 8 8) B:=p;clear p o m A;go_enter Tryz.func104,Tryz.ntmps104
 go_wp2_with fail
 clear z;go_loopw [4,5] (fun u i wr=>∃(k:Nat) (y:Int),k<=8/\u=.int .u64 y/\Hid (y=x / 256^k)/\0<=y/\y<=1099511627776/\i=.int .i64 (7 - k)/\Hid (aw wr w.heap.size (aj .u8 (zu x k)))/\au w wr) (fun _ i _=>(intOf i+1).toNat);case atStart=>exact⟨0,x,by omega,rfl,aa (by simp),h0,h1,rfl,q,r⟩
 case round=>
  obtain⟨k,y,t,rfl,f,C,D,rfl,a,l⟩:=hrel;have d:=aa l;clear l;by_cases n:k=8
  ·subst n
   go_wp2_with fail
   go_ret;exact⟨_,rfl,aw.CK a rfl,d⟩
  ·have s:k=0\/k=1\/k=2\/k=3\/k=4\/k=5\/k=6\/k=7:=by omega
   clear t n;rcases s with rfl | rfl | rfl | rfl | rfl | rfl | rfl | rfl
   ·have j:wr.cell? ⟨w.heap.size,7,none⟩=some (.int .u8 0):=a.cell (i:=7) rfl;have g:=a.fz (i:=7) (show 7 < 8 by decide);have c:=aa (a.put (i:=7) (show 7 < 8 by decide) (.int .u8 (y % 256)));have b:Hid (y=x / 1):=aa (by have:=f.out;simpa using this)
    go_wp2_with fail
    go_roundw;case rel=>
     refine⟨1,y / 256,by decide,rfl,aa (by rw[b.out];show x / 1 / 256=x / 256;omega),by omega,by omega,by first | rfl | go_num,aa ?_,E0 d (CU _) _⟩;have h:=c.out;rw[eM]at h;have e:=b.out;subst e;try rw[FX]at h⊢
     exact h
    case measure=>simp[intOf]
   ·have j:wr.cell? ⟨w.heap.size,6,none⟩=some (.int .u8 0):=a.cell (i:=6) rfl;have g:=a.fz (i:=6) (show 6 < 8 by decide);have c:=aa (a.put (i:=6) (show 6 < 8 by decide) (.int .u8 (y % 256)));have b:Hid (y=x / 256):=aa (by have:=f.out;simpa using this)
    go_wp2_with fail
    go_roundw;case rel=>
     refine⟨2,y / 256,by decide,rfl,aa (by rw[b.out];show x / 256 / 256=x / 65536;omega),by omega,by omega,by first | rfl | go_num,aa ?_,E0 d (CU _) _⟩;have h:=c.out;rw[eM]at h;have e:=b.out;subst e;try rw[FX]at h⊢
     exact h
    case measure=>simp[intOf]
   ·have j:wr.cell? ⟨w.heap.size,5,none⟩=some (.int .u8 0):=a.cell (i:=5) rfl;have g:=a.fz (i:=5) (show 5 < 8 by decide);have c:=aa (a.put (i:=5) (show 5 < 8 by decide) (.int .u8 (y % 256)));have b:Hid (y=x / 65536):=aa (by have:=f.out;simpa using this)
    go_wp2_with fail
    go_roundw;case rel=>
     refine⟨3,y / 256,by decide,rfl,aa (by rw[b.out];show x / 65536 / 256=x / 16777216;omega),by omega,by omega,by first | rfl | go_num,aa ?_,E0 d (CU _) _⟩;have h:=c.out;rw[eM]at h;have e:=b.out;subst e;try rw[FX]at h⊢
     exact h
    case measure=>simp[intOf]
   ·have j:wr.cell? ⟨w.heap.size,4,none⟩=some (.int .u8 0):=a.cell (i:=4) rfl;have g:=a.fz (i:=4) (show 4 < 8 by decide);have c:=aa (a.put (i:=4) (show 4 < 8 by decide) (.int .u8 (y % 256)));have b:Hid (y=x / 16777216):=aa (by have:=f.out;simpa using this)
    go_wp2_with fail
    go_roundw;case rel=>
     refine⟨4,y / 256,by decide,rfl,aa (by rw[b.out];show x / 16777216 / 256=x / 4294967296;omega),by omega,by omega,by first | rfl | go_num,aa ?_,E0 d (CU _) _⟩;have h:=c.out;rw[eM]at h;have e:=b.out;subst e;try rw[FX]at h⊢
     exact h
    case measure=>simp[intOf]
   ·have j:wr.cell? ⟨w.heap.size,3,none⟩=some (.int .u8 0):=a.cell (i:=3) rfl;have g:=a.fz (i:=3) (show 3 < 8 by decide);have c:=aa (a.put (i:=3) (show 3 < 8 by decide) (.int .u8 (y % 256)));have b:Hid (y=x / 4294967296):=aa (by have:=f.out;simpa using this)
    go_wp2_with fail
    go_roundw;case rel=>
     refine⟨5,y / 256,by decide,rfl,aa (by rw[b.out];show x / 4294967296 / 256=x / 1099511627776;omega),by omega,by omega,by first | rfl | go_num,aa ?_,E0 d (CU _) _⟩;have h:=c.out;rw[eM]at h;have e:=b.out;subst e;try rw[FX]at h⊢
     exact h
    case measure=>simp[intOf]
   ·have j:wr.cell? ⟨w.heap.size,2,none⟩=some (.int .u8 0):=a.cell (i:=2) rfl;have g:=a.fz (i:=2) (show 2 < 8 by decide);have c:=aa (a.put (i:=2) (show 2 < 8 by decide) (.int .u8 (y % 256)));have b:Hid (y=x / 1099511627776):=aa (by have:=f.out;simpa using this)
    go_wp2_with fail
    go_roundw;case rel=>
     refine⟨6,y / 256,by decide,rfl,aa (by rw[b.out];show x / 1099511627776 / 256=x / 281474976710656;omega),by omega,by omega,by first | rfl | go_num,aa ?_,E0 d (CU _) _⟩;have h:=c.out;rw[eM]at h;have e:=b.out;subst e;try rw[FX]at h⊢
     exact h
    case measure=>simp[intOf]
   ·have j:wr.cell? ⟨w.heap.size,1,none⟩=some (.int .u8 0):=a.cell (i:=1) rfl;have g:=a.fz (i:=1) (show 1 < 8 by decide);have c:=aa (a.put (i:=1) (show 1 < 8 by decide) (.int .u8 (y % 256)));have b:Hid (y=x / 281474976710656):=aa (by have:=f.out;simpa using this)
    go_wp2_with fail
    go_roundw;case rel=>
     refine⟨7,y / 256,by decide,rfl,aa (by rw[b.out];show x / 281474976710656 / 256=x / 72057594037927936;omega),by omega,by omega,by first | rfl | go_num,aa ?_,E0 d (CU _) _⟩;have h:=c.out;rw[eM]at h;have e:=b.out;subst e;try rw[FX]at h⊢
     exact h
    case measure=>simp[intOf]
   ·have j:wr.cell? ⟨w.heap.size,0,none⟩=some (.int .u8 0):=a.cell (i:=0) rfl;have g:=a.fz (i:=0) (show 0 < 8 by decide);have c:=aa (a.put (i:=0) (show 0 < 8 by decide) (.int .u8 (y % 256)));have b:Hid (y=x / 72057594037927936):=aa (by have:=f.out;simpa using this)
    go_wp2_with fail
    go_roundw;case rel=>
     refine⟨8,y / 256,by decide,rfl,aa (by rw[b.out];show x / 72057594037927936 / 256=x / 18446744073709551616;omega),by omega,by omega,by first | rfl | go_num,aa ?_,E0 d (CU _) _⟩;have h:=c.out;rw[eM]at h;have e:=b.out;subst e;try rw[FX]at h⊢
     exact h
    case measure=>simp[intOf]
theorem pW (v:CQ) (ds:List (List Int)) (w:CP) (u:et w v ds) (j:dd ds) (hn:ds.length<=1048576):
  CZ CO 103 #[v] w fun e w'=>∃L,e=.returned L/\Bu w' .u8 L ds.flatten/\au w w':=by
 obtain⟨p,c,ah,ai,aw⟩:=u.form;subst ah;have N:=aa u;have s:=aa j;obtain⟨n,y⟩:=exq ds.length;rw[<-y]at hn ai⊢;have g:=aa y;clear u j y;go_enter Tryz.func103,Tryz.ntmps103
 go_wp2_with fail
 go_loopw [3,8] (fun o i wr=>∃(k t:Nat) (p1:Option Addr),k<=n/\i=.int .i64 k/\o=.slice p1 (k*32) t/\wr.ownsRow w.heap.size 5 1 (.slice p1 (k*32) t) (k*32) (aj .u8 (ds.take k).flatten)/\au w wr) (fun _ i _=>n - (intOf i).toNat);case atStart=>exact⟨0,0,none,C9 _,rfl,rfl,⟨rfl,.inl ⟨rfl,rfl⟩⟩,CT _ _⟩
 case round=>
  obtain⟨k,t,p1,hk,rfl,rfl,a,J⟩:=hrel;have E:=aa a;have q:=aa J;clear a J;by_cases x:k < n
  ·obtain⟨b,o,c',hp,ac,ad,Y,K⟩:=et.pos (aX.ext N q) s (by rw[<-g.out];omega);injection hp with hp af ag;clear af ag;subst hp;have A:=dI K s (i:=k) (by rw[<-g.out];exact x);obtain⟨m,_⟩:=s.get (i:=k) (by rw[<-g.out];exact x);have G:=aa (jf ds k (by rw[<-g.out];exact x));obtain⟨d,j⟩:=exq (ds.getD k []);rw[<-j]at A m G;have D:=aa (aZ (P:=CO) (ty:=54) A DF (by kernel_rfl) m);have f:=aa m;clear A m j ac ad K Y
   go_wp2_with (with_reducible refine aV (ty:=54) ?_)
   refine ax ?_;refine ao rfl D ?_;have r:=aa (dk wr 32 .u8 54 zA rfl);have F:=aa (bo (P:=CO) (ty:=54) (k:=.u8) (l:=d) (n:=32) r.there (by kernel_rfl) f);have C:Hid (au wr ((wr.alloc (.cells zA 54)).setCells wr.heap.size 0 (aj .u8 d))):=aa (aA _ _ _ _ (ae _ _) (CU _));have V:Hid (((wr.alloc (.cells zA 54)).setCells wr.heap.size 0 (aj .u8 d)).rangeAt wr.heap.size 0 (aj .u8 d)):=aa (Dr _ _ _ _ (by rw[ints_length,f.out];exact r.there))
   go_wp2_with (with_reducible refine aC (ty:=54) ?_)
   refine ax ?_;refine ak rfl rfl F ?_;generalize X:(wr.alloc (.cells zA 54)).setCells wr.heap.size 0 (aj .u8 d)=W6 at*;clear X F r D;generalize wr.heap.size=s7 at*;have S:=aa (aN E C);have Q:Hid (Bu W6 .u8 (.slice (some ⟨s7,0,none⟩) 32 32) d):=aa (mW V f (by decide));have B:=aa (q.trans C)
   go_wp2_with (with_reducible refine av ?_)
   refine ax ?_;have R:Hid (aX W6 (.slice (some ⟨s7,0,none⟩) 32 32) 32 (aj .u8 d)):=aa (by have h:=Q.out;unfold Bu at h;rw[f.out]at h;exact h);refine bg aQ S R rfl rfl (by rw[ints_length,f.out]) (aE _ _) (by unfold Dc;omega) (by omega) B.size ?_;intro q3 d3 w3 z Z I W ar ap;have H:k*32+32=(k+1)*32:=by omega
   rw[H]at z⊢;have T:=aa z;have M:Hid (au w w3):=aa (DC B I);clear z Z I W H
   go_wp2_with fail
   go_roundw;case rel=>refine⟨k+1,d3,q3,by omega,by go_num,rfl,?_,M⟩;rw[G.out,List.flatten_append,List.flatten_singleton,aP];exact T
   case measure=>simp[intOf];omega
  ·obtain rfl:k=n:=by omega
   have a:=E.out;rw[CX (by rw[<-g.out];exact CU _)]at a;have U:=aa (aX.AS a)
   have O:Hid (ds.flatten.length=k*32):=aa (by
    have h:=a.1
    rw[ints_length]at h;omega)
   clear a
   go_wp2_with fail
   go_ret;exact⟨_,rfl,by show aX _ _ ds.flatten.length _;rw[O.out];exact U,q⟩
end Go.Proofs.Bl
