/- Walk of baileeref07.turn and baileeref07.Of (AUX). -/
import Derived.Test.YtglenbikdahgjaaGreatDoorPs04
set_option maxRecDepth 100000
set_option maxHeartbeats 16000000
open Go renaming World->CP,maxLen->Dc
open Go.IntWalk renaming i64_in->Fu
open Go.RowKit renaming Below->Et
open Go.RowKit.Below renaming refl->CT,trans->DC
open Go.Value renaming int->Dx
open Go.World renaming block_lt_of_cell?->CW,size_alloc->C4
open Int renaming add_comm->FY
open List renaming drop_zero->Gd,getD_eq_getElem?_getD->CR,range->DD,replicate->Dl,take_succ_cons->Gw,take_zero->Ek
open Nat renaming le_refl->CU,le_trans->Dk,zero_add->Dq,zero_le->C9
namespace Go.Proofs.Bl
open Go Go.RowKit Go.Proofs
open Go.Proofs.Tryz renaming prog->CO,underlying188->GD,underlying52->EA
theorem lI (n:Nat) (x:Int) (w:CP) (h:n<=32):
  Calls CO 132 #[.int .u32 x,.int .u64 n] w fun e w'=>e=.returned (.int .u32 (nL n x))/\w=w':=by
 have a:((32:Int) - (n:Int)).toNat=32 - n:=by omega
 go_enter Tryz.func132,Tryz.ntmps132
 go_wp2
 go_ret;refine⟨?_,rfl⟩;unfold nL;rw[mT];rfl
theorem kg (v:Value) (l:List Int) (w:CP) (hR:Bu w .u8 v l) (hg:dT w) (cp:bI l) (hlen:l.length<=1099511627776):
  Calls CO 85 #[v] w fun e w'=>e=.returned (.agg (aj .u8 (sha l)).toArray)/\au w w':=by
 obtain⟨p,c,dZ,eN,eM⟩:=hR.form;subst dZ;have Hv:=aa hR;have Hg:=aa hg;have cW:=aa cp;clear hR hg cp;go_enter Tryz.func85,Tryz.ntmps85;obtain⟨S,ai⟩:=exq (w.alloc (.cells zA 52));have ba:au w S:=by rw[ai];exact(CT _ _).alloc (CU _) _
 have bR:=aa (show dz S w.heap.size .u8 32 (fun _=>0)from by rw[ai];exact dk w 32 .u8 _ _ rfl);have bq:S.heap.size=w.heap.size+1:=by rw[ai];simp
 have bY:=aa ai;clear ai;have az:au S (S.alloc (.cells #[] 5)):=(CT _ _).alloc (CU _) _;have ho:=cX S 5 #[] S.heap.size 0 1 (CU _) (by decide) rfl;have bs:=Hv.ext (ba.trans az);rw[bq]at ho;rw[bY.out]at ho az bs;have Ho:=aa ho;have b9:=aa bs;have cP:=aa az;have b8:=aa bq;have bM:=aa ba;clear ho bs az ba bq
 go_wp2_with (with_reducible refine av ?_)
 refine ax ?_;refine bg aQ Ho b9 rfl rfl (by simp) (aE _ _) (by unfold Dc;omega) (by omega) (by simp) ?_;intro p1 X w1 bm dE a8 dp dN eB;have dU:=a8.size;simp only[C4]at dU;simp only[Dq,List.nil_append]at bm dN;have b7:=aa (aN bm (ae w1 (.cells #[.int .u8 128] 5)));have b5:=aa (eI w1 5 .u8 128);clear dp dE
 go_wp2_with (with_reducible refine av ?_)
 refine ax ?_;refine bg aQ b7 b5 rfl rfl (by simp) (aE _ _) (by unfold Dc;omega) (by omega) (by simp only[C4];omega) ?_;intro p2 Q T cA dF cg dq eF eC;have aD:Et (w.heap.size+1) S T:=by have h1:=DC (dY S (.cells #[] 5) (B:=w.heap.size+1) (by rw[b8.out];exact CU _)) (by rw[bY.out];exact a8);exact(h1.trans (dY w1 (.cells #[.int .u8 128] 5) (by omega))).trans cg
 have bS:=aa (bR.below aD (by omega));have bQ:Hid (au w T):=aa (DC bM (aD.mono (by omega)));have cG:w.heap.size+1<=T.heap.size:=by have:=aD.size;rw[b8.out]at this;exact this
 have cB:T.ownsRow (w.heap.size+1) 5 1 (.slice p2 (l.length+1+0) Q) (l.length+1+0) (aj .u8 (l++128 :: Dl 0 0)):=by rw[aP];exact cA
 clear cA dF cg dq aD bm a8 b7 b5 Ho b9 cP bR bM
 go_wp2_with fail
 go_loopw [3] (fun e wr=>∃(j:Nat) (p:Option Addr) (c:Nat),e=.slice p (l.length+1+j) c/\j<=dC l.length/\wr.ownsRow (w.heap.size+1) 5 1 (.slice p (l.length+1+j) c) (l.length+1+j) (aj .u8 (l++128 :: Dl j 0))/\Et (w.heap.size+1) T wr) (fun e _=>200 - (fZ e - l.length));case atStart=>exact⟨0,p2,Q,rfl,C9 _,cB,CT _ _⟩
 case round=>
  obtain⟨j,p,c,rfl,J,hr,H⟩:=hrel;clear cB;obtain⟨pr,cr,al,bl,dD⟩:=(aX.AS hr).form;obtain⟨rfl,rfl⟩:p=pr/\c=cr:=by cases al;exact⟨rfl,rfl⟩
  clear al;by_cases cu:j=dC l.length
  ·subst cu;have bp:((l.length:Int)+1+(dC l.length:Int)) % 64=56:=by unfold dC;omega
   have dS:(((l.length:Int)+1+(dC l.length:Int)) % 64 != 56)=false:=by rw[bp];rfl
   clear bp
   go_wp2_with fail
   have bU:=aa (bS.below H (by omega));have aU:Hid (au w wr):=aa (DC bQ (H.mono (by omega)));have cU:=aa (Hg.ext aU);have C:w.heap.size+1<=wr.heap.size:=Dk cG H.size;have hP:(l++128 :: Dl (dC l.length) (0:Int)).length=l.length+1+dC l.length:=by simp;omega
   have dR:dC l.length<=64:=by unfold dC;omega
   have hM:(l.length+1+dC l.length+8) % 64=0:=nU _;have du:l.length+1+dC l.length<=1099511627776+65:=by omega
   have cn:=aa (show kP l l.length=l++128 :: Dl (dC l.length) (0:Int)++je l.length from rfl);have eG:l.length+1+dC l.length<=c:=bl;generalize l.length+1+dC l.length=M at*;generalize dv:l++128 :: Dl (dC l.length) (0:Int)=P0 at*;have cC:wr.ownsRow (w.heap.size+1) 5 1 (.slice p (M+0) c) (M+0) (aj .u8 (P0++(je l.length).take 0)):=by simpa using hr
   clear H dS hr bl J bS bQ;go_loopw [3,5] (fun e dl ws=>∃(j:Nat) (p:Option Addr) (c:Nat),dl=.int .i64 (7 - (j:Int))/\j<=8/\e=.slice p (M+j) c/\ws.ownsRow (w.heap.size+1) 5 1 (.slice p (M+j) c) (M+j) (aj .u8 (P0++(je l.length).take j))/\Et (w.heap.size+1) wr ws) (fun _ i _=>(intOf i+1).toNat);case atStart=>exact⟨0,p,c,by simp,by omega,rfl,cC,CT _ _⟩
   case round=>
    obtain⟨j,q,d,rfl,J,rfl,hq,Z⟩:=hrel;obtain⟨pr,cr,al,bl,dD⟩:=(aX.AS hq).form;obtain⟨rfl,rfl⟩:q=pr/\d=cr:=by cases al;exact⟨rfl,rfl⟩
    clear al cC;by_cases dJ:j=8
    ·subst dJ;have bf:Hid (P0++(je l.length).take 8=kP l l.length):=aa (by rw[cn.out,List.take_of_length_le (by simp)]);rw[bf.out]at hq;have HL:=aa (aX.AS hq);have bP:Hid (au w wr):=aa (DC aU (Z.mono (by omega)));have bV:=aa (Hg.ext bP);have cS:=aa (bU.below Z (by omega));have eH:w.heap.size+1<=wr.heap.size:=Dk C Z.size;have cx:(kP l l.length).length=M+8:=by rw[<-bf.out,List.length_append,hP,List.length_take,lenb_length];rfl
     have ak:=aa (ri l.length cW);have cE:=aa (show sha l=(jB fJ (kP l l.length)).1.bytes from rfl);generalize ds:kP l l.length=L at*;have af:=aa cx;obtain⟨m8,cz⟩:∃m8,M+8=64*m8:=⟨(M+8) / 64,by omega⟩;have aY:=aa cz
     have cs:=aZ (P:=CO) (ty:=188) (e:=187) (k:=.u32) (l:=iv) (b:=8) (o:=0) (w:=wr) (n:=8) (fun j v hv=>by
       have J:j < 8:=by have:=(List.getElem?_eq_some_iff.1 hv).1;simpa[iv] using this
       rw[cJ _ _ _ (by simpa[iv] using J)]at hv;cases hv;rw[Dq]
       exact bV.B6 j J) GD (by as_aux_lemma=>kernel_rfl) rfl
     have b1:=aa cs;have ew:(M:Int)<=1099511627841:=by omega
     clear cs hq Z cx cz bU aU cU cn hP dv bf hM du dR
     go_wp2_with (with_reducible refine aV (ty:=188) ?_)
     refine ax ?_;refine ao rfl b1 ?_;have bc:=dk wr 8 .u32 188 (Dl 8 (Dx .u32 0)).toArray rfl;have K:=bo (P:=CO) (ty:=188) (k:=.u32) (l:=iv) (n:=8) bc.there (by as_aux_lemma=>kernel_rfl) rfl;have bd:=gJ bc iv rfl;have cj:au wr ((wr.alloc (.cells (Dl 8 (Dx .u32 0)).toArray 188)).setCells wr.heap.size 0 (aj .u32 iv)):=aA _ _ _ _ (ae _ _) (CU _);have cH:(wr.heap.size+1)<=((wr.alloc (.cells (Dl 8 (Dx .u32 0)).toArray 188)).setCells wr.heap.size 0 (aj .u32 iv)).heap.size:=by have:=CW _ _ (bd.1 0 (by decide));exact this
     have bT:=aa bd;have bO:=aa cj;have O:=aa K;clear bc K bd cj
     go_wp2_with (with_reducible refine aC (ty:=188) ?_)
     refine ax ?_;refine bG rfl rfl O ?_;generalize dy:(wr.alloc (.cells (Dl 8 (Dx .u32 0)).toArray 188)).setCells wr.heap.size 0 (aj .u32 iv)=WS at*;clear dy O;obtain⟨r,rfl⟩:∃r:CP,r=wr:=⟨_,rfl⟩;obtain⟨E,oo,cc,aK,_,_,dA,_,bk⟩:=Bu.pos (w:=r) (k:=.u8) (v:=.slice q (M+8) d) (l:=L) (by show aX _ _ _ _;rw[af.out];exact HL) (by rw[af.out];omega);rw[af.out]at aK bk;have aK:q=some ⟨E,oo,none⟩:=by injection aK
     subst aK;have cY:=aa bk;clear bk HL ds J b1
     go_wp2_with fail
     go_loopw [7] (fun a wr=>∃k:Nat,k<=m8/\a=.int .i64 ((64*k:Nat):Int)/\dz wr r.heap.size .u32 8 (fun i=>(ir L fJ (DD k)).l.getD i 0)/\Et r.heap.size r wr/\r.heap.size+1<=wr.heap.size) (fun a _=>M+8 - (intOf a).toNat);case atStart=>exact⟨0,C9 _,rfl,bT,bO,cH⟩
     case round=>
      obtain⟨k,hk,rfl,hF,H,C⟩:=hrel;clear bT bO cH;by_cases dL:k < m8
      ·obtain⟨z,hz⟩:=exq (ir L fJ (DD k));rw[<-hz]at hF;have Hz:=aa hz;have R:=aa hF;obtain⟨a,ha⟩:=exq (64*k);have ez:a+64<=M+8:=by rw[aY.out,ha];omega
       have ap:Hid (∀i,i < 64->wr.cell? ⟨E,oo+(a+i),none⟩=some (.int .u8 (L.getD (a+i) 0))):=aa (fun i F=>((ay H).1 E _ dA).trans (cY (a+i) (by omega)));rw[<-ha];have Ha:=aa ha;have ex:(a:Int) < (M:Int)+8:=by omega
       clear hz hF ha;obtain⟨m,rfl⟩:∃m:CP,m=wr:=⟨_,rfl⟩;have be:=dk m 64 .u32 189 (Dl 64 (Dx .u32 0)).toArray rfl;have K:=bo (P:=CO) (ty:=189) (k:=.u32) (l:=Dl 64 0) (n:=64) be.there ni (by simp);have ck:=gJ be (Dl 64 0) (by simp);have ci:au m ((m.alloc (.cells (Dl 64 (Dx .u32 0)).toArray 189)).setCells m.heap.size 0 (aj .u32 (Dl 64 0))):=aA _ _ _ _ (ae _ _) (CU _);have N:=aa ck;have bN:=aa ci;have O:=aa K;clear be K ck ci
       go_wp2_with (with_reducible refine aC (ty:=189) ?_)
       refine ax ?_;refine bG rfl rfl O ?_;generalize dw:(m.alloc (.cells (Dl 64 (Dx .u32 0)).toArray 189)).setCells m.heap.size 0 (aj .u32 (Dl 64 0))=WG at*;clear dw O
       go_wp2_with fail
       go_loopw [9] (fun i ws=>∃t:Nat,t<=16/\i=.int .i64 t/\dz ws m.heap.size .u32 64 (fun j=>if j < t then pJ ((L.drop (64*k)).take 64) j else 0)/\Et m.heap.size m ws) (fun i _=>16 - (intOf i).toNat);case atStart=>exact⟨0,by omega,rfl,N.congr (fun i F=>by rw[if_neg (by omega),CR,List.getElem?_replicate,if_pos F];rfl),bN⟩
       case round=>
        obtain⟨t,ht,rfl,A,U⟩:=hrel;clear N bN;by_cases dM:t < 16
        ·obtain⟨x0,aO⟩:=exq (L.getD (a+4*t) 0);obtain⟨x1,aR⟩:=exq (L.getD (a+4*t+1) 0);obtain⟨x2,aS⟩:=exq (L.getD (a+4*t+2) 0);obtain⟨x3,aT⟩:=exq (L.getD (a+4*t+3) 0);have bx:=wu L ak k t dM (by rw[af.out];have:=Ha.out;omega);rw[<-Ha.out,<-aO,<-aR,<-aS,<-aT]at bx;have c8:=aa bx;have y0:0<=x0/\x0<=255:=by rw[aO];exact ak.get _
         have y1:0<=x1/\x1<=255:=by rw[aR];exact ak.get _
         have y2:0<=x2/\x2<=255:=by rw[aS];exact ak.get _
         have y3:0<=x3/\x3<=255:=by rw[aT];exact ak.get _
         obtain⟨eU,eV⟩:=y0;obtain⟨eW,eX⟩:=y1;obtain⟨eY,eZ⟩:=y2;obtain⟨e0,e1⟩:=y3;have aG:E < m.heap.size:=by omega
         have k0:wr.cell? ⟨E,oo+(a+4*t),none⟩=some (.int .u8 x0):=by rw[(ay U).1 E _ aG,aO];exact ap (4*t) (by omega)
         have k1:wr.cell? ⟨E,oo+(a+4*t+1),none⟩=some (.int .u8 x1):=by rw[(ay U).1 E _ aG,aR];exact ap (4*t+1) (by omega)
         have k2:wr.cell? ⟨E,oo+(a+4*t+2),none⟩=some (.int .u8 x2):=by rw[(ay U).1 E _ aG,aS];exact ap (4*t+2) (by omega)
         have k3:wr.cell? ⟨E,oo+(a+4*t+3),none⟩=some (.int .u8 x3):=by rw[(ay U).1 E _ aG,aT];exact ap (4*t+3) (by omega)
         have eA:E < wr.heap.size:=CW _ _ k0;have d5:wr.cell? ⟨m.heap.size,t,none⟩=some (.int .u32 0):=by rw[A.1 t (by omega)];exact congrArg (fun v=>some (Dx .u32 v)) (if_neg (by omega))
         have d6:wr.frozen? ⟨m.heap.size,t,none⟩=false:=A.2 t;have N:=aa A;clear bx aO aR aS aT A;have b0:(0:Int)<=(a:Int)+4*(t:Int):=by omega
         have W:(a:Int)+4*(t:Int) < (M:Int)+8:=by omega
         have d0:((a:Int)+4*(t:Int)).toNat=a+4*t:=by omega
         have df:(0:Int)<=(a:Int)+4*(t:Int)+1:=by omega
         have X:(a:Int)+4*(t:Int)+1 < (M:Int)+8:=by omega
         have d1:((a:Int)+4*(t:Int)+1).toNat=a+4*t+1:=by omega
         have b2:(0:Int)<=(a:Int)+4*(t:Int)+2:=by omega
         have Q:(a:Int)+4*(t:Int)+2 < (M:Int)+8:=by omega
         have d2:((a:Int)+4*(t:Int)+2).toNat=a+4*t+2:=by omega
         have di:(0:Int)<=(a:Int)+4*(t:Int)+3:=by omega
         have c3:(a:Int)+4*(t:Int)+3 < (M:Int)+8:=by omega
         have d3:((a:Int)+4*(t:Int)+3).toNat=a+4*t+3:=by omega
         have t0:(0:Int)<=(t:Int):=by omega
         have t1:(t:Int) < 64:=by omega
         have t2:(t:Int) < 16:=by omega
         go_wp2_with fail
         refine gF 43 (by as_aux_lemma=>kernel_rfl) (by as_aux_lemma=>kernel_rfl) ?_;simp only[Gw,Ek,List.drop_succ_cons,Gd];repeat (first | go_big_quiet_skip | (go_big_quiet_want;go_big_quiet_op;first | go_big_quiet_on | (apply Exists.intro;refine⟨?_,?_⟩;(fail);go_big_quiet_on)))
         refine wpQuiet_nil ?_;clear k0 k1 k2 k3 b0 df b2 di W X Q c3 d0 d1 d2 d3
         go_wp2_with fail
         go_roundw;case rel=>
          refine⟨t+1,by omega,by go_num,?_,(U.drewN 1).setCell (by simp) _⟩;refine((N.drew 1).set t (by omega) _).congr (fun i F=> ?_);by_cases e:i=t
          ·subst e;rw[if_pos rfl,if_pos (by omega)];have h:=c8.out;rw[Ha.out]at h;exact h
          ·rw[if_neg e];by_cases e2:i < t
           ·rw[if_pos e2,if_pos (by omega)]
           ·rw[if_neg e2,if_neg (by omega)]
         case measure=>simp[intOf];omega
        ·obtain rfl:t=16:=by omega
         have cm:dz wr m.heap.size .u32 64 (fun j=>if j < 16 then Bx ((L.drop (64*k)).take 64) j else 0):=A.congr (fun i F=>by
          by_cases e:i < 16
          ·rw[if_pos e,if_pos e,xu _ _ e]
          ·rw[if_neg e,if_neg e])
         have N:=aa cm;clear A cm;obtain⟨u,bj⟩:=exq ((L.drop (64*k)).take 64);rw[<-bj]at N;have cV:=aa bj;clear bj
         go_wp2_with fail
         obtain⟨cM,rfl⟩:∃cM:CP,cM=wr:=⟨_,rfl⟩;go_loopw [10] (fun i ws=>∃t:Nat,16<=t/\t<=64/\i=.int .i64 t/\dz ws m.heap.size .u32 64 (fun j=>if j < t then Bx u j else 0)/\Et m.heap.size m ws) (fun i _=>64 - (intOf i).toNat);case atStart=>exact⟨16,by omega,by omega,rfl,N,U⟩
         case round=>
          obtain⟨t,dW,dX,rfl,A,I⟩:=hrel;clear N U;by_cases aI:t < 64
          ·have h2:wr.cell? ⟨m.heap.size,t - 2,none⟩=some (.int .u32 (Bx u (t - 2))):=by rw[A.1 _ (by omega)];exact congrArg (fun v=>some (Dx .u32 v)) (if_pos (by omega))
           have h7:wr.cell? ⟨m.heap.size,t - 7,none⟩=some (.int .u32 (Bx u (t - 7))):=by rw[A.1 _ (by omega)];exact congrArg (fun v=>some (Dx .u32 v)) (if_pos (by omega))
           have cd:wr.cell? ⟨m.heap.size,t - 15,none⟩=some (.int .u32 (Bx u (t - 15))):=by rw[A.1 _ (by omega)];exact congrArg (fun v=>some (Dx .u32 v)) (if_pos (by omega))
           have ce:wr.cell? ⟨m.heap.size,t - 16,none⟩=some (.int .u32 (Bx u (t - 16))):=by rw[A.1 _ (by omega)];exact congrArg (fun v=>some (Dx .u32 v)) (if_pos (by omega))
           have d6:wr.frozen? ⟨m.heap.size,t,none⟩=false:=A.2 t;have d5:wr.cell? ⟨m.heap.size,t,none⟩=some (.int .u32 0):=by rw[A.1 _ (by omega)];exact congrArg (fun v=>some (Dx .u32 v)) (if_neg (by omega))
           have b3:=aa (xv u t dW);obtain⟨v2,bv⟩:=exq (Bx u (t - 2));obtain⟨v7,bw⟩:=exq (Bx u (t - 7));obtain⟨eR,bt⟩:=exq (Bx u (t - 15));obtain⟨eS,bu⟩:=exq (Bx u (t - 16));rw[<-bv]at h2;rw[<-bw]at h7;rw[<-bt]at cd;rw[<-bu]at ce;rw[<-bv,<-bw,<-bt,<-bu]at b3;have N:=aa A;clear A bv bw bt bu;have a2:IntKind.i64.wrap ((t:Int) - 2)=(t:Int) - 2:=Fu _ (by omega);have b2:(0:Int)<=(t:Int) - 2:=by omega
           have q2:(2:Int)<=(t:Int):=by omega
           have Q:(t:Int) - 2 < 64:=by omega
           have d2:((t:Int) - 2).toNat=t - 2:=by omega
           have de:IntKind.i64.wrap ((t:Int) - 7)=(t:Int) - 7:=Fu _ (by omega);have dj:(0:Int)<=(t:Int) - 7:=by omega
           have q7:(7:Int)<=(t:Int):=by omega
           have c7:(t:Int) - 7 < 64:=by omega
           have d7:((t:Int) - 7).toNat=t - 7:=by omega
           have dc:IntKind.i64.wrap ((t:Int) - 15)=(t:Int) - 15:=Fu _ (by omega);have dg:(0:Int)<=(t:Int) - 15:=by omega
           have ec:(15:Int)<=(t:Int):=by omega
           have dm:(t:Int) - 15 < 64:=by omega
           have d15:((t:Int) - 15).toNat=t - 15:=by omega
           have dd:IntKind.i64.wrap ((t:Int) - 16)=(t:Int) - 16:=Fu _ (by omega);have dh:(0:Int)<=(t:Int) - 16:=by omega
           have ed:(16:Int)<=(t:Int):=by omega
           have dn:(t:Int) - 16 < 64:=by omega
           have d16:((t:Int) - 16).toNat=t - 16:=by omega
           have b0:(0:Int)<=(t:Int):=by omega
           have W:(t:Int) < 64:=by omega
           go_wp2_with fail
           go_quiet (fail)
           go_wp2_with fail
           refine gF 29 (by as_aux_lemma=>kernel_rfl) (by as_aux_lemma=>kernel_rfl) ?_;simp only[Gw,Ek,List.drop_succ_cons,Gd];repeat (first | go_big_quiet_skip | (go_big_quiet_want;go_big_quiet_op;first | go_big_quiet_on | (apply Exists.intro;refine⟨?_,?_⟩;((go_at_call 132;refine(lI _ _ _ (by decide)).mono ?_;rintro e T ⟨rfl,rfl⟩;exact⟨rfl,rfl⟩));go_big_quiet_on)))
           refine wpQuiet_nil ?_;clear a2 b2 q2 Q d2 de dj q7 c7 d7 dc dg ec dm d15 dd dh ed dn d16 h2 h7 cd ce
           go_wp2_with fail
           go_roundw;case rel=>
            refine⟨t+1,by omega,by omega,by go_num,?_,((I.drewN _).drewN 1).setCell (by simp) _⟩;refine(((N.drew _).drew 1).set t (by omega) _).congr (fun i F=> ?_);by_cases e:i=t
            ·subst e;rw[if_pos rfl,if_pos (by omega),b3.out];unfold ad xt xr;simp only[show(2:Int)^10=1024 from rfl,show(2:Int)^3=8 from rfl];omega
            ·rw[if_neg e];by_cases e2:i < t
             ·rw[if_pos e2,if_pos (by omega)]
             ·rw[if_neg e2,if_neg (by omega)]
           case measure=>simp[intOf];omega
          ·obtain rfl:t=64:=by omega
           have W:wr.cell? ⟨r.heap.size,0,none⟩=some (.int .u32 z.a):=((ay I).1 _ _ C).trans (R.1 0 (by decide));have X:wr.cell? ⟨r.heap.size,1,none⟩=some (.int .u32 z.b):=((ay I).1 _ _ C).trans (R.1 1 (by decide));have Q:wr.cell? ⟨r.heap.size,2,none⟩=some (.int .u32 z.c):=((ay I).1 _ _ C).trans (R.1 2 (by decide));have c3:wr.cell? ⟨r.heap.size,3,none⟩=some (.int .u32 z.d):=((ay I).1 _ _ C).trans (R.1 3 (by decide));have Y:wr.cell? ⟨r.heap.size,4,none⟩=some (.int .u32 z.e):=((ay I).1 _ _ C).trans (R.1 4 (by decide));have c5:wr.cell? ⟨r.heap.size,5,none⟩=some (.int .u32 z.f):=((ay I).1 _ _ C).trans (R.1 5 (by decide));have c6:wr.cell? ⟨r.heap.size,6,none⟩=some (.int .u32 z.g):=((ay I).1 _ _ C).trans (R.1 6 (by decide));have c7:wr.cell? ⟨r.heap.size,7,none⟩=some (.int .u32 z.h):=((ay I).1 _ _ C).trans (R.1 7 (by decide));have cK:∀i,i < 64->wr.cell? ⟨m.heap.size,i,none⟩=some (.int .u32 (Bx u i)):=fun i F=>by rw[A.1 _ F];exact congrArg (fun v=>some (Dx .u32 v)) (if_pos F)
           have a4:=aa cK;clear A cK
           go_wp2_with fail
           go_quiet (fail)
           clear W X Q c3 Y c5 c6 c7
           go_wp2_with fail
           have aw:Et m.heap.size m (wr.drewN nq):=I.drewN _;have ca:Hid (∀i,i < 64->(wr.drewN nq).cell? ⟨m.heap.size,i,none⟩=some (.int .u32 (Bx u i))):=aa (fun i F=>by rw[(ay ((CT wr.heap.size wr).drewN nq)).1 _ _ (CW _ _ (a4.out 0 (by decide)))];exact a4 i F);have aq:Hid (m.heap.size+1<=(wr.drewN nq).heap.size):=aa (CW _ _ (ca 0 (by decide)));clear I a4;generalize d4:wr.drewN nq=wz at*;clear d4;go_loopw [21,13,14,15,16,17,18,19,20] (fun i va vb vc vd ve vf vg vh ws=>∃(t:Nat) (s:St),t<=64/\i=.int .i64 t/\va=.int .u32 s.a/\vb=.int .u32 s.b/\vc=.int .u32 s.c/\vd=.int .u32 s.d/\ve=.int .u32 s.e/\vf=.int .u32 s.f/\vg=.int .u32 s.g/\vh=.int .u32 s.h/\Hid (s=pK z (Bw u 64) t)/\au wz ws) (fun i _ _ _ _ _ _ _ _ _=>64 - (intOf i).toNat);case atStart=>exact⟨0,z,by omega,rfl,rfl,rfl,rfl,rfl,rfl,rfl,rfl,rfl,rfl,CT _ _⟩
           case round=>
            obtain⟨t,s,dX,rfl,rfl,rfl,rfl,rfl,rfl,rfl,rfl,rfl,hs,V⟩:=hrel;by_cases aI:t < 64
            ·have hw:wr.cell? ⟨m.heap.size,t,none⟩=some (.int .u32 (Bx u t)):=by rw[(ay V).1 _ _ aq.out];exact ca t aI
             have ct:dT wr:=bV.ext (au.trans (DC (H.mono (CU _)) (aw.mono (by omega))) V);have hk:wr.cell? ⟨9,t,none⟩=some (.int .u32 (kt.getD t 0)):=ct.Cd t aI
             have a3:=aa (show yw s (kt.getD t 0) (Bx u t)=pK z (Bw u 64) (t+1)from by
              show _=yw (pK z (Bw u 64) t) (kt.getD t 0) ((Bw u 64).getD t 0)
              rw[jA _ _ _ aI,<-hs.out])
             obtain⟨kk,cv⟩:=exq (kt.getD t 0);obtain⟨wv,cI⟩:=exq (Bx u t);rw[<-cv]at hk a3;rw[<-cI]at hw a3;clear cv cI ct;have eK:(0:Int)<=(t:Int):=by omega
             have eL:(t:Int) < 64:=by omega
             go_wp2_with fail
             refine gF 27 (by as_aux_lemma=>kernel_rfl) (by as_aux_lemma=>kernel_rfl) ?_;simp only[Gw,Ek,List.drop_succ_cons,Gd];repeat (first | go_big_quiet_skip | (go_big_quiet_want;go_big_quiet_op;first | go_big_quiet_on | (apply Exists.intro;refine⟨?_,?_⟩;((go_at_call 132;refine(lI _ _ _ (by decide)).mono ?_;rintro e T ⟨rfl,rfl⟩;exact⟨rfl,rfl⟩));go_big_quiet_on)))
             refine wpQuiet_nil ?_;clear hk hw
             go_wp2_with (go_at_call 132;refine(lI _ _ _ (by decide)).mono ?_;rintro e T ⟨rfl,rfl⟩)
             go_roundw;case rel=>refine⟨_,_,_,_,_,_,_,_,_,⟨t+1,by omega,rfl,yw s kk wv,rfl,rfl,rfl,rfl,rfl,rfl,rfl,rfl,a3,V.drewN 1⟩,rfl,rfl,rfl,rfl,rfl,rfl,rfl,rfl,by go_num⟩
             case measure=>simp[intOf];omega
            ·obtain rfl:t=64:=by omega
             have y:dz wr r.heap.size .u32 8 (fun i=>z.l.getD i 0):=(R.below aw C).below V (by have:=aq.out;omega);have W:wr.cell? ⟨r.heap.size,0,none⟩=some (.int .u32 z.a):=y.1 0 (by decide);have f0:wr.frozen? ⟨r.heap.size,0,none⟩=false:=y.2 0;have X:wr.cell? ⟨r.heap.size,1,none⟩=some (.int .u32 z.b):=y.1 1 (by decide);have f1:wr.frozen? ⟨r.heap.size,1,none⟩=false:=y.2 1;have Q:wr.cell? ⟨r.heap.size,2,none⟩=some (.int .u32 z.c):=y.1 2 (by decide);have f2:wr.frozen? ⟨r.heap.size,2,none⟩=false:=y.2 2;have c3:wr.cell? ⟨r.heap.size,3,none⟩=some (.int .u32 z.d):=y.1 3 (by decide);have f3:wr.frozen? ⟨r.heap.size,3,none⟩=false:=y.2 3;have Y:wr.cell? ⟨r.heap.size,4,none⟩=some (.int .u32 z.e):=y.1 4 (by decide);have f4:wr.frozen? ⟨r.heap.size,4,none⟩=false:=y.2 4;have c5:wr.cell? ⟨r.heap.size,5,none⟩=some (.int .u32 z.f):=y.1 5 (by decide);have f5:wr.frozen? ⟨r.heap.size,5,none⟩=false:=y.2 5;have c6:wr.cell? ⟨r.heap.size,6,none⟩=some (.int .u32 z.g):=y.1 6 (by decide);have f6:wr.frozen? ⟨r.heap.size,6,none⟩=false:=y.2 6;have c7:wr.cell? ⟨r.heap.size,7,none⟩=some (.int .u32 z.h):=y.1 7 (by decide);have f7:wr.frozen? ⟨r.heap.size,7,none⟩=false:=y.2 7;have cT:=aa y;have c2:Hid (r.heap.size+1<=wr.heap.size):=aa (by have:=aq.out;have:=V.size;omega);have cO:Hid (Et r.heap.size r wr):=aa ((H.trans (aw.mono (by omega))).trans (V.mono (by have:=aq.out;omega)));clear y V aw;have ey:(a:Int)+64<=(M:Int)+8:=by omega
             go_wp2_with fail
             go_roundw;case rel=>
              refine⟨k+1,by omega,congrArg (Dx .i64) (by have:=Ha.out;omega),?_,lf cO _ (CU _) _ _ _ _ _ _ _ _,by simpa using c2.out⟩;refine(cT.BI _ _ _ _ _ _ _ _).congr (fun i F=> ?_);have dQ:ir L fJ (DD (k+1))=zg s z:=by
               have h1:ir L fJ (DD (k+1))=cZ z u:=by rw[Hz.out,cV.out,List.range_succ];simp[ir]
               rw[h1];unfold cZ;rw[<-hs.out]
              rw[dQ]
              match i,F with
              | 0,_=>exact congrArg (· % 4294967296) (FY _ _)
              | 1,_=>exact congrArg (· % 4294967296) (FY _ _)
              | 2,_=>exact congrArg (· % 4294967296) (FY _ _)
              | 3,_=>exact congrArg (· % 4294967296) (FY _ _)
              | 4,_=>exact congrArg (· % 4294967296) (FY _ _)
              | 5,_=>exact congrArg (· % 4294967296) (FY _ _)
              | 6,_=>exact congrArg (· % 4294967296) (FY _ _)
              | 7,_=>exact congrArg (· % 4294967296) (FY _ _)
             case measure=>simp[intOf];omega
      ·obtain rfl:k=m8:=by omega
       have hend:=kA k L fJ (by rw[af.out,aY.out]);obtain⟨D,bB⟩:=exq ((jB fJ L).1);rw[hend,<-bB]at hF;have c1:Hid (sha l=D.bytes):=aa (by rw[bB];exact cE);rw[<-aY.out];clear hend bB dL cE hk;have cD:wr.rangeAt r.heap.size 0 (aj .u32 D.l):=by have h:=hF.range;have e:(DD 8).map (fun i=>D.l.getD i 0)=D.l:=rfl;rw[e]at h;exact h
       obtain⟨m,rfl⟩:∃m:CP,m=wr:=⟨_,rfl⟩;have hO:=dk m 32 .u8 52 (Dl 32 (Dx .u8 0)).toArray rfl;have K:=bo (P:=CO) (ty:=52) (k:=.u8) (l:=Dl 32 0) (n:=32) hO.there (by as_aux_lemma=>kernel_rfl) (by simp);have cl:=gJ hO (Dl 32 0) (by simp);have bb:au m ((m.alloc (.cells (Dl 32 (Dx .u8 0)).toArray 52)).setCells m.heap.size 0 (aj .u8 (Dl 32 0))):=aA _ _ _ _ (ae _ _) (CU _);have cw:=aZ (P:=CO) (ty:=188) (aL cD bb) GD (by as_aux_lemma=>kernel_rfl) rfl;have aW:=aa cl;have cQ:=aa bb;have O:=aa K;have b4:=aa cw;clear hO K cl bb cw cD hF;have dP:decide ((M:Int)+8 < (M:Int)+8)=false:=decide_eq_false (by omega)
       go_wp2_with (with_reducible refine aC (ty:=52) ?_)
       refine ax ?_;refine bG rfl rfl O ?_;generalize dx:(m.alloc (.cells (Dl 32 (Dx .u8 0)).toArray 52)).setCells m.heap.size 0 (aj .u8 (Dl 32 0))=WO at*;clear dx O dP
       go_wp2_with ((with_reducible refine ao ?_ b4.out ?_);rfl)
       clear b4;go_loopw [273] (fun i' ws=>∃i:Nat,i'=.int .i64 i/\i<=8/\dz ws m.heap.size .u8 32 (fun j=>if j < 4*i then D.byte j else 0)/\Et m.heap.size WO ws) (fun i' _=>8 - (intOf i').toNat);case atStart=>exact⟨0,rfl,by omega,aW.congr (fun j J=>by rw[if_neg (by omega),CR,List.getElem?_replicate,if_pos J];rfl),CT _ _⟩
       case round=>
        obtain⟨i,rfl,F,G,ch⟩:=hrel;by_cases dH:i=8
        ·subst dH;have a7:Et r.heap.size r wr:=(H.trans (cQ.mono (by omega))).trans (ch.mono (by omega));have cy:=aZ (P:=CO) (ty:=52) (G.range) EA (by as_aux_lemma=>kernel_rfl) (by simp);have bW:=aa (cS.below a7 (by omega));have K:=bo (P:=CO) (k:=.u8) (ty:=52) (l:=(DD 32).map (fun j=>if j < 4*8 then D.byte j else 0)) bW.there (by as_aux_lemma=>kernel_rfl) (by simp);have c0:=aa cy;have O:=aa K;have cN:=aa a7;clear G cy K a7 aW
         go_wp2_with (first | ((with_reducible refine ao ?_ c0.out ?_);rfl) | ((with_reducible refine bG ?_ ?_ O.out ?_);rfl;rfl))
         have dI:(wr.setCells w.heap.size 0 (aj .u8 ((DD 32).map (fun j=>if j < 4*8 then D.byte j else 0)))).rangeAt w.heap.size 0 (aj .u8 ((DD 32).map (fun j=>if j < 4*8 then D.byte j else 0))):=World.rangeAt_setCells_same _ _ _ _ (by simpa using bW.out.there);have dK:=run_loadVar_mid (P:=CO) _ w.heap.size 0 52 _ _ dI EA rfl (by rw[ints_length,List.length_map,List.length_range];kernel_rfl);refine bodyPost_ret (v:=.agg (aj .u8 ((DD 32).map (fun j=>if j < 4*8 then D.byte j else 0))).toArray) (aB rfl rfl dK) rfl ⟨?_,?_⟩
         ·rw[c1.out,St.BW]
         ·exact aA _ _ _ _ (DC bP (cN.mono (by omega))) (CU _)
        ·have bz:(Instr.index 188 (.agg (aj .u32 D.l).toArray) (.int .i64 i)).run CO wr=.ok (.int .u32 (D.l.getD i 0)) wr:=iZ GD (fun w=>by simp[go_sem]) (fun w=>by simp[go_sem]) rfl (by omega);obtain⟨x,hx⟩:=exq (D.l.getD i 0);rw[<-hx]at bz;have Hx:=aa hx;have da:=aa bz;have W:wr.cell? ⟨m.heap.size,4*i,none⟩=some (.int .u8 0):=by rw[G.1 _ (by omega)];exact congrArg (fun v=>some (Dx .u8 v)) (if_neg (by omega))
         have X:wr.cell? ⟨m.heap.size,4*i+1,none⟩=some (.int .u8 0):=by rw[G.1 _ (by omega)];exact congrArg (fun v=>some (Dx .u8 v)) (if_neg (by omega))
         have Q:wr.cell? ⟨m.heap.size,4*i+2,none⟩=some (.int .u8 0):=by rw[G.1 _ (by omega)];exact congrArg (fun v=>some (Dx .u8 v)) (if_neg (by omega))
         have c3:wr.cell? ⟨m.heap.size,4*i+3,none⟩=some (.int .u8 0):=by rw[G.1 _ (by omega)];exact congrArg (fun v=>some (Dx .u8 v)) (if_neg (by omega))
         have f0:wr.frozen? ⟨m.heap.size,4*i,none⟩=false:=G.2 _;have f1:wr.frozen? ⟨m.heap.size,4*i+1,none⟩=false:=G.2 _;have f2:wr.frozen? ⟨m.heap.size,4*i+2,none⟩=false:=G.2 _;have f3:wr.frozen? ⟨m.heap.size,4*i+3,none⟩=false:=G.2 _;have cR:=aa G;clear G hx bz aW;have i0:(0:Int)<=(i:Int):=by omega
         have i8:(i:Int) < 8:=by omega
         have n0:(4*(i:Int)).toNat=4*i:=by omega
         have n1:(4*(i:Int)+1).toNat=4*i+1:=by omega
         have n2:(4*(i:Int)+2).toNat=4*i+2:=by omega
         have n3:(4*(i:Int)+3).toNat=4*i+3:=by omega
         go_wp2_with ((with_reducible refine jY (p:=.agg (aj .u32 D.l).toArray) (v:=.int .i64 i) ?_ ?_ da.out ?_);rfl;rfl)
         go_roundw;case rel=>refine⟨i+1,by go_num,by omega,?_,(((ch.setCell (by simp) _).setCell (by simp) _).setCell (by simp) _).setCell (by simp) _⟩;refine((((cR.set (4*i) (by omega) _).set (4*i+1) (by omega) _).set (4*i+2) (by omega) _).set (4*i+3) (by omega) _).congr (fun j J=> ?_);rw[Hx.out];exact yT D i j
         case measure=>simp[intOf];omega
    ·have eE:(0:Int)<=7 - (j:Int):=by omega
     have dV:w.heap.size+1<=wr.heap.size:=Dk C Z.size;have h8:(8*(7 - (j:Int))).toNat=56 - 8*j:=by omega
     have ev:(0:Int)<=8*(7 - (j:Int)):=by omega
     go_wp2_with (with_reducible refine av ?_)
     refine ax ?_;have Hr:=aa (aN hq (ae wr (.cells #[.int .u8 ((l.length:Int)*8 / 2^(56 - 8*j) % 256)] 5)));have a0:=aa (eI wr 5 .u8 ((l.length:Int)*8 / 2^(56 - 8*j) % 256));refine bg aQ Hr a0 rfl rfl (by simp) (aE _ _) (by unfold Dc;omega) (by omega) (by simp only[C4];omega) ?_;intro p4 Y w4 bn dG a9 dr dO dB
     go_wp2_with fail
     go_roundw;case rel=>refine⟨j+1,p4,Y,by rw[show(7:Int) - ((j+1:Nat):Int)=7 - (j:Int) - 1 from by omega],by omega,rfl,?_,(Z.trans (dY _ _ dV)).trans a9⟩;rw[mv l.length j (by omega),<-List.append_assoc,aP];exact bn
     case measure=>simp[intOf];omega
  ·have bp:((l.length:Int)+1+(j:Int)) % 64≠56:=by unfold dC at J cu;omega
   have eD:j<=64:=by unfold dC at J;omega
   have C:w.heap.size+1<=wr.heap.size:=Dk cG H.size;have Hr:=aa (aN hr (ae wr (.cells #[.int .u8 0] 5)));have a0:=aa (eI wr 5 .u8 0)
   go_wp2_with (with_reducible refine av ?_)
   refine ax ?_;refine bg aQ Hr a0 rfl rfl (by simp) (aE _ _) (by unfold Dc;omega) (by omega) (by simp only[C4];omega) ?_;intro p4 Y w4 bn dG a9 dr dO dB
   go_wp2_with fail
   go_roundw;case rel=>refine⟨j+1,p4,Y,rfl,by omega,?_,(H.trans (dY _ _ C)).trans a9⟩;rw[show l++128 :: Dl (j+1) (0:Int)=(l++128 :: Dl j 0)++[0]from by simp[List.replicate_succ'],aP];exact bn
   case measure=>simp only[fZ];omega
end Go.Proofs.Bl
