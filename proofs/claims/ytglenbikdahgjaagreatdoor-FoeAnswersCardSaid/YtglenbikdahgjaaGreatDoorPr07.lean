/- Walk of baileeref07.turn and baileeref07.Of (AUX). -/
import Derived.Test.YtglenbikdahgjaaGreatDoorPr04
set_option maxRecDepth 100000
set_option maxHeartbeats 16000000
open Go renaming World->DF,maxLen->DV
open Go.IntWalk renaming i64_in->Gl
open Go.RowKit renaming Below->EZ,intOf->Ef
open Go.RowKit.Below renaming refl->DI,trans->Ei
open Go.Value renaming int->Ej
open Go.World renaming block_lt_of_cell?->DM,size_alloc->DO
open Int renaming add_comm->GZ
open List renaming getD_eq_getElem?_getD->DJ,range->Eh,replicate->D7,take_succ_cons->Im,take_zero->E4
open Nat renaming le_refl->DH,le_trans->D0,zero_add->DY,zero_le->DZ
namespace Go.Proofs.Bl
open Go Go.RowKit Go.Proofs
open Go.Proofs.Tryz renaming prog->DE,underlying188->Iz,underlying52->FJ
theorem lY (n:Nat) (x:Int) (w:DF) (h:n<=32):
  Calls DE 132 #[.int .u32 x,.int .u64 n] w fun e w'=>e=.returned (.int .u32 (oI n x))/\w=w':=by
 have a:((32:Int) - (n:Int)).toNat=32 - n:=by omega
 go_enter Tryz.func132,Tryz.ntmps132
 go_wp2
 go_ret;refine⟨?_,rfl⟩;unfold oI;rw[nY];rfl
theorem kC (v:Value) (l:List Int) (w:DF) (hR:Rd w .u8 v l) (hg:dX w) (cp:bA l) (hlen:l.length<=1099511627776):
  Calls DE 85 #[v] w fun e w'=>e=.returned (.agg (ao .u8 (sha l)).toArray)/\az w w':=by
 obtain⟨p,c,dY,eL,eK⟩:=hR.form;subst dY;have Hv:=aa hR;have Hg:=aa hg;have cW:=aa cp;clear hR hg cp;go_enter Tryz.func85,Tryz.ntmps85;obtain⟨S,ai⟩:=exq (w.alloc (.cells zA 52));have a9:az w S:=by rw[ai];exact(DI _ _).alloc (DH _) _
 have bQ:=aa (show dB S w.heap.size .u8 32 (fun _=>0)from by rw[ai];exact dq w 32 .u8 _ _ rfl);have bo:S.heap.size=w.heap.size+1:=by rw[ai];simp
 have bY:=aa ai;clear ai;have aw:az S (S.alloc (.cells #[] 5)):=(DI _ _).alloc (DH _) _;have ho:=bW S 5 #[] S.heap.size 0 1 (DH _) (by decide) rfl;have bq:=Hv.ext (a9.trans aw);rw[bo]at ho;rw[bY.out]at ho aw bq;have Ho:=aa ho;have b9:=aa bq;have cO:=aa aw;have b8:=aa bo;have bK:=aa a9;clear ho bq aw a9 bo
 go_wp2_with (with_reducible refine ax ?_)
 refine au ?_;refine aZ aO Ho b9 rfl rfl (by simp) (aF _ _) (by unfold DV;omega) (by omega) (by simp) ?_;intro p1 X w1 bl dD a7 dn dN eA;have dT:=a7.size;simp only[DO]at dT;simp only[DY,List.nil_append]at bl dN;have b7:=aa (aR bl (ae w1 (.cells #[.int .u8 128] 5)));have b5:=aa (fe w1 5 .u8 128);clear dn dD
 go_wp2_with (with_reducible refine ax ?_)
 refine au ?_;refine aZ aO b7 b5 rfl rfl (by simp) (aF _ _) (by unfold DV;omega) (by omega) (by simp only[DO];omega) ?_;intro p2 Q T cA dE cg dp eE eB;have ay:EZ (w.heap.size+1) S T:=by have h1:=Ei (cV S (.cells #[] 5) (B:=w.heap.size+1) (by rw[b8.out];exact DH _)) (by rw[bY.out];exact a7);exact(h1.trans (cV w1 (.cells #[.int .u8 128] 5) (by omega))).trans cg
 have bR:=aa (bQ.below ay (by omega));have bP:Hid (az w T):=aa (Ei bK (ay.mono (by omega)));have cG:w.heap.size+1<=T.heap.size:=by have:=ay.size;rw[b8.out]at this;exact this
 have cB:T.ownsRow (w.heap.size+1) 5 1 (.slice p2 (l.length+1+0) Q) (l.length+1+0) (ao .u8 (l++128 :: D7 0 0)):=by rw[aT];exact cA
 clear cA dE cg dp ay bl a7 b7 b5 Ho b9 cO bQ bK
 go_wp2_with fail
 go_loopw [3] (fun e wr=>∃(j:Nat) (p:Option Addr) (c:Nat),e=.slice p (l.length+1+j) c/\j<=dF l.length/\wr.ownsRow (w.heap.size+1) 5 1 (.slice p (l.length+1+j) c) (l.length+1+j) (ao .u8 (l++128 :: D7 j 0))/\EZ (w.heap.size+1) T wr) (fun e _=>200 - (gk e - l.length));case atStart=>exact⟨0,p2,Q,rfl,DZ _,cB,DI _ _⟩
 case round=>
  obtain⟨j,p,c,rfl,J,hr,H⟩:=hrel;clear cB;obtain⟨pr,cr,al,bk,dC⟩:=(bh.AS hr).form;obtain⟨rfl,rfl⟩:p=pr/\c=cr:=by cases al;exact⟨rfl,rfl⟩
  clear al;by_cases cu:j=dF l.length
  ·subst cu;have bn:((l.length:Int)+1+(dF l.length:Int)) % 64=56:=by unfold dF;omega
   have dS:(((l.length:Int)+1+(dF l.length:Int)) % 64 != 56)=false:=by rw[bn];rfl
   clear bn
   go_wp2_with fail
   have bT:=aa (bR.below H (by omega));have aV:Hid (az w wr):=aa (Ei bP (H.mono (by omega)));have cT:=aa (Hg.ext aV);have C:w.heap.size+1<=wr.heap.size:=D0 cG H.size;have hP:(l++128 :: D7 (dF l.length) (0:Int)).length=l.length+1+dF l.length:=by simp;omega
   have dR:dF l.length<=64:=by unfold dF;omega
   have hM:(l.length+1+dF l.length+8) % 64=0:=oT _;have du:l.length+1+dF l.length<=1099511627776+65:=by omega
   have cn:=aa (show lj l l.length=l++128 :: D7 (dF l.length) (0:Int)++js l.length from rfl);have eF:l.length+1+dF l.length<=c:=bk;generalize l.length+1+dF l.length=M at*;generalize dv:l++128 :: D7 (dF l.length) (0:Int)=P0 at*;have cC:wr.ownsRow (w.heap.size+1) 5 1 (.slice p (M+0) c) (M+0) (ao .u8 (P0++(js l.length).take 0)):=by simpa using hr
   clear H dS hr bk J bR bP;go_loopw [3,5] (fun e dk ws=>∃(j:Nat) (p:Option Addr) (c:Nat),dk=.int .i64 (7 - (j:Int))/\j<=8/\e=.slice p (M+j) c/\ws.ownsRow (w.heap.size+1) 5 1 (.slice p (M+j) c) (M+j) (ao .u8 (P0++(js l.length).take j))/\EZ (w.heap.size+1) wr ws) (fun _ i _=>(Ef i+1).toNat);case atStart=>exact⟨0,p,c,by simp,by omega,rfl,cC,DI _ _⟩
   case round=>
    obtain⟨j,q,d,rfl,J,rfl,hq,Z⟩:=hrel;obtain⟨pr,cr,al,bk,dC⟩:=(bh.AS hq).form;obtain⟨rfl,rfl⟩:q=pr/\d=cr:=by cases al;exact⟨rfl,rfl⟩
    clear al cC;by_cases dJ:j=8
    ·subst dJ;have be:Hid (P0++(js l.length).take 8=lj l l.length):=aa (by rw[cn.out,List.take_of_length_le (by simp)]);rw[be.out]at hq;have HL:=aa (bh.AS hq);have bO:Hid (az w wr):=aa (Ei aV (Z.mono (by omega)));have bU:=aa (Hg.ext bO);have cR:=aa (bT.below Z (by omega));have eG:w.heap.size+1<=wr.heap.size:=D0 C Z.size;have cx:(lj l l.length).length=M+8:=by rw[<-be.out,List.length_append,hP,List.length_take,lenb_length];rfl
     have aj:=aa (sr l.length cW);have cE:=aa (show sha l=(jN fT (lj l l.length)).1.bytes from rfl);generalize ds:lj l l.length=L at*;have af:=aa cx;obtain⟨m8,cz⟩:∃m8,M+8=64*m8:=⟨(M+8) / 64,by omega⟩;have aX:=aa cz
     have cs:=bC (P:=DE) (ty:=188) (e:=187) (k:=.u32) (l:=iv) (b:=8) (o:=0) (w:=wr) (n:=8) (fun j v hv=>by
       have J:j < 8:=by have:=(List.getElem?_eq_some_iff.1 hv).1;simpa[iv] using this
       rw[cX _ _ _ (by simpa[iv] using J)]at hv;cases hv;rw[DY]
       exact bU.CT j J) Iz (by as_aux_lemma=>kernel_rfl) rfl
     have b1:=aa cs;have ev:(M:Int)<=1099511627841:=by omega
     clear cs hq Z cx cz bT aV cT cn hP dv be hM du dR
     go_wp2_with (with_reducible refine aA (ty:=188) ?_)
     refine au ?_;refine ak rfl b1 ?_;have bb:=dq wr 8 .u32 188 (D7 8 (Ej .u32 0)).toArray rfl;have K:=bu (P:=DE) (ty:=188) (k:=.u32) (l:=iv) (n:=8) bb.there (by as_aux_lemma=>kernel_rfl) rfl;have bc:=gM bb iv rfl;have cj:az wr ((wr.alloc (.cells (D7 8 (Ej .u32 0)).toArray 188)).setCells wr.heap.size 0 (ao .u32 iv)):=aE _ _ _ _ (ae _ _) (DH _);have cH:(wr.heap.size+1)<=((wr.alloc (.cells (D7 8 (Ej .u32 0)).toArray 188)).setCells wr.heap.size 0 (ao .u32 iv)).heap.size:=by have:=DM _ _ (bc.1 0 (by decide));exact this
     have bS:=aa bc;have bN:=aa cj;have O:=aa K;clear bb K bc cj
     go_wp2_with (with_reducible refine aC (ty:=188) ?_)
     refine au ?_;refine bM rfl rfl O ?_;generalize dy:(wr.alloc (.cells (D7 8 (Ej .u32 0)).toArray 188)).setCells wr.heap.size 0 (ao .u32 iv)=WS at*;clear dy O;obtain⟨r,rfl⟩:∃r:DF,r=wr:=⟨_,rfl⟩;obtain⟨E,oo,cc,aM,_,_,dz,_,bj⟩:=Rd.pos (w:=r) (k:=.u8) (v:=.slice q (M+8) d) (l:=L) (by show bh _ _ _ _;rw[af.out];exact HL) (by rw[af.out];omega);rw[af.out]at aM bj;have aM:q=some ⟨E,oo,none⟩:=by injection aM
     subst aM;have cY:=aa bj;clear bj HL ds J b1
     go_wp2_with fail
     go_loopw [7] (fun a wr=>∃k:Nat,k<=m8/\a=.int .i64 ((64*k:Nat):Int)/\dB wr r.heap.size .u32 8 (fun i=>(iC L fT (Eh k)).l.getD i 0)/\EZ r.heap.size r wr/\r.heap.size+1<=wr.heap.size) (fun a _=>M+8 - (Ef a).toNat);case atStart=>exact⟨0,DZ _,rfl,bS,bN,cH⟩
     case round=>
      obtain⟨k,hk,rfl,hF,H,C⟩:=hrel;clear bS bN cH;by_cases dL:k < m8
      ·obtain⟨z,hz⟩:=exq (iC L fT (Eh k));rw[<-hz]at hF;have Hz:=aa hz;have R:=aa hF;obtain⟨a,ha⟩:=exq (64*k);have ey:a+64<=M+8:=by rw[aX.out,ha];omega
       have ap:Hid (∀i,i < 64->wr.cell? ⟨E,oo+(a+i),none⟩=some (.int .u8 (L.getD (a+i) 0))):=aa (fun i F=>((aD H).1 E _ dz).trans (cY (a+i) (by omega)));rw[<-ha];have Ha:=aa ha;have ew:(a:Int) < (M:Int)+8:=by omega
       clear hz hF ha;obtain⟨m,rfl⟩:∃m:DF,m=wr:=⟨_,rfl⟩;have bd:=dq m 64 .u32 189 (D7 64 (Ej .u32 0)).toArray rfl;have K:=bu (P:=DE) (ty:=189) (k:=.u32) (l:=D7 64 0) (n:=64) bd.there og (by simp);have ck:=gM bd (D7 64 0) (by simp);have ci:az m ((m.alloc (.cells (D7 64 (Ej .u32 0)).toArray 189)).setCells m.heap.size 0 (ao .u32 (D7 64 0))):=aE _ _ _ _ (ae _ _) (DH _);have N:=aa ck;have bL:=aa ci;have O:=aa K;clear bd K ck ci
       go_wp2_with (with_reducible refine aC (ty:=189) ?_)
       refine au ?_;refine bM rfl rfl O ?_;generalize dw:(m.alloc (.cells (D7 64 (Ej .u32 0)).toArray 189)).setCells m.heap.size 0 (ao .u32 (D7 64 0))=WG at*;clear dw O
       go_wp2_with fail
       go_loopw [9] (fun i ws=>∃t:Nat,t<=16/\i=.int .i64 t/\dB ws m.heap.size .u32 64 (fun j=>if j < t then qM ((L.drop (64*k)).take 64) j else 0)/\EZ m.heap.size m ws) (fun i _=>16 - (Ef i).toNat);case atStart=>exact⟨0,by omega,rfl,N.congr (fun i F=>by rw[if_neg (by omega),DJ,List.getElem?_replicate,if_pos F];rfl),bL⟩
       case round=>
        obtain⟨t,ht,rfl,A,U⟩:=hrel;clear N bL;by_cases dM:t < 16
        ·obtain⟨x0,aP⟩:=exq (L.getD (a+4*t) 0);obtain⟨x1,aQ⟩:=exq (L.getD (a+4*t+1) 0);obtain⟨x2,aS⟩:=exq (L.getD (a+4*t+2) 0);obtain⟨x3,aU⟩:=exq (L.getD (a+4*t+3) 0);have bw:=xJ L aj k t dM (by rw[af.out];have:=Ha.out;omega);rw[<-Ha.out,<-aP,<-aQ,<-aS,<-aU]at bw;have c4:=aa bw;have y0:0<=x0/\x0<=255:=by rw[aP];exact aj.get _
         have y1:0<=x1/\x1<=255:=by rw[aQ];exact aj.get _
         have y2:0<=x2/\x2<=255:=by rw[aS];exact aj.get _
         have y3:0<=x3/\x3<=255:=by rw[aU];exact aj.get _
         obtain⟨eS,eT⟩:=y0;obtain⟨eU,eV⟩:=y1;obtain⟨eW,eX⟩:=y2;obtain⟨eY,eZ⟩:=y3;have aH:E < m.heap.size:=by omega
         have k0:wr.cell? ⟨E,oo+(a+4*t),none⟩=some (.int .u8 x0):=by rw[(aD U).1 E _ aH,aP];exact ap (4*t) (by omega)
         have k1:wr.cell? ⟨E,oo+(a+4*t+1),none⟩=some (.int .u8 x1):=by rw[(aD U).1 E _ aH,aQ];exact ap (4*t+1) (by omega)
         have k2:wr.cell? ⟨E,oo+(a+4*t+2),none⟩=some (.int .u8 x2):=by rw[(aD U).1 E _ aH,aS];exact ap (4*t+2) (by omega)
         have k3:wr.cell? ⟨E,oo+(a+4*t+3),none⟩=some (.int .u8 x3):=by rw[(aD U).1 E _ aH,aU];exact ap (4*t+3) (by omega)
         have ez:E < wr.heap.size:=DM _ _ k0;have d4:wr.cell? ⟨m.heap.size,t,none⟩=some (.int .u32 0):=by rw[A.1 t (by omega)];exact congrArg (fun v=>some (Ej .u32 v)) (if_neg (by omega))
         have d5:wr.frozen? ⟨m.heap.size,t,none⟩=false:=A.2 t;have N:=aa A;clear bw aP aQ aS aU A;have b0:(0:Int)<=(a:Int)+4*(t:Int):=by omega
         have W:(a:Int)+4*(t:Int) < (M:Int)+8:=by omega
         have d0:((a:Int)+4*(t:Int)).toNat=a+4*t:=by omega
         have de:(0:Int)<=(a:Int)+4*(t:Int)+1:=by omega
         have X:(a:Int)+4*(t:Int)+1 < (M:Int)+8:=by omega
         have d1:((a:Int)+4*(t:Int)+1).toNat=a+4*t+1:=by omega
         have b2:(0:Int)<=(a:Int)+4*(t:Int)+2:=by omega
         have Q:(a:Int)+4*(t:Int)+2 < (M:Int)+8:=by omega
         have d2:((a:Int)+4*(t:Int)+2).toNat=a+4*t+2:=by omega
         have di:(0:Int)<=(a:Int)+4*(t:Int)+3:=by omega
         have c3:(a:Int)+4*(t:Int)+3 < (M:Int)+8:=by omega
         have d3:((a:Int)+4*(t:Int)+3).toNat=a+4*t+3:=by omega
         have t0:(0:Int)<=(t:Int):=by omega
         have t1:(t:Int) < 64:=by omega
         have t2:(t:Int) < 16:=by omega
         go_wp2_with fail
         refine gI 43 (by as_aux_lemma=>kernel_rfl) (by as_aux_lemma=>kernel_rfl) ?_;simp only[Im,E4,List.drop_succ_cons,List.drop_zero];repeat (first | go_big_quiet_skip | (go_big_quiet_want;go_big_quiet_op;first | go_big_quiet_on | (apply Exists.intro;refine⟨?_,?_⟩;(fail);go_big_quiet_on)))
         refine wpQuiet_nil ?_;clear k0 k1 k2 k3 b0 de b2 di W X Q c3 d0 d1 d2 d3
         go_wp2_with fail
         go_roundw;case rel=>
          refine⟨t+1,by omega,by go_num,?_,(U.drewN 1).setCell (by simp) _⟩;refine((N.drew 1).set t (by omega) _).congr (fun i F=> ?_);by_cases e:i=t
          ·subst e;rw[if_pos rfl,if_pos (by omega)];have h:=c4.out;rw[Ha.out]at h;exact h
          ·rw[if_neg e];by_cases e2:i < t
           ·rw[if_pos e2,if_pos (by omega)]
           ·rw[if_neg e2,if_neg (by omega)]
         case measure=>simp[Ef];omega
        ·obtain rfl:t=16:=by omega
         have cm:dB wr m.heap.size .u32 64 (fun j=>if j < 16 then Cm ((L.drop (64*k)).take 64) j else 0):=A.congr (fun i F=>by
          by_cases e:i < 16
          ·rw[if_pos e,if_pos e,yI _ _ e]
          ·rw[if_neg e,if_neg e])
         have N:=aa cm;clear A cm;obtain⟨u,bi⟩:=exq ((L.drop (64*k)).take 64);rw[<-bi]at N;have cU:=aa bi;clear bi
         go_wp2_with fail
         obtain⟨cL,rfl⟩:∃cL:DF,cL=wr:=⟨_,rfl⟩;go_loopw [10] (fun i ws=>∃t:Nat,16<=t/\t<=64/\i=.int .i64 t/\dB ws m.heap.size .u32 64 (fun j=>if j < t then Cm u j else 0)/\EZ m.heap.size m ws) (fun i _=>64 - (Ef i).toNat);case atStart=>exact⟨16,by omega,by omega,rfl,N,U⟩
         case round=>
          obtain⟨t,dV,dW,rfl,A,I⟩:=hrel;clear N U;by_cases aK:t < 64
          ·have h2:wr.cell? ⟨m.heap.size,t - 2,none⟩=some (.int .u32 (Cm u (t - 2))):=by rw[A.1 _ (by omega)];exact congrArg (fun v=>some (Ej .u32 v)) (if_pos (by omega))
           have h7:wr.cell? ⟨m.heap.size,t - 7,none⟩=some (.int .u32 (Cm u (t - 7))):=by rw[A.1 _ (by omega)];exact congrArg (fun v=>some (Ej .u32 v)) (if_pos (by omega))
           have cd:wr.cell? ⟨m.heap.size,t - 15,none⟩=some (.int .u32 (Cm u (t - 15))):=by rw[A.1 _ (by omega)];exact congrArg (fun v=>some (Ej .u32 v)) (if_pos (by omega))
           have ce:wr.cell? ⟨m.heap.size,t - 16,none⟩=some (.int .u32 (Cm u (t - 16))):=by rw[A.1 _ (by omega)];exact congrArg (fun v=>some (Ej .u32 v)) (if_pos (by omega))
           have d5:wr.frozen? ⟨m.heap.size,t,none⟩=false:=A.2 t;have d4:wr.cell? ⟨m.heap.size,t,none⟩=some (.int .u32 0):=by rw[A.1 _ (by omega)];exact congrArg (fun v=>some (Ej .u32 v)) (if_neg (by omega))
           have b3:=aa (yJ u t dV);obtain⟨v2,bt⟩:=exq (Cm u (t - 2));obtain⟨v7,bv⟩:=exq (Cm u (t - 7));obtain⟨eP,br⟩:=exq (Cm u (t - 15));obtain⟨eQ,bs⟩:=exq (Cm u (t - 16));rw[<-bt]at h2;rw[<-bv]at h7;rw[<-br]at cd;rw[<-bs]at ce;rw[<-bt,<-bv,<-br,<-bs]at b3;have N:=aa A;clear A bt bv br bs;have a2:IntKind.i64.wrap ((t:Int) - 2)=(t:Int) - 2:=Gl _ (by omega);have b2:(0:Int)<=(t:Int) - 2:=by omega
           have q2:(2:Int)<=(t:Int):=by omega
           have Q:(t:Int) - 2 < 64:=by omega
           have d2:((t:Int) - 2).toNat=t - 2:=by omega
           have dd:IntKind.i64.wrap ((t:Int) - 7)=(t:Int) - 7:=Gl _ (by omega);have dj:(0:Int)<=(t:Int) - 7:=by omega
           have q7:(7:Int)<=(t:Int):=by omega
           have c7:(t:Int) - 7 < 64:=by omega
           have d7:((t:Int) - 7).toNat=t - 7:=by omega
           have db:IntKind.i64.wrap ((t:Int) - 15)=(t:Int) - 15:=Gl _ (by omega);have df:(0:Int)<=(t:Int) - 15:=by omega
           have eb:(15:Int)<=(t:Int):=by omega
           have dl:(t:Int) - 15 < 64:=by omega
           have d15:((t:Int) - 15).toNat=t - 15:=by omega
           have dc:IntKind.i64.wrap ((t:Int) - 16)=(t:Int) - 16:=Gl _ (by omega);have dg:(0:Int)<=(t:Int) - 16:=by omega
           have ec:(16:Int)<=(t:Int):=by omega
           have dm:(t:Int) - 16 < 64:=by omega
           have d16:((t:Int) - 16).toNat=t - 16:=by omega
           have b0:(0:Int)<=(t:Int):=by omega
           have W:(t:Int) < 64:=by omega
           go_wp2_with fail
           go_quiet (fail)
           go_wp2_with fail
           refine gI 29 (by as_aux_lemma=>kernel_rfl) (by as_aux_lemma=>kernel_rfl) ?_;simp only[Im,E4,List.drop_succ_cons,List.drop_zero];repeat (first | go_big_quiet_skip | (go_big_quiet_want;go_big_quiet_op;first | go_big_quiet_on | (apply Exists.intro;refine⟨?_,?_⟩;((go_at_call 132;refine(lY _ _ _ (by decide)).mono ?_;rintro e T ⟨rfl,rfl⟩;exact⟨rfl,rfl⟩));go_big_quiet_on)))
           refine wpQuiet_nil ?_;clear a2 b2 q2 Q d2 dd dj q7 c7 d7 db df eb dl d15 dc dg ec dm d16 h2 h7 cd ce
           go_wp2_with fail
           go_roundw;case rel=>
            refine⟨t+1,by omega,by omega,by go_num,?_,((I.drewN _).drewN 1).setCell (by simp) _⟩;refine(((N.drew _).drew 1).set t (by omega) _).congr (fun i F=> ?_);by_cases e:i=t
            ·subst e;rw[if_pos rfl,if_pos (by omega),b3.out];unfold ad yH xr;simp only[show(2:Int)^10=1024 from rfl,show(2:Int)^3=8 from rfl];omega
            ·rw[if_neg e];by_cases e2:i < t
             ·rw[if_pos e2,if_pos (by omega)]
             ·rw[if_neg e2,if_neg (by omega)]
           case measure=>simp[Ef];omega
          ·obtain rfl:t=64:=by omega
           have W:wr.cell? ⟨r.heap.size,0,none⟩=some (.int .u32 z.a):=((aD I).1 _ _ C).trans (R.1 0 (by decide));have X:wr.cell? ⟨r.heap.size,1,none⟩=some (.int .u32 z.b):=((aD I).1 _ _ C).trans (R.1 1 (by decide));have Q:wr.cell? ⟨r.heap.size,2,none⟩=some (.int .u32 z.c):=((aD I).1 _ _ C).trans (R.1 2 (by decide));have c3:wr.cell? ⟨r.heap.size,3,none⟩=some (.int .u32 z.d):=((aD I).1 _ _ C).trans (R.1 3 (by decide));have Y:wr.cell? ⟨r.heap.size,4,none⟩=some (.int .u32 z.e):=((aD I).1 _ _ C).trans (R.1 4 (by decide));have c5:wr.cell? ⟨r.heap.size,5,none⟩=some (.int .u32 z.f):=((aD I).1 _ _ C).trans (R.1 5 (by decide));have c6:wr.cell? ⟨r.heap.size,6,none⟩=some (.int .u32 z.g):=((aD I).1 _ _ C).trans (R.1 6 (by decide));have c7:wr.cell? ⟨r.heap.size,7,none⟩=some (.int .u32 z.h):=((aD I).1 _ _ C).trans (R.1 7 (by decide));have cJ:∀i,i < 64->wr.cell? ⟨m.heap.size,i,none⟩=some (.int .u32 (Cm u i)):=fun i F=>by rw[A.1 _ F];exact congrArg (fun v=>some (Ej .u32 v)) (if_pos F)
           have a3:=aa cJ;clear A cJ
           go_wp2_with fail
           go_quiet (fail)
           clear W X Q c3 Y c5 c6 c7
           go_wp2_with fail
           have av:EZ m.heap.size m (wr.drewN nq):=I.drewN _;have ca:Hid (∀i,i < 64->(wr.drewN nq).cell? ⟨m.heap.size,i,none⟩=some (.int .u32 (Cm u i))):=aa (fun i F=>by rw[(aD ((DI wr.heap.size wr).drewN nq)).1 _ _ (DM _ _ (a3.out 0 (by decide)))];exact a3 i F);have aq:Hid (m.heap.size+1<=(wr.drewN nq).heap.size):=aa (DM _ _ (ca 0 (by decide)));clear I a3;generalize dZ:wr.drewN nq=wz at*;clear dZ;go_loopw [21,13,14,15,16,17,18,19,20] (fun i va vb vc vd ve vf vg vh ws=>∃(t:Nat) (s:St),t<=64/\i=.int .i64 t/\va=.int .u32 s.a/\vb=.int .u32 s.b/\vc=.int .u32 s.c/\vd=.int .u32 s.d/\ve=.int .u32 s.e/\vf=.int .u32 s.f/\vg=.int .u32 s.g/\vh=.int .u32 s.h/\Hid (s=qN z (Cl u 64) t)/\az wz ws) (fun i _ _ _ _ _ _ _ _ _=>64 - (Ef i).toNat);case atStart=>exact⟨0,z,by omega,rfl,rfl,rfl,rfl,rfl,rfl,rfl,rfl,rfl,rfl,DI _ _⟩
           case round=>
            obtain⟨t,s,dW,rfl,rfl,rfl,rfl,rfl,rfl,rfl,rfl,rfl,hs,V⟩:=hrel;by_cases aK:t < 64
            ·have hw:wr.cell? ⟨m.heap.size,t,none⟩=some (.int .u32 (Cm u t)):=by rw[(aD V).1 _ _ aq.out];exact ca t aK
             have ct:dX wr:=bU.ext (az.trans (Ei (H.mono (DH _)) (av.mono (by omega))) V);have hk:wr.cell? ⟨9,t,none⟩=some (.int .u32 (kt.getD t 0)):=ct.CY t aK
             have a1:=aa (show zN s (kt.getD t 0) (Cm u t)=qN z (Cl u 64) (t+1)from by
              show _=zN (qN z (Cl u 64) t) (kt.getD t 0) ((Cl u 64).getD t 0)
              rw[jM _ _ _ aK,<-hs.out])
             obtain⟨kk,cv⟩:=exq (kt.getD t 0);obtain⟨wv,cI⟩:=exq (Cm u t);rw[<-cv]at hk a1;rw[<-cI]at hw a1;clear cv cI ct;have eI:(0:Int)<=(t:Int):=by omega
             have eJ:(t:Int) < 64:=by omega
             go_wp2_with fail
             refine gI 27 (by as_aux_lemma=>kernel_rfl) (by as_aux_lemma=>kernel_rfl) ?_;simp only[Im,E4,List.drop_succ_cons,List.drop_zero];repeat (first | go_big_quiet_skip | (go_big_quiet_want;go_big_quiet_op;first | go_big_quiet_on | (apply Exists.intro;refine⟨?_,?_⟩;((go_at_call 132;refine(lY _ _ _ (by decide)).mono ?_;rintro e T ⟨rfl,rfl⟩;exact⟨rfl,rfl⟩));go_big_quiet_on)))
             refine wpQuiet_nil ?_;clear hk hw
             go_wp2_with (go_at_call 132;refine(lY _ _ _ (by decide)).mono ?_;rintro e T ⟨rfl,rfl⟩)
             go_roundw;case rel=>refine⟨_,_,_,_,_,_,_,_,_,⟨t+1,by omega,rfl,zN s kk wv,rfl,rfl,rfl,rfl,rfl,rfl,rfl,rfl,a1,V.drewN 1⟩,rfl,rfl,rfl,rfl,rfl,rfl,rfl,rfl,by go_num⟩
             case measure=>simp[Ef];omega
            ·obtain rfl:t=64:=by omega
             have y:dB wr r.heap.size .u32 8 (fun i=>z.l.getD i 0):=(R.below av C).below V (by have:=aq.out;omega);have W:wr.cell? ⟨r.heap.size,0,none⟩=some (.int .u32 z.a):=y.1 0 (by decide);have f0:wr.frozen? ⟨r.heap.size,0,none⟩=false:=y.2 0;have X:wr.cell? ⟨r.heap.size,1,none⟩=some (.int .u32 z.b):=y.1 1 (by decide);have f1:wr.frozen? ⟨r.heap.size,1,none⟩=false:=y.2 1;have Q:wr.cell? ⟨r.heap.size,2,none⟩=some (.int .u32 z.c):=y.1 2 (by decide);have f2:wr.frozen? ⟨r.heap.size,2,none⟩=false:=y.2 2;have c3:wr.cell? ⟨r.heap.size,3,none⟩=some (.int .u32 z.d):=y.1 3 (by decide);have f3:wr.frozen? ⟨r.heap.size,3,none⟩=false:=y.2 3;have Y:wr.cell? ⟨r.heap.size,4,none⟩=some (.int .u32 z.e):=y.1 4 (by decide);have f4:wr.frozen? ⟨r.heap.size,4,none⟩=false:=y.2 4;have c5:wr.cell? ⟨r.heap.size,5,none⟩=some (.int .u32 z.f):=y.1 5 (by decide);have f5:wr.frozen? ⟨r.heap.size,5,none⟩=false:=y.2 5;have c6:wr.cell? ⟨r.heap.size,6,none⟩=some (.int .u32 z.g):=y.1 6 (by decide);have f6:wr.frozen? ⟨r.heap.size,6,none⟩=false:=y.2 6;have c7:wr.cell? ⟨r.heap.size,7,none⟩=some (.int .u32 z.h):=y.1 7 (by decide);have f7:wr.frozen? ⟨r.heap.size,7,none⟩=false:=y.2 7;have cS:=aa y;have c1:Hid (r.heap.size+1<=wr.heap.size):=aa (by have:=aq.out;have:=V.size;omega);have cN:Hid (EZ r.heap.size r wr):=aa ((H.trans (av.mono (by omega))).trans (V.mono (by have:=aq.out;omega)));clear y V av;have ex:(a:Int)+64<=(M:Int)+8:=by omega
             go_wp2_with fail
             go_roundw;case rel=>
              refine⟨k+1,by omega,congrArg (Ej .i64) (by have:=Ha.out;omega),?_,lG cN _ (DH _) _ _ _ _ _ _ _ _,by simpa using c1.out⟩;refine(cS.Cu _ _ _ _ _ _ _ _).congr (fun i F=> ?_);have dQ:iC L fT (Eh (k+1))=AV s z:=by
               have h1:iC L fT (Eh (k+1))=dh z u:=by rw[Hz.out,cU.out,List.range_succ];simp[iC]
               rw[h1];unfold dh;rw[<-hs.out]
              rw[dQ]
              match i,F with
              | 0,_=>exact congrArg (· % 4294967296) (GZ _ _)
              | 1,_=>exact congrArg (· % 4294967296) (GZ _ _)
              | 2,_=>exact congrArg (· % 4294967296) (GZ _ _)
              | 3,_=>exact congrArg (· % 4294967296) (GZ _ _)
              | 4,_=>exact congrArg (· % 4294967296) (GZ _ _)
              | 5,_=>exact congrArg (· % 4294967296) (GZ _ _)
              | 6,_=>exact congrArg (· % 4294967296) (GZ _ _)
              | 7,_=>exact congrArg (· % 4294967296) (GZ _ _)
             case measure=>simp[Ef];omega
      ·obtain rfl:k=m8:=by omega
       have hend:=kN k L fT (by rw[af.out,aX.out]);obtain⟨D,bB⟩:=exq ((jN fT L).1);rw[hend,<-bB]at hF;have c0:Hid (sha l=D.bytes):=aa (by rw[bB];exact cE);rw[<-aX.out];clear hend bB dL cE hk;have cD:wr.rangeAt r.heap.size 0 (ao .u32 D.l):=by have h:=hF.range;have e:(Eh 8).map (fun i=>D.l.getD i 0)=D.l:=rfl;rw[e]at h;exact h
       obtain⟨m,rfl⟩:∃m:DF,m=wr:=⟨_,rfl⟩;have hO:=dq m 32 .u8 52 (D7 32 (Ej .u8 0)).toArray rfl;have K:=bu (P:=DE) (ty:=52) (k:=.u8) (l:=D7 32 0) (n:=32) hO.there (by as_aux_lemma=>kernel_rfl) (by simp);have cl:=gM hO (D7 32 0) (by simp);have ba:az m ((m.alloc (.cells (D7 32 (Ej .u8 0)).toArray 52)).setCells m.heap.size 0 (ao .u8 (D7 32 0))):=aE _ _ _ _ (ae _ _) (DH _);have cw:=bC (P:=DE) (ty:=188) (aJ cD ba) Iz (by as_aux_lemma=>kernel_rfl) rfl;have aW:=aa cl;have cP:=aa ba;have O:=aa K;have b4:=aa cw;clear hO K cl ba cw cD hF;have dP:decide ((M:Int)+8 < (M:Int)+8)=false:=decide_eq_false (by omega)
       go_wp2_with (with_reducible refine aC (ty:=52) ?_)
       refine au ?_;refine bM rfl rfl O ?_;generalize dx:(m.alloc (.cells (D7 32 (Ej .u8 0)).toArray 52)).setCells m.heap.size 0 (ao .u8 (D7 32 0))=WO at*;clear dx O dP
       go_wp2_with ((with_reducible refine ak ?_ b4.out ?_);rfl)
       clear b4;go_loopw [273] (fun i' ws=>∃i:Nat,i'=.int .i64 i/\i<=8/\dB ws m.heap.size .u8 32 (fun j=>if j < 4*i then D.byte j else 0)/\EZ m.heap.size WO ws) (fun i' _=>8 - (Ef i').toNat);case atStart=>exact⟨0,rfl,by omega,aW.congr (fun j J=>by rw[if_neg (by omega),DJ,List.getElem?_replicate,if_pos J];rfl),DI _ _⟩
       case round=>
        obtain⟨i,rfl,F,G,ch⟩:=hrel;by_cases dH:i=8
        ·subst dH;have a6:EZ r.heap.size r wr:=(H.trans (cP.mono (by omega))).trans (ch.mono (by omega));have cy:=bC (P:=DE) (ty:=52) (G.range) FJ (by as_aux_lemma=>kernel_rfl) (by simp);have bV:=aa (cR.below a6 (by omega));have K:=bu (P:=DE) (k:=.u8) (ty:=52) (l:=(Eh 32).map (fun j=>if j < 4*8 then D.byte j else 0)) bV.there (by as_aux_lemma=>kernel_rfl) (by simp);have cZ:=aa cy;have O:=aa K;have cM:=aa a6;clear G cy K a6 aW
         go_wp2_with (first | ((with_reducible refine ak ?_ cZ.out ?_);rfl) | ((with_reducible refine bM ?_ ?_ O.out ?_);rfl;rfl))
         have dI:(wr.setCells w.heap.size 0 (ao .u8 ((Eh 32).map (fun j=>if j < 4*8 then D.byte j else 0)))).rangeAt w.heap.size 0 (ao .u8 ((Eh 32).map (fun j=>if j < 4*8 then D.byte j else 0))):=World.rangeAt_setCells_same _ _ _ _ (by simpa using bV.out.there);have dK:=run_loadVar_mid (P:=DE) _ w.heap.size 0 52 _ _ dI FJ rfl (by rw[ints_length,List.length_map,List.length_range];kernel_rfl);refine bodyPost_ret (v:=.agg (ao .u8 ((Eh 32).map (fun j=>if j < 4*8 then D.byte j else 0))).toArray) (aG rfl rfl dK) rfl ⟨?_,?_⟩
         ·rw[c0.out,St.CK]
         ·exact aE _ _ _ _ (Ei bO (cM.mono (by omega))) (DH _)
        ·have bx:(Instr.index 188 (.agg (ao .u32 D.l).toArray) (.int .i64 i)).run DE wr=.ok (.int .u32 (D.l.getD i 0)) wr:=jn Iz (fun w=>by simp[go_sem]) (fun w=>by simp[go_sem]) rfl (by omega);obtain⟨x,hx⟩:=exq (D.l.getD i 0);rw[<-hx]at bx;have Hx:=aa hx;have c9:=aa bx;have W:wr.cell? ⟨m.heap.size,4*i,none⟩=some (.int .u8 0):=by rw[G.1 _ (by omega)];exact congrArg (fun v=>some (Ej .u8 v)) (if_neg (by omega))
         have X:wr.cell? ⟨m.heap.size,4*i+1,none⟩=some (.int .u8 0):=by rw[G.1 _ (by omega)];exact congrArg (fun v=>some (Ej .u8 v)) (if_neg (by omega))
         have Q:wr.cell? ⟨m.heap.size,4*i+2,none⟩=some (.int .u8 0):=by rw[G.1 _ (by omega)];exact congrArg (fun v=>some (Ej .u8 v)) (if_neg (by omega))
         have c3:wr.cell? ⟨m.heap.size,4*i+3,none⟩=some (.int .u8 0):=by rw[G.1 _ (by omega)];exact congrArg (fun v=>some (Ej .u8 v)) (if_neg (by omega))
         have f0:wr.frozen? ⟨m.heap.size,4*i,none⟩=false:=G.2 _;have f1:wr.frozen? ⟨m.heap.size,4*i+1,none⟩=false:=G.2 _;have f2:wr.frozen? ⟨m.heap.size,4*i+2,none⟩=false:=G.2 _;have f3:wr.frozen? ⟨m.heap.size,4*i+3,none⟩=false:=G.2 _;have cQ:=aa G;clear G hx bx aW;have i0:(0:Int)<=(i:Int):=by omega
         have i8:(i:Int) < 8:=by omega
         have n0:(4*(i:Int)).toNat=4*i:=by omega
         have n1:(4*(i:Int)+1).toNat=4*i+1:=by omega
         have n2:(4*(i:Int)+2).toNat=4*i+2:=by omega
         have n3:(4*(i:Int)+3).toNat=4*i+3:=by omega
         go_wp2_with ((with_reducible refine kf (p:=.agg (ao .u32 D.l).toArray) (v:=.int .i64 i) ?_ ?_ c9.out ?_);rfl;rfl)
         go_roundw;case rel=>refine⟨i+1,by go_num,by omega,?_,(((ch.setCell (by simp) _).setCell (by simp) _).setCell (by simp) _).setCell (by simp) _⟩;refine((((cQ.set (4*i) (by omega) _).set (4*i+1) (by omega) _).set (4*i+2) (by omega) _).set (4*i+3) (by omega) _).congr (fun j J=> ?_);rw[Hx.out];exact Ak D i j
         case measure=>simp[Ef];omega
    ·have eD:(0:Int)<=7 - (j:Int):=by omega
     have dU:w.heap.size+1<=wr.heap.size:=D0 C Z.size;have h8:(8*(7 - (j:Int))).toNat=56 - 8*j:=by omega
     have eu:(0:Int)<=8*(7 - (j:Int)):=by omega
     go_wp2_with (with_reducible refine ax ?_)
     refine au ?_;have Hr:=aa (aR hq (ae wr (.cells #[.int .u8 ((l.length:Int)*8 / 2^(56 - 8*j) % 256)] 5)));have aY:=aa (fe wr 5 .u8 ((l.length:Int)*8 / 2^(56 - 8*j) % 256));refine aZ aO Hr aY rfl rfl (by simp) (aF _ _) (by unfold DV;omega) (by omega) (by simp only[DO];omega) ?_;intro p4 Y w4 bm dG a8 dr dO dA
     go_wp2_with fail
     go_roundw;case rel=>refine⟨j+1,p4,Y,by rw[show(7:Int) - ((j+1:Nat):Int)=7 - (j:Int) - 1 from by omega],by omega,rfl,?_,(Z.trans (cV _ _ dU)).trans a8⟩;rw[nh l.length j (by omega),<-List.append_assoc,aT];exact bm
     case measure=>simp[Ef];omega
  ·have bn:((l.length:Int)+1+(j:Int)) % 64≠56:=by unfold dF at J cu;omega
   have eC:j<=64:=by unfold dF at J;omega
   have C:w.heap.size+1<=wr.heap.size:=D0 cG H.size;have Hr:=aa (aR hr (ae wr (.cells #[.int .u8 0] 5)));have aY:=aa (fe wr 5 .u8 0)
   go_wp2_with (with_reducible refine ax ?_)
   refine au ?_;refine aZ aO Hr aY rfl rfl (by simp) (aF _ _) (by unfold DV;omega) (by omega) (by simp only[DO];omega) ?_;intro p4 Y w4 bm dG a8 dr dO dA
   go_wp2_with fail
   go_roundw;case rel=>refine⟨j+1,p4,Y,rfl,by omega,?_,(H.trans (cV _ _ C)).trans a8⟩;rw[show l++128 :: D7 (j+1) (0:Int)=(l++128 :: D7 j 0)++[0]from by simp[List.replicate_succ'],aT];exact bm
   case measure=>simp only[gk];omega
end Go.Proofs.Bl
