/- Texts that stood apart, in one: WSha1, WSha2, WSha3, WSha4, WSha5. -/
import Derived.Test.YtglenbikdahgjaaGreatDoorPr01
set_option maxRecDepth 100000
set_option maxHeartbeats 16000000
open Array renaming replicate_succ->G8,replicate_zero->G9
open Go renaming Calls->DN,World->DF,bodyPost_ret->DK,maxLen->DV,run_loadVar_mid->Fe
open Go.BinOp renaming and->Ia
open Go.Fence renaming wide->GS
open Go.IntKind renaming u64->GH
open Go.IntWalk renaming i64_in->Gl
open Go.Oper renaming semAt_some->Is
open Go.Region renaming wanted->DP
open Go.RowKit renaming Below->EZ,intOf->Ef
open Go.RowKit.Below renaming refl->DI
open Go.Value renaming int->Ej,slice->FE
open Go.World renaming block_lt_of_cell?->DM,cell?_setCell_same->Fa,rangeAt_setCells_same->Eb,size_alloc->DO
open List renaming append_toArray->Il,cons_append->GN,finRange->F5,getD_eq_getElem?_getD->DJ,getElem?_take->EA,length->EW,length_append->DS,length_cons->Eu,length_drop->DR,length_nil->EK,length_take->DX,nil_append->EG,range->Eh,replicate->D7,size_toArray->GD
open Nat renaming le_refl->DH,le_trans->D0,lt_of_lt_of_le->D9,zero_le->DZ
namespace Go.Proofs.Bl
open Go Go.RowKit Go.Proofs
open Go.Proofs.Tryz renaming func175->Gs,ntmps175->Gi,prog->DE,underlying189->GX,underlying205->Iy,underlying54->EC
theorem yN (x:Int) (w:DF):DN DE 175 #[.int .u32 x,.int .i64 (-2)] w fun e w'=>e=.returned (.int .u32 (oI 2 x))/\w'=w:=by
 have a:bits Ia GH (IntKind.u64.wrap (-2)) 31=30:=by decide+kernel
 go_enter Gs,Gi
 go_wp2
 go_ret;exact⟨rfl,rfl⟩
theorem yO (x:Int) (w:DF):DN DE 175 #[.int .u32 x,.int .i64 (-6)] w fun e w'=>e=.returned (.int .u32 (oI 6 x))/\w'=w:=by
 have a:bits Ia GH (IntKind.u64.wrap (-6)) 31=26:=by decide+kernel
 go_enter Gs,Gi
 go_wp2
 go_ret;exact⟨rfl,rfl⟩
theorem Ap (x:Int) (w:DF):DN DE 175 #[.int .u32 x,.int .i64 (-7)] w fun e w'=>e=.returned (.int .u32 (oI 7 x))/\w'=w:=by
 have a:bits Ia GH (IntKind.u64.wrap (-7)) 31=25:=by decide+kernel
 go_enter Gs,Gi
 go_wp2
 go_ret;exact⟨rfl,rfl⟩
theorem vv (x:Int) (w:DF):DN DE 175 #[.int .u32 x,.int .i64 (-11)] w fun e w'=>e=.returned (.int .u32 (oI 11 x))/\w'=w:=by
 have a:bits Ia GH (IntKind.u64.wrap (-11)) 31=21:=by decide+kernel
 go_enter Gs,Gi
 go_wp2
 go_ret;exact⟨rfl,rfl⟩
theorem vA (x:Int) (w:DF):DN DE 175 #[.int .u32 x,.int .i64 (-13)] w fun e w'=>e=.returned (.int .u32 (oI 13 x))/\w'=w:=by
 have a:bits Ia GH (IntKind.u64.wrap (-13)) 31=19:=by decide+kernel
 go_enter Gs,Gi
 go_wp2
 go_ret;exact⟨rfl,rfl⟩
theorem yW (x:Int) (w:DF):DN DE 175 #[.int .u32 x,.int .i64 (-17)] w fun e w'=>e=.returned (.int .u32 (oI 17 x))/\w'=w:=by
 have a:bits Ia GH (IntKind.u64.wrap (-17)) 31=15:=by decide+kernel
 go_enter Gs,Gi
 go_wp2
 go_ret;exact⟨rfl,rfl⟩
theorem yX (x:Int) (w:DF):DN DE 175 #[.int .u32 x,.int .i64 (-18)] w fun e w'=>e=.returned (.int .u32 (oI 18 x))/\w'=w:=by
 have a:bits Ia GH (IntKind.u64.wrap (-18)) 31=14:=by decide+kernel
 go_enter Gs,Gi
 go_wp2
 go_ret;exact⟨rfl,rfl⟩
theorem yY (x:Int) (w:DF):DN DE 175 #[.int .u32 x,.int .i64 (-19)] w fun e w'=>e=.returned (.int .u32 (oI 19 x))/\w'=w:=by
 have a:bits Ia GH (IntKind.u64.wrap (-19)) 31=13:=by decide+kernel
 go_enter Gs,Gi
 go_wp2
 go_ret;exact⟨rfl,rfl⟩
theorem vB (x:Int) (w:DF):DN DE 175 #[.int .u32 x,.int .i64 (-22)] w fun e w'=>e=.returned (.int .u32 (oI 22 x))/\w'=w:=by
 have a:bits Ia GH (IntKind.u64.wrap (-22)) 31=10:=by decide+kernel
 go_enter Gs,Gi
 go_wp2
 go_ret;exact⟨rfl,rfl⟩
theorem vC (x:Int) (w:DF):DN DE 175 #[.int .u32 x,.int .i64 (-25)] w fun e w'=>e=.returned (.int .u32 (oI 25 x))/\w'=w:=by
 have a:bits Ia GH (IntKind.u64.wrap (-25)) 31=7:=by decide+kernel
 go_enter Gs,Gi
 go_wp2
 go_ret;exact⟨rfl,rfl⟩
theorem sH (x y:Int) (w:DF) (h:y= -2\/y= -6\/y= -7\/y= -11\/y= -13\/y= -17\/y= -18\/y= -19\/y= -22\/y= -25):DN DE 175 #[.int .u32 x,.int .i64 y] w fun e w'=>e=.returned (.int .u32 (oI (-y).toNat x))/\w'=w:=by
 rcases h with rfl | rfl | rfl | rfl | rfl | rfl | rfl | rfl | rfl | rfl
 ·exact yN x w
 ·exact yO x w
 ·exact Ap x w
 ·exact vv x w
 ·exact vA x w
 ·exact yW x w
 ·exact yX x w
 ·exact yY x w
 ·exact vB x w
 ·exact vC x w
theorem vD (x:Int) (w:DF):DN DE 166 #[.int .u32 x,.int .i64 6,.int .i64 11,.int .i64 25] w fun e w'=>e=.returned (.int .u32 (zY 6 11 25 x))/\w'=w:=by
 go_enter Tryz.func166,Tryz.ntmps166
 go_wp2_with fail
 refine(yO _ _).mono ?_;rintro e w' ⟨rfl,rfl⟩
 go_wp2_with fail
 refine(vv _ _).mono ?_;rintro e w' ⟨rfl,rfl⟩
 go_wp2_with fail
 refine(vC _ _).mono ?_;rintro e w' ⟨rfl,rfl⟩
 go_wp2_with fail
 go_ret;exact⟨rfl,rfl⟩
theorem vE (x:Int) (w:DF):DN DE 166 #[.int .u32 x,.int .i64 2,.int .i64 13,.int .i64 22] w fun e w'=>e=.returned (.int .u32 (zY 2 13 22 x))/\w'=w:=by
 go_enter Tryz.func166,Tryz.ntmps166
 go_wp2_with fail
 refine(yN _ _).mono ?_;rintro e w' ⟨rfl,rfl⟩
 go_wp2_with fail
 refine(vA _ _).mono ?_;rintro e w' ⟨rfl,rfl⟩
 go_wp2_with fail
 refine(vB _ _).mono ?_;rintro e w' ⟨rfl,rfl⟩
 go_wp2_with fail
 go_ret;exact⟨rfl,rfl⟩
theorem vF (x:Int) (w:DF):DN DE 174 #[.int .u32 x,.int .i64 17,.int .i64 19,.int .i64 10] w fun e w'=>e=.returned (.int .u32 (yH 17 19 10 x))/\∃n,w'=w.drewN n:=by
 go_enter Tryz.func174,Tryz.ntmps174
 go_wp2_with fail
 go_quiet ((go_at_call 175;exact Calls.quiet_of_same (sH _ _ _ (by decide))))
 go_wp2
 go_ret;exact⟨rfl,_,rfl⟩
theorem xN (x:Int) (w:DF):DN DE 174 #[.int .u32 x,.int .i64 7,.int .i64 18,.int .i64 3] w fun e w'=>e=.returned (.int .u32 (yH 7 18 3 x))/\∃n,w'=w.drewN n:=by
 go_enter Tryz.func174,Tryz.ntmps174
 go_wp2_with fail
 go_quiet ((go_at_call 175;exact Calls.quiet_of_same (sH _ _ _ (by decide))))
 go_wp2
 go_ret;exact⟨rfl,_,rfl⟩
theorem tC (x a b c:Int) (w:DF) (h:(a=17/\b=19/\c=10)\/(a=7/\b=18/\c=3)):DN DE 174 #[.int .u32 x,.int .i64 a,.int .i64 b,.int .i64 c] w fun e w'=>e=.returned (.int .u32 (yH a.toNat b.toNat c.toNat x))/\∃n,w'=w.drewN n:=by
 rcases h with ⟨rfl,rfl,rfl⟩ | ⟨rfl,rfl,rfl⟩
 ·exact vF x w
 ·exact xN x w
theorem og:(Tryz.prog.info? 189).map (·.size)=some 64:=by kernel_rfl
theorem qV (z o c:Nat) (a:List Int) (S:a.length=64) (hc:64<=c) (aF:c<=DV) (w:DF) (h:∀i,i < a.length->w.cell? ⟨z,o+i,none⟩=some (.int .u8 (a.getD i 0))) (aA:z < w.heap.size) (aB:bA a):
  DN DE 165 #[.slice (some ⟨z,o,none⟩) 64 c] w fun e w'=>e=.returned (.agg (ao .u32 (Cl a 64)).toArray)/\az w w':=by
 unfold DV at aF;have W:=aa h;clear h;have L:=aa S;clear S;go_enter Tryz.func165,Tryz.ntmps165
 go_wp2_with fail
 go_loopw [8] (fun i wr=>∃t:Nat,t<=16/\i=.int .i64 t/\dB wr w.heap.size .u32 64 (fun _=>0)/\dB wr (w.heap.size+1) .u32 64 (fun j=>if j < t then qM a j else 0)/\EZ w.heap.size w wr) (fun i _=>16 - (Ef i).toNat);case atStart=>
  refine⟨0,by omega,rfl,?_,?_,?_⟩
  ·exact(dq w 64 .u32 _ _ rfl).alloc (by simp) _
  ·have:=dq (w.alloc (.cells (D7 64 (Ej .u32 0)).toArray 189)) 64 .u32 189 (D7 64 (Ej .u32 0)).toArray rfl;simp only[DO]at this;exact this.congr (fun i _=>by simp)
  ·exact(((DI _ _).alloc (DH _) _).alloc (by simp) _)
 case round=>
  obtain⟨t,ht,rfl,O,Q,N⟩:=hrel;have I:=aa O;clear O;have C:=aa Q;clear Q;by_cases aK:t < 16
  ·go_wp2_with fail
   obtain⟨s,f⟩:∃s:DF,s=wr:=⟨_,rfl⟩;rw[<-f];have d:=aa f;clear f;go_loopw [19] (fun i wr=>∃j:Nat,j<=4/\i=.int .i64 j/\dB wr w.heap.size .u32 64 (fun _=>0)/\dB wr (w.heap.size+1) .u32 64 (fun i=>if i < t then qM a i else if i=t then kp a t j else 0)/\EZ w.heap.size w wr) (fun i _=>4 - (Ef i).toNat);case atStart=>
    refine⟨0,by omega,rfl,?_,?_,?_⟩
    ·rw[d.out];exact I
    ·rw[d.out];exact C.congr (fun i _=>by rw[mZ];split<;>simp)
    ·rw[d.out];exact N
   case round=>
    obtain⟨j,hj,rfl,F,q,g⟩:=hrel;have J:=aa F;have y:=aa q;by_cases aY:j < 4
    ·have hp:=gj a t j (by rw[L.out];omega);obtain⟨x,hx⟩:=exq (a.getD (4*t+j) 0);have aW:wr.cell? ⟨z,o+4*t+j,none⟩=some (.int .u8 x):=by rw[(aD g).1 _ _ aA,Nat.add_assoc,hx];exact W (4*t+j) (by rw[L.out];omega)
     obtain⟨a1,a3⟩:0<=x/\x<=255:=by rw[hx];exact aB.get _
     rw[<-hx]at hp;have Z:=aa hp;clear hx hp;have hw:wr.cell? ⟨w.heap.size+1,t,none⟩=some (.int .u32 (kp a t j)):=by rw[q.1 t (by omega)];simp
     have V:wr.frozen? ⟨w.heap.size+1,t,none⟩=false:=q.2 t;clear F q
     go_wp2_with fail
     go_roundw;case rel=>
      refine⟨j+1,by omega,by go_num,J.other _ _ (by simp),?_,g.setCell (by simp) _⟩;refine(y.set t (by omega) _).congr (fun i r=> ?_);by_cases e:i=t
      ·subst e;rw[if_pos rfl,if_neg (by omega),if_pos rfl,Z.out];rfl
      ·rw[if_neg e];simp only[e,if_false]
     case measure=>simp[Ef];omega
    ·obtain rfl:j=4:=by omega
     clear F q
     go_wp2_with fail
     go_roundw;case rel=>
      refine⟨t+1,by omega,by go_num,J,y.congr (fun i r=> ?_),g⟩;by_cases e:i=t
      ·subst e;rw[if_neg (by omega),if_pos rfl,if_pos (by omega),na]
      ·by_cases p:i < t
       ·rw[if_pos p,if_pos (by omega)]
       ·rw[if_neg p,if_neg e,if_neg (by omega)]
     case measure=>simp[Ef];omega
  ·have y:Hid (dB wr (w.heap.size+1) .u32 64 (fun j=>if j < 16 then Cm a j else 0)):=by
    refine C.congr (fun i r=> ?_);by_cases e:i < 16
    ·rw[if_pos (by omega),if_pos e,yI _ _ e]
    ·rw[if_neg (by omega),if_neg e]
   clear C
   go_wp2_with fail
   obtain⟨s,f⟩:∃s:DF,s=wr:=⟨_,rfl⟩;rw[<-f];have d:=aa f;clear f;go_loopw [7] (fun i wr=>∃t:Nat,16<=t/\t<=64/\i=.int .i64 t/\dB wr w.heap.size .u32 64 (fun _=>0)/\dB wr (w.heap.size+1) .u32 64 (fun i=>if i < t then Cm a i else 0)/\EZ w.heap.size w wr) (fun i _=>64 - (Ef i).toNat);case atStart=>exact⟨16,by omega,by omega,rfl,by rw[d.out];exact I,by rw[d.out];exact y,by rw[d.out];exact N⟩
   case round=>
    obtain⟨t,aN,a0,rfl,R,b,g⟩:=hrel;have D:=aa R;clear R;have K:=aa b;by_cases aK:t < 64
    ·have h2:wr.cell? ⟨w.heap.size+1,t - 2,none⟩=some (.int .u32 (Cm a (t - 2))):=by rw[b.1 _ (by omega)];exact congrArg (fun v=>some (Ej .u32 v)) (if_pos (by omega))
     have h7:wr.cell? ⟨w.heap.size+1,t - 7,none⟩=some (.int .u32 (Cm a (t - 7))):=by rw[b.1 _ (by omega)];exact congrArg (fun v=>some (Ej .u32 v)) (if_pos (by omega))
     have av:wr.cell? ⟨w.heap.size+1,t - 15,none⟩=some (.int .u32 (Cm a (t - 15))):=by rw[b.1 _ (by omega)];exact congrArg (fun v=>some (Ej .u32 v)) (if_pos (by omega))
     have aw:wr.cell? ⟨w.heap.size+1,t - 16,none⟩=some (.int .u32 (Cm a (t - 16))):=by rw[b.1 _ (by omega)];exact congrArg (fun v=>some (Ej .u32 v)) (if_pos (by omega))
     have V:wr.frozen? ⟨w.heap.size+1,t,none⟩=false:=b.2 t;have h0:wr.cell? ⟨w.heap.size+1,t,none⟩=some (.int .u32 0):=by rw[b.1 _ (by omega)];exact congrArg (fun v=>some (Ej .u32 v)) (if_neg (by omega))
     clear b
     go_wp2_with fail
     have a2:IntKind.i64.wrap ((t:Int) - 2)=(t:Int) - 2:=Gl _ (by omega);have b2:(0:Int)<=(t:Int) - 2:=by omega
     have q2:(2:Int)<=(t:Int):=by omega
     have c2:(t:Int) - 2 < 64:=by omega
     have d2:((t:Int) - 2).toNat=t - 2:=by omega
     have a7:IntKind.i64.wrap ((t:Int) - 7)=(t:Int) - 7:=Gl _ (by omega);have b7:(0:Int)<=(t:Int) - 7:=by omega
     have q7:(7:Int)<=(t:Int):=by omega
     have c7:(t:Int) - 7 < 64:=by omega
     have d7:((t:Int) - 7).toNat=t - 7:=by omega
     have ac:IntKind.i64.wrap ((t:Int) - 15)=(t:Int) - 15:=Gl _ (by omega);have ag:(0:Int)<=(t:Int) - 15:=by omega
     have aO:(15:Int)<=(t:Int):=by omega
     have al:(t:Int) - 15 < 64:=by omega
     have d15:((t:Int) - 15).toNat=t - 15:=by omega
     have ae:IntKind.i64.wrap ((t:Int) - 16)=(t:Int) - 16:=Gl _ (by omega);have ah:(0:Int)<=(t:Int) - 16:=by omega
     have aP:(16:Int)<=(t:Int):=by omega
     have am:(t:Int) - 16 < 64:=by omega
     have d16:((t:Int) - 16).toNat=t - 16:=by omega
     have b0:(0:Int)<=(t:Int):=by omega
     have c0:(t:Int) < 64:=by omega
     have G:w.heap.size+1 < wr.heap.size:=DM _ _ h2;apply aL 23 [38,39,40,41,42,43,44,45,46,47,48,49,50,51,52,53,54,55,56,57,58,59,60] [ar _,ar _,ar _,ar _,ar _,ar _,ar _,ar _,ar _,ar _,ar _,ar _,ar _,ar _,ar _,ar _,ar _,ar _,ar _,ar _,ar _,ar _,ar _] (by kernel_rfl) (by kernel_rfl) (by kernel_rfl) (by rfl);case hsteps=>
      refine⟨?_,?_,?_,?_,?_,?_,?_,?_,?_,?_,?_,?_,?_,?_,?_,?_,?_,?_,?_,?_,?_,?_,?_,trivial⟩;all_goals
       intro ev H m h hd;have e3:=h 3 (by decide);have e7:=h 7 (by decide);clear h;simp only[sB]at e3 e7;simp only[sD]at hd;have hc:=(aD m).1;simp only[dJ,DP,if_true];go_simp;first | exact⟨DI _ _,rfl⟩ | (go_at_call 174;refine(tC _ _ _ _ _ (by decide)).mono ?_;rintro e w' ⟨rfl,n,rfl⟩;exact⟨_,rfl,(DI _ _).drewN _,rfl⟩)
     case hend=>
      intro u H m hend;simp only[sE]at hend;simp only[sF,hend];have a4:H.frozen? ⟨w.heap.size+1,t,none⟩=false:=((aD m).2 _ _ G).trans V;have aV:H.cell? ⟨w.heap.size+1,t,none⟩=some (.int .u32 0):=((aD m).1 _ _ G).trans h0;have E:=aa m;clear hend m a2 b2 c2 d2 q2 a7 b7 c7 d7 q7 ac ag al d15 aO ae ah am d16 aP h2 h7 av aw
      go_wp2_with fail
      go_roundw;case rel=>
       have aM:w.heap.size < wr.heap.size:=by omega
       refine⟨t+1,by omega,by omega,by go_num,(D.below E aM).other _ _ (by simp),?_,(g.trans (E.mono (by omega))).setCell (by simp) _⟩;refine((K.below E G).set t (by omega) _).congr (fun i r=> ?_);by_cases e:i=t
       ·subst e;rw[if_pos rfl,if_pos (by omega),yJ _ _ aN];unfold ad;omega
       ·rw[if_neg e];by_cases p:i < t
        ·rw[if_pos p,if_pos (by omega)]
        ·rw[if_neg p,if_neg (by omega)]
      case measure=>simp[Ef];omega
     case hmono=>exact mL
    ·obtain rfl:t=64:=by omega
     have B:wr.rangeAt (w.heap.size+1) 0 (ao .u32 (Cl a 64)):=by rw[zZ];exact(K.congr (f':=Cm a) (fun i r=>by rw[if_pos r])).range
     have ay:=g;obtain⟨cs,A⟩:=exq (Cl a 64);have hlen:cs.length=64:=by rw[A,wl_length]
     rw[<-A]at B;have T:=bC (P:=DE) B GX og hlen;have U:=bu (P:=DE) (k:=.u32) (l:=cs) D.there og hlen;have Y:=aa T;have ab:=aa U;have X:=aa A;have aS:=aa B;have M:=aa hlen;clear T U A B hlen b
     go_wp2_with (first | ((with_reducible refine ak ?_ Y.out ?_);rfl) | ((with_reducible refine bM ?_ ?_ ab.out ?_);rfl;rfl))
     have aI:(wr.setCells w.heap.size 0 (ao .u32 cs)).rangeAt w.heap.size 0 (ao .u32 cs):=Eb _ _ _ _ (by rw[ints_length,M.out];exact D.there);have aJ:=Fe (P:=DE) _ w.heap.size 0 189 (ao .u32 cs) _ aI GX rfl (by rw[ints_length,M.out];exact og);refine DK (v:=.agg (ao .u32 cs).toArray) ?_ rfl ⟨by rw[X.out],aE _ _ _ _ ay (DH _)⟩;exact aG rfl rfl aJ
structure fO (w:DF):Prop where
 added:∀i,i < 64->w.cell? ⟨11,i,none⟩=some (.int .u32 (kt.getD i 0))
 first:∀i,i < 8->w.cell? ⟨10,i,none⟩=some (.int .u32 (iv.getD i 0))
theorem fO.ext {w w':DF} (h:fO w) (b:az w w'):fO w':=by
 have c:=DM w _ (h.added 0 (by decide));have d:=DM w _ (h.first 0 (by decide));exact⟨fun i a=>((aD b).1 _ _ c).trans (h.added i a),fun i a=>((aD b).1 _ _ d).trans (h.first i a)⟩
theorem lS (x a b c:Int) (w:DF) (h:(a=6/\b=11/\c=25)\/(a=2/\b=13/\c=22)):DN DE 166 #[.int .u32 x,.int .i64 a,.int .i64 b,.int .i64 c] w fun e w'=>e=.returned (.int .u32 (zY a.toNat b.toNat c.toNat x))/\w'=w:=by
 rcases h with ⟨rfl,rfl,rfl⟩ | ⟨rfl,rfl,rfl⟩
 ·exact vD x w
 ·exact vE x w
theorem vG:(Tryz.prog.info? 205).map (·.size)=some 8:=by kernel_rfl
theorem ph (z:St) (G o c:Nat) (r:List Int) (q:r.length=64) (hc:64<=c) (aM:c<=DV) (w:DF) (A:∀i,i < r.length->w.cell? ⟨G,o+i,none⟩=some (.int .u8 (r.getD i 0))) (aK:G < w.heap.size) (af:bA r) (hg:fO w):
  DN DE 151 #[.agg #[.int .u32 z.a,.int .u32 z.b,.int .u32 z.c,.int .u32 z.d,.int .u32 z.e,.int .u32 z.f,.int .u32 z.g,.int .u32 z.h],.slice (some ⟨G,o,none⟩) 64 c] w fun e w'=>e=.returned (dh z r).val/\az w w':=by
 have Hb:=aa A;clear A;have Hl:=aa q;clear q;have X:=aa hg;clear hg;have av:=aa af;clear af;go_enter Tryz.func151,Tryz.ntmps151
 go_wp2_with fail
 refine(qV G o c r Hl hc aM _ ?_ ?_ av).mono ?_
 ·intro i p;exact((aD ((((DI w.heap.size w).alloc (DH _) _).alloc (by simp only[DO];omega) _).alloc (by simp only[DO];omega) _)).1 _ _ aK).trans (Hb i p)
 ·simp;omega
 rintro e K ⟨rfl,J⟩;obtain⟨ws,T⟩:=exq (Cl r 64);rw[<-T];have Z:=aa T;clear T
 go_wp2_with fail
 go_loopw [16] (fun i wr=>∃(t:Nat) (s:St),t<=64/\i=.int .i64 t/\dB wr w.heap.size .u32 8 (fun i=>s.l.getD i 0)/\dB wr (w.heap.size+1) .u32 8 (fun _=>0)/\dB wr (w.heap.size+1+1) .u32 8 (fun i=>z.l.getD i 0)/\Hid (s=qN z ws t)/\EZ w.heap.size w wr) (fun i _=>64 - (Ef i).toNat);case atStart=>
  have z8:∀i,i < 8->(#[.int .u32 z.a,.int .u32 z.b,.int .u32 z.c,.int .u32 z.d,.int .u32 z.e,.int .u32 z.f,.int .u32 z.g,.int .u32 z.h]:Array Value)[i]? =some (.int .u32 (z.l.getD i 0)):=fun i p=>by
   match i,p with
   | 0,_=>rfl
   | 1,_=>rfl
   | 2,_=>rfl
   | 3,_=>rfl
   | 4,_=>rfl
   | 5,_=>rfl
   | 6,_=>rfl
   | 7,_=>rfl
  have o8:∀i,i < 8->(#[.int .u32 0,.int .u32 0,.int .u32 0,.int .u32 0,.int .u32 0,.int .u32 0,.int .u32 0,.int .u32 0]:Array Value)[i]? =some (.int .u32 0):=fun i p=>by
   match i,p with
   | 0,_=>rfl
   | 1,_=>rfl
   | 2,_=>rfl
   | 3,_=>rfl
   | 4,_=>rfl
   | 5,_=>rfl
   | 6,_=>rfl
   | 7,_=>rfl
  refine⟨0,z,by omega,rfl,?_,?_,?_,rfl,?_⟩
  ·exact(((gx w 8 .u32 _ _ _ z8).alloc (by simp only[DO];omega) _).alloc (by simp only[DO];omega) _).below J (by simp;omega)
  ·have h:=(gx (w.alloc (.cells #[.int .u32 z.a,.int .u32 z.b,.int .u32 z.c,.int .u32 z.d,.int .u32 z.e,.int .u32 z.f,.int .u32 z.g,.int .u32 z.h] 205)) 8 .u32 205 _ (fun _=>0) o8);simp only[DO]at h;exact(h.alloc (by simp only[DO];omega) _).below J (by simp)
  ·have h:=(gx ((w.alloc (.cells #[.int .u32 z.a,.int .u32 z.b,.int .u32 z.c,.int .u32 z.d,.int .u32 z.e,.int .u32 z.f,.int .u32 z.g,.int .u32 z.h] 205)).alloc (.cells #[.int .u32 0,.int .u32 0,.int .u32 0,.int .u32 0,.int .u32 0,.int .u32 0,.int .u32 0,.int .u32 0] 205)) 8 .u32 205 _ _ z8);simp only[DO]at h;exact h.below J (by simp)
  ·exact((((DI w.heap.size w).alloc (DH _) _).alloc (by simp only[DO];omega) _).alloc (by simp only[DO];omega) _).trans (J.mono (by simp;omega))
 case round=>
  obtain⟨t,s,ht,rfl,m,ac,ad,hs,O⟩:=hrel;have n:=aa m;have U:=aa ac;clear ac;have V:=aa ad;clear ad;by_cases D:t < 64
  ·have ai:=jn (P:=DE) (w:=wr) (k:=.u32) (l:=ws) (i:=t) GX Tryz.sizeOf187 Tryz.isAgg187 (by rw[Z.out,wl_length]) D;have ax:=aa ai;clear ai;have c0:wr.cell? ⟨w.heap.size,0,none⟩=some (.int .u32 s.a):=m.1 0 (by decide);have M:wr.cell? ⟨w.heap.size,1,none⟩=some (.int .u32 s.b):=m.1 1 (by decide);have N:wr.cell? ⟨w.heap.size,2,none⟩=some (.int .u32 s.c):=m.1 2 (by decide);have c3:wr.cell? ⟨w.heap.size,3,none⟩=some (.int .u32 s.d):=m.1 3 (by decide);have c4:wr.cell? ⟨w.heap.size,4,none⟩=some (.int .u32 s.e):=m.1 4 (by decide);have c5:wr.cell? ⟨w.heap.size,5,none⟩=some (.int .u32 s.f):=m.1 5 (by decide);have c6:wr.cell? ⟨w.heap.size,6,none⟩=some (.int .u32 s.g):=m.1 6 (by decide);have c7:wr.cell? ⟨w.heap.size,7,none⟩=some (.int .u32 s.h):=m.1 7 (by decide);have hk:wr.cell? ⟨11,t,none⟩=some (.int .u32 (kt.getD t 0)):=by have:=(aD O).1 11 t (DM w _ (X.added 0 (by decide)));rw[this];exact X.added t D
   obtain⟨kk,Q⟩:=exq (kt.getD t 0);rw[<-Q]at hk;have ay:=aa Q;clear Q m;have a8:(0:Int)<=(t:Int):=by omega
   have a9:(t:Int) < 64:=by omega
   go_wp2_with ((with_reducible refine kf ?_ ?_ ax.out ?_);rfl;rfl)
   go_quiet ((go_at_call 166;exact Calls.quiet_of_same (lS _ _ _ _ _ (by decide))))
   have f0:wr.frozen? ⟨w.heap.size,0,none⟩=false:=n.2 0;have f1:wr.frozen? ⟨w.heap.size,1,none⟩=false:=n.2 1;have f2:wr.frozen? ⟨w.heap.size,2,none⟩=false:=n.2 2;have f3:wr.frozen? ⟨w.heap.size,3,none⟩=false:=n.2 3;have f4:wr.frozen? ⟨w.heap.size,4,none⟩=false:=n.2 4;have f5:wr.frozen? ⟨w.heap.size,5,none⟩=false:=n.2 5;have f6:wr.frozen? ⟨w.heap.size,6,none⟩=false:=n.2 6;have f7:wr.frozen? ⟨w.heap.size,7,none⟩=false:=n.2 7
   go_wp2_with (go_at_call 166;refine(lS _ _ _ _ _ (by decide)).mono ?_;rintro e w' ⟨rfl,rfl⟩)
   have aR:zN s kk (ws[t]?.getD 0)=qN z ws (t+1):=by have h1:=hs.out;rw[h1,ay.out,<-DJ];rfl
   go_roundw;case rel=>exact⟨t+1,zN s kk (ws[t]?.getD 0),by omega,by go_num,(n.drew nq).Cu _ _ _ _ _ _ _ _,(U.drew nq).CX _ (by omega) _ _ _ _ _ _ _ _,(V.drew nq).CX _ (by omega) _ _ _ _ _ _ _ _,aR,lG (O.drewN nq) _ (DH _) _ _ _ _ _ _ _ _⟩
   case measure=>simp[Ef];omega
  ·obtain rfl:t=64:=by omega
   clear m
   go_wp2_with fail
   obtain⟨wo,S⟩:∃wo:DF,wo=wr:=⟨_,rfl⟩;rw[<-S];have E:=aa S;clear S;go_loopw [89] (fun i wr=>∃j:Nat,j<=8/\i=.int .i64 j/\dB wr w.heap.size .u32 8 (fun i=>if i < j then(s.l.getD i 0+z.l.getD i 0) % 4294967296 else s.l.getD i 0)/\dB wr (w.heap.size+1) .u32 8 (fun _=>0)/\dB wr (w.heap.size+1+1) .u32 8 (fun i=>z.l.getD i 0)/\EZ w.heap.size w wr) (fun i _=>8 - (Ef i).toNat);case atStart=>exact⟨0,by omega,rfl,by rw[E.out];exact n.congr (fun i p=>by simp),by rw[E.out];exact U,by rw[E.out];exact V,by rw[E.out];exact O⟩
   case round=>
    obtain⟨j,hj,rfl,C,ae,I,ab⟩:=hrel;have W:=aa C;have L:=aa ae;clear ae;have aq:=aa I;by_cases D:j < 8
    ·obtain⟨x,hx⟩:=exq (s.l.getD j 0);obtain⟨y,hy⟩:=exq (z.l.getD j 0);have M:wr.cell? ⟨w.heap.size,j,none⟩=some (.int .u32 x):=by rw[C.1 j D,hx];simp
     have N:wr.cell? ⟨w.heap.size+1+1,j,none⟩=some (.int .u32 y):=by rw[I.1 j D,hy]
     have f1:wr.frozen? ⟨w.heap.size,j,none⟩=false:=C.2 j;have Hx:=aa hx;have Hy:=aa hy;clear C I hx hy;have a5:(0:Int)<=(j:Int):=by omega
     have a6:(j:Int) < 8:=by omega
     have aT:w.heap.size+1+1 < wr.heap.size:=DM _ _ N;have R:w.heap.size < wr.heap.size:=by omega
     have aS:w.heap.size+1 < wr.heap.size:=by omega
     go_wp2_with fail
     apply aL 8 [92,93,94,95,96,97,98,99] [ar _,ar _,ar _,ar _,ar _,ar _,ar _,ar _] (by kernel_rfl) (by kernel_rfl) (by kernel_rfl) (by rfl);case hsteps=>
      refine⟨?_,?_,?_,?_,?_,?_,?_,?_,trivial⟩;all_goals
       intro ev K B A hd;have H:=A 2 (by decide);have e5:=A 5 (by decide);have aI:=A 12 (by decide);clear A;simp only[sB]at H e5 aI;simp only[sD]at hd;have hc:=(aD B).1;simp only[dJ,DP,if_true];go_simp;exact⟨DI _ _,rfl⟩
     case hend=>
      intro u K B hend;simp only[sE]at hend;simp only[sF,hend];have aW:K.cell? ⟨w.heap.size,j,none⟩=some (.int .u32 x):=((aD B).1 _ _ R).trans M;have a3:K.frozen? ⟨w.heap.size,j,none⟩=false:=((aD B).2 _ _ R).trans f1;have F:=aa B;clear hend B M N f1
      go_wp2_with fail
      go_roundw;case rel=>
       refine⟨j+1,by omega,by go_num,?_,(L.below F aS).other _ _ (by simp),(aq.below F aT).other _ _ (by simp;omega),(ab.trans (F.mono (by omega))).setCell (by simp) _⟩;refine((W.below F R).set j (by omega) _).congr (fun i p=> ?_);by_cases e:i=j
       ·subst e;rw[if_pos rfl,if_pos (by omega),Hx.out,Hy.out]
       ·rw[if_neg e];by_cases H:i < j
        ·rw[if_pos H,if_pos (by omega)]
        ·rw[if_neg H,if_neg (by omega)]
      case measure=>simp[Ef];omega
     case hmono=>exact mL
    ·obtain rfl:j=8:=by omega
     obtain⟨l,q⟩:=exq ((AV s z).l);have hlen:l.length=8:=by rw[q];rfl
     have aj:wr.rangeAt w.heap.size 0 (ao .u32 l):=by
      have h:=(W.congr (f':=fun i=>l.getD i 0) (fun i p=>by rw[if_pos p,q,xD _ _ _ p])).range;have e:(Eh 8).map (fun i=>l.getD i 0)=l:=by rw[q];rfl
      rw[e]at h;exact h
     have aB:=aa (bC (P:=DE) aj Iy vG hlen);have aC:=aa (bu (P:=DE) (k:=.u32) (l:=l) L.there vG hlen);have aw:=aa q;have Y:=aa hlen;clear aj q hlen C I
     go_wp2_with (first | ((with_reducible refine ak ?_ aB.out ?_);rfl) | ((with_reducible refine bM ?_ ?_ aC.out ?_);rfl;rfl))
     have aO:(wr.setCells (w.heap.size+1) 0 (ao .u32 l)).rangeAt (w.heap.size+1) 0 (ao .u32 l):=Eb _ _ _ _ (by rw[ints_length,Y.out];exact L.there);have aQ:=Fe (P:=DE) _ (w.heap.size+1) 0 205 (ao .u32 l) _ aO Iy rfl (by rw[ints_length,Y.out];exact vG);refine DK (v:=.agg (ao .u32 l).toArray) (aG rfl rfl aQ) rfl ⟨?_,aE _ _ _ _ ab (by omega)⟩;have h1:=hs.out;rw[aw.out,h1,Z.out];rfl
theorem xO (w:DF) (i:fO w):
  DN DE 133 #[] w fun e w'=>e=.returned (.pointer (some ⟨w.heap.size,0,none⟩))/\w'=w.alloc (.cells #[.int .u32 fT.a,.int .u32 fT.b,.int .u32 fT.c,.int .u32 fT.d,.int .u32 fT.e,.int .u32 fT.f,.int .u32 fT.g,.int .u32 fT.h,.slice none 0 0,.int .i64 0] 207):=by
 have g0:=i.first 0 (by decide);have g1:=i.first 1 (by decide);have g2:=i.first 2 (by decide);have g3:=i.first 3 (by decide);have g4:=i.first 4 (by decide);have g5:=i.first 5 (by decide);have g6:=i.first 6 (by decide);have g7:=i.first 7 (by decide);clear i;simp only[iv,List.getD_cons_zero,List.getD_cons_succ]at g0 g1 g2 g3 g4 g5 g6 g7;simp only[fT];go_enter Tryz.func133,Tryz.ntmps133
 go_wp2
 go_ret;exact⟨rfl,rfl⟩
def oh (w:DF) (hb:Nat):Nat:=match w.cell? ⟨hb,8,none⟩with | some (.slice _ n _)=>n | _=>0
theorem gQ {w:DF} {a n c:Nat} {p:Option Addr} (h:w.cell? ⟨a,8,none⟩=some (.slice p n c)):oh w a=n:=by simp[oh,h]
structure lT (w:DF) (B0 hb:Nat) (z:St) (l:List Int) (n:Nat):Prop where
 words:dB w hb .u32 8 (fun i=>z.l.getD i 0)
 rest:∃v,w.cell? ⟨hb,8,none⟩=some v/\w.ownsRow B0 5 1 v l.length (ao .u8 l)/\v.ownBlock≠some hb
 count:w.cell? ⟨hb,9,none⟩=some (.int .i64 n)
 ge:B0<=hb
theorem xP (w:DF) (E k n:Nat) (z:St) (l y:List Int) (v:Value) (hH:lT w E k z l n) (hv:∀r,EZ E w r->Rd r .u8 v y) (hg:∀r,EZ E w r->fO r) (aC:bA (l++y)) (be:E<=w.heap.size)
  (hl:l.length < 64) (bx:y.length<=1099511627776) (hn:n<=1099511627776):
  DN DE 134 #[.pointer (some ⟨k,0,none⟩),v] w fun e w'=>e=.returned (.pointer (some ⟨k,0,none⟩))/\lT w' E k (jN z (l++y)).1 (jN z (l++y)).2 (n+y.length)/\EZ E w w':=by
 obtain⟨Q,⟨v0,h8,X,aN⟩,h9,F⟩:=hH;obtain⟨pv,cv,br,bS,bR⟩:=(hv w (DI _ _)).form;subst br;obtain⟨p0,K,bl,bN,bB⟩:=(bh.AS X).form;subst bl;have bs:w.frozen? ⟨k,8,none⟩=false:=Q.2 8;have bT:w.frozen? ⟨k,9,none⟩=false:=Q.2 9;have HW:=aa Q;clear Q;have Hv:=aa hv;clear hv;have Hg:=aa hg;clear hg;have aW:=aa aC;clear aC;have I:=aa aN;clear aN;have a3:=aa X;clear X;go_enter Tryz.func134,Tryz.ntmps134;have a4:=aa (fc a3 I 9 (.int .i64 ((n:Int)+(y.length:Int))));have a6:=aa (Hv _ ((DI E w).setCell (p:=⟨k,9,none⟩) F (.int .i64 ((n:Int)+(y.length:Int)))));have bJ:k < w.heap.size:=DM _ _ h9;have av:(w.setCell ⟨k,9,none⟩ (.int .i64 ((n:Int)+(y.length:Int)))).cell? ⟨k,8,none⟩=some (.slice p0 l.length K):=by rw[World.cell?_setCell_other _ _ _ _ (by intro q;injection q with _ q;omega)];exact h8
 have ax:(w.setCell ⟨k,9,none⟩ (.int .i64 ((n:Int)+(y.length:Int)))).cell? ⟨k,9,none⟩=some (.int .i64 ((n:Int)+(y.length:Int))):=Fa _ _ _ h9;have a0:=aa av;have a1:=aa ax;clear av ax
 go_wp2_with ((with_reducible refine cY aO a4.out a6.out (by simp) (aF _ _) (by unfold DV;omega) (by omega) (by simp;omega) ?_ ?_ ?_);rfl;rfl;intro v' w' Y G bd hK;obtain⟨p',T,bk,bM,bz⟩:=(bh.AS Y).form;subst bk;have aK:w'.cell? ⟨k,8,none⟩=some (.slice p0 l.length K):=(G.cell_far _ (by simp;omega) (fun q=>I q.symm)).trans a0;have bG:w'.frozen? ⟨k,8,none⟩=false:=(G.frozen_far _ (by simp;omega) (fun q=>I q.symm)).trans (by rw[World.frozen?_setCell];exact bs);have hX:lF w' k (.slice p' (l.length+y.length) T) (l.length+y.length) (ao .u8 l++ao .u8 y):=lF.AS Y (fun q=>(hK k q).elim (fun q=>I q) (fun q=>by simp at q;omega));have HX:=aa hX;have N:=aa G;clear Y G hK hX)
 have bK:k < w'.heap.size:=DM _ _ aK;go_loopw [23] (fun _ wr=>∃(o:St) (m:List Int) (pr:Option Addr) (B:Nat),dB wr k .u32 8 (fun i=>o.l.getD i 0)/\wr.cell? ⟨k,8,none⟩=some (.slice pr m.length B)/\lF wr k (.slice pr m.length B) m.length (ao .u8 m)/\wr.cell? ⟨k,9,none⟩=some (.int .i64 (n+y.length:Nat))/\EZ E w wr/\Hid (jN z (l++y)=jN o m)/\Hid (bA m)/\m.length<=l.length+y.length) (fun _ wr=>oh wr k);case atStart=>
  have bn:∀i,w'.cell? ⟨k,i,none⟩=(w.setCell ⟨k,9,none⟩ (.int .i64 ((n:Int)+(y.length:Int)))).cell? ⟨k,i,none⟩:=fun i=>N.cell_far _ (by simp;omega) (fun q=>I q.symm)
  have A:dB w' k .u32 8 (fun i=>z.l.getD i 0):=(HW.CM 9 (by omega) _).grown N (by simp;omega) (fun q=>I q.symm);refine⟨z,l++y,p',T,A.CM 8 (by omega) _,?_,?_,?_,?_,rfl,aW,by rw[DS];omega⟩
  ·rw[DS];exact Fa _ _ _ aK
  ·rw[DS,aT];exact HX.set 8 _
  ·refine eP ?_ (by omega);rw[bn 9,a1.out];simp
  ·exact(((DI E w).setCell (p:=⟨k,9,none⟩) F _).trans bd).setCell (p:=⟨k,8,none⟩) F _
 case round=>
  obtain⟨o,m,pr,B,A,M,ab,R,L,he,U,bI⟩:=hrel;have D:=aa A;have ai:=aa ab;obtain⟨pp,cc,aP,bQ,bi⟩:=ab.AT.form;obtain⟨rfl,rfl⟩:pr=pp/\B=cc:=by cases aP;exact⟨rfl,rfl⟩
  clear ab aP;have ad:wr.frozen? ⟨k,8,none⟩=false:=A.2 8;have s:k < wr.heap.size:=DM _ _ M;by_cases au:64<=m.length
  ·have K:wr.cell? ⟨k,0,none⟩=some (.int .u32 o.a):=A.1 0 (by decide);have c1:wr.cell? ⟨k,1,none⟩=some (.int .u32 o.b):=A.1 1 (by decide);have P:wr.cell? ⟨k,2,none⟩=some (.int .u32 o.c):=A.1 2 (by decide);have c3:wr.cell? ⟨k,3,none⟩=some (.int .u32 o.d):=A.1 3 (by decide);have c4:wr.cell? ⟨k,4,none⟩=some (.int .u32 o.e):=A.1 4 (by decide);have c5:wr.cell? ⟨k,5,none⟩=some (.int .u32 o.f):=A.1 5 (by decide);have c6:wr.cell? ⟨k,6,none⟩=some (.int .u32 o.g):=A.1 6 (by decide);have c7:wr.cell? ⟨k,7,none⟩=some (.int .u32 o.h):=A.1 7 (by decide);clear A;obtain⟨C,go,bq,V,G⟩:∃C go,pr=some ⟨C,go,none⟩/\C≠k/\wr.rangeAt C go (ao .u8 m):=by
    rcases ai with ⟨h1,_,h3⟩ | ⟨b',o',T,h1,h2,h3,h4,h5⟩
    ·exfalso;have:=congrArg EW h3;rw[ints_length]at this;simp only[EK]at this;omega
    ·cases h1;exact⟨b',o',rfl,h4,h5⟩
   subst bq;have aH:C < wr.heap.size:=bP G (by intro q;have:=congrArg EW q;rw[ints_length]at this;simp only[EK]at this;omega);have aY:Hid (∀i,i < (m.take 64).length->wr.cell? ⟨C,go+i,none⟩=some (.int .u8 ((m.take 64).getD i 0))):=fun i W=>by
    have bo:i < 64:=by rw[DX]at W;omega
    rw[G i _ (cX .u8 m i (by omega)),DJ,DJ,EA,if_pos bo]
   have aZ:=aa (Hg wr L);have N:=aa G;clear G;have bD:64<=B:=by omega
   have bE:(64:Int)<=(B:Int):=by omega
   go_wp2_with fail
   apply aL 13 [29,30,31,32,33,34,35,36,37,38,39,40,41] [ar _,ar _,ar _,ar _,ar _,ar _,ar _,ar _,ar _,ar _,ar _,ar _,ar _] (by kernel_rfl) (by kernel_rfl) (by kernel_rfl) (by rfl);case hsteps=>
    refine⟨?_,?_,?_,?_,?_,?_,?_,?_,?_,?_,?_,?_,?_,trivial⟩;all_goals
     intro ev r t k hd;have e0:=k 0 (by decide);clear k;simp only[Qa,Qb,Q2,Qd]at e0;simp only[sD]at hd;have hc:=(aD t).1;simp only[dJ,DP,if_true];go_simp;first | exact⟨DI _ _,rfl⟩ | (go_at_call 151;refine(ph o C go B (m.take 64) (by simp;omega) (by omega) bi _ ?_ ?_ ?_ ?_).mono ?_;(intro i W;rw[hc _ _ aH];exact aY i W);(exact D9 aH t.size);(exact U.take 64);(exact aZ.ext t);rintro e w2 ⟨rfl,J⟩;exact⟨_,rfl,J,rfl⟩)
   case hend=>
    intro u r t hend;simp only[sE]at hend;have f0:r.frozen? ⟨k,0,none⟩=false:=((aD t).2 _ _ s).trans (D.2 0);have d0:r.cell? ⟨k,0,none⟩=some (.int .u32 o.a):=((aD t).1 _ _ s).trans K;have f1:r.frozen? ⟨k,1,none⟩=false:=((aD t).2 _ _ s).trans (D.2 1);have d1:r.cell? ⟨k,1,none⟩=some (.int .u32 o.b):=((aD t).1 _ _ s).trans c1;have f2:r.frozen? ⟨k,2,none⟩=false:=((aD t).2 _ _ s).trans (D.2 2);have d2:r.cell? ⟨k,2,none⟩=some (.int .u32 o.c):=((aD t).1 _ _ s).trans P;have f3:r.frozen? ⟨k,3,none⟩=false:=((aD t).2 _ _ s).trans (D.2 3);have d3:r.cell? ⟨k,3,none⟩=some (.int .u32 o.d):=((aD t).1 _ _ s).trans c3;have f4:r.frozen? ⟨k,4,none⟩=false:=((aD t).2 _ _ s).trans (D.2 4);have d4:r.cell? ⟨k,4,none⟩=some (.int .u32 o.e):=((aD t).1 _ _ s).trans c4;have f5:r.frozen? ⟨k,5,none⟩=false:=((aD t).2 _ _ s).trans (D.2 5);have d5:r.cell? ⟨k,5,none⟩=some (.int .u32 o.f):=((aD t).1 _ _ s).trans c5;have f6:r.frozen? ⟨k,6,none⟩=false:=((aD t).2 _ _ s).trans (D.2 6);have d6:r.cell? ⟨k,6,none⟩=some (.int .u32 o.g):=((aD t).1 _ _ s).trans c6;have f7:r.frozen? ⟨k,7,none⟩=false:=((aD t).2 _ _ s).trans (D.2 7);have d7:r.cell? ⟨k,7,none⟩=some (.int .u32 o.h):=((aD t).1 _ _ s).trans c7;have f8:r.frozen? ⟨k,8,none⟩=false:=((aD t).2 _ _ s).trans ad;have d8:r.cell? ⟨k,8,none⟩=some (.slice (some ⟨C,go,none⟩) m.length B):=((aD t).1 _ _ s).trans M;simp only[sF,hend];have H:=aa t;have O:=aa R;have ah:=aa M;clear hend t K c1 P c3 c4 c5 c6 c7 ad R M;by_cases aE:B=64
    ·subst aE;have aM:m.length=64:=by omega
     have a2:=aa aM;clear aM
     go_wp2_with fail
     go_roundw;case rel=>
      have az:=(mX.refl k r).Cu (.int .u32 (dh o (m.take 64)).a) (.int .u32 (dh o (m.take 64)).b) (.int .u32 (dh o (m.take 64)).c) (.int .u32 (dh o (m.take 64)).d) (.int .u32 (dh o (m.take 64)).e) (.int .u32 (dh o (m.take 64)).f) (.int .u32 (dh o (m.take 64)).g) (.int .u32 (dh o (m.take 64)).h);have hlen:(m.drop 64).length=m.length - 64:=DR;refine⟨dh o (m.take 64),m.drop 64,some ⟨C,go,none⟩,0,((D.below H s).Cu _ _ _ _ _ _ _ _).CM 8 (by omega) _,?_,?_,eP (gd (((aD H).1 _ _ s).trans O) (by omega) _ _ _ _ _ _ _ _) (by omega),(lG (L.trans (H.mono (by omega))) _ F _ _ _ _ _ _ _ _).setCell F _,?_,U.drop 64,by omega⟩
      ·rw[hlen,show m.length - 64=0 from by have:=a2.out;omega];exact Fa _ _ _ (gd d8 (by omega) _ _ _ _ _ _ _ _)
      ·rw[hlen];exact .inr ⟨C,go,0,rfl,by omega,by omega,V,(by rw[List.drop_eq_nil_of_le (by omega)];intro j x hx;simp[ao]at hx)⟩
      ·exact he.trans (jr _ _ au)
     case measure=>rw[gQ ah.out,gQ (Fa _ _ _ (gd d8 (by omega) _ _ _ _ _ _ _ _))];omega
    ·have bF:64 < B:=by omega
     clear aE
     go_wp2_with fail
     go_roundw;case rel=>
      have az:=(mX.refl k r).Cu (.int .u32 (dh o (m.take 64)).a) (.int .u32 (dh o (m.take 64)).b) (.int .u32 (dh o (m.take 64)).c) (.int .u32 (dh o (m.take 64)).d) (.int .u32 (dh o (m.take 64)).e) (.int .u32 (dh o (m.take 64)).f) (.int .u32 (dh o (m.take 64)).g) (.int .u32 (dh o (m.take 64)).h);have hlen:(m.drop 64).length=m.length - 64:=DR;refine⟨dh o (m.take 64),m.drop 64,some ⟨C,go+64,none⟩,B - 64,((D.below H s).Cu _ _ _ _ _ _ _ _).CM 8 (by omega) _,?_,?_,eP (gd (((aD H).1 _ _ s).trans O) (by omega) _ _ _ _ _ _ _ _) (by omega),(lG (L.trans (H.mono (by omega))) _ F _ _ _ _ _ _ _ _).setCell F _,?_,U.drop 64,by omega⟩
      ·rw[hlen];exact Fa _ _ _ (gd d8 (by omega) _ _ _ _ _ _ _ _)
      ·rw[hlen];exact .inr ⟨C,go+64,B - 64,rfl,by omega,by omega,V,(az.set 8 _).range (aJ (by rw[show ao .u8 (m.drop 64)=(ao .u8 m).drop 64 from by simp[ao]];exact ch N 64) H) V⟩
      ·exact he.trans (jr _ _ au)
     case measure=>rw[gQ ah.out,gQ (Fa _ _ _ (gd d8 (by omega) _ _ _ _ _ _ _ _))];omega
   case hmono=>exact mL
  ·have bp:m.length < 64:=by omega
   have hq:(jN z (l++y))=(o,m):=he.trans (iy _ _ bp);have Hq:=aa hq;have O:=aa R;clear A hq R
   go_wp2_with fail
   refine(dZ _ m _ ai.AT (by omega)).mono ?_;rintro e w2 ⟨v2,rfl,Z,J⟩;obtain⟨p2,P,bm,bO,bC⟩:=(bh.AS Z).form;subst bm;have k8:w2.cell? ⟨k,8,none⟩=some (.slice pr m.length B):=((aD J).1 _ _ s).trans M;have y8:w2.frozen? ⟨k,8,none⟩=false:=((aD J).2 _ _ s).trans ad;have S:=aa J;have af:=aa Z;clear J Z
   go_wp2_with fail
   go_ret;have ay:E<=wr.heap.size:=D0 be L.size;have hk:(FE p2 m.length P).ownBlock≠some k:=fun q=>by have:=(af.lt k q).1;omega
   refine⟨rfl,⟨?_,?_,?_,F⟩,(L.trans (S.mono ay)).setCell F _⟩
   ·rw[Hq.out];exact(D.below S s).CM 8 (by omega) _
   ·rw[Hq.out];exact⟨_,Fa _ _ _ k8,fc (dQ af ay) hk 8 _,hk⟩
   ·exact eP (((aD S).1 _ _ s).trans O) (by omega)
section
attribute [local go_sem] Is
theorem qW (w:DF) (p:Option Addr) (n c:Nat):
  DN DE 152 #[.slice p n c,.int .i64 64] w fun e w'=>e=.returned (.func (.func 167) #[] #[.pointer (some ⟨w.heap.size,0,none⟩),.pointer (some ⟨w.heap.size+1,0,none⟩)])/\w'=(w.alloc (.cells #[.slice p n c] 27)).alloc (.cells #[.int .i64 64] 3):=by
 go_enter Tryz.func152,Tryz.ntmps152
 go_wp2
 go_ret;exact⟨rfl,rfl⟩
theorem qX (n lr h g j c b off m cap:Nat) (hn:1<=n) (ag:64*m<=cap) (an:64*m<=1099511627776) (t:h < c) (q:g < c) (w:h≠j) (s:g≠j) (J z:List (Fin m)->DF->Prop) (L:Nat) (P:AbidesFrom L J)
  (V:∀pre x W,J pre W->pre.length < m->YieldAt GS (n - 1) DE lr #[.slice (some ⟨b,off+64*x.val,none⟩) 64 64] W fun e d=>
   (e=.returned (.bool true)/\J (pre++[x]) d/\dc j c W d)\/(e=.returned (.bool false)/\z (pre++[x]) d))
  (W:DF) (H:W.cell? ⟨h,0,none⟩=some (.slice (some ⟨b,off,none⟩) (64*m) cap)) (E:W.cell? ⟨g,0,none⟩=some (.int .i64 64)) (h0:J [] W) (ab:c<=W.heap.size):
  CallsIn GS n DE 167 #[.func (.yield lr) #[] #[],.pointer (some ⟨h,0,none⟩),.pointer (some ⟨g,0,none⟩)] W fun e d=>(∃v,e=.returned v)/\
   ((∃xs,xs=F5 m/\J xs d)\/(∃pre,(∃k,k<=m/\pre=dV m k)/\z pre d)):=by
 refine callsIn_of_wp Tryz.func167 rfl trivial ?_ rfl;simp only[Tryz.ntmps167,GD,Eu,EK,Nat.reduceAdd,Nat.reduceSub,G8,G9,List.push_toArray,Il,EG,GN]
 gi_wp2
 gi_loopw [4] (fun i wr=>∃k:Nat,k<=m/\i=.int .i64 (64*k:Nat)/\J (dV m k) wr/\dc j c W wr)
  (fun i _=>64*m - (Ef i).toNat)
 case atStart=>exact⟨0,DZ _,rfl,h0,dc.refl _ _ _⟩
 case round=>
  obtain⟨k,Z,rfl,C,f⟩:=hrel;have aa:c<=wr.heap.size:=D0 ab f.1;have B:h < wr.heap.size:=DM _ _ ((f.cell (i:=0) t w).trans H);have A:g < wr.heap.size:=DM _ _ ((f.cell (i:=0) q s).trans E);have I:=(f.cell (i:=0) t w).trans H;have F:=(f.cell (i:=0) q s).trans E;by_cases p:k < m
  ·gi_wp2
   have af:(64:Int)<=((64*m - 64*k:Nat):Int):=by omega
   have hle:((64*k:Nat):Int)<=((64*m:Nat):Int):=by omega
   have am:((64*k:Nat):Int)<=(cap:Int):=by omega
   have ac:(64*(k:Int)).toNat=64*k:=by omega
   refine wpIn_wide.2 ?_;apply aL 6 [13,14,15,16,17,18] [ar (.int .i64 64),ar (.slice (some ⟨b,off,none⟩) (64*m) cap),ar (.int .i64 (64*k:Nat)),ar (.slice (some ⟨b,off+64*k,none⟩) (64*m - 64*k) (cap - 64*k)),ar (.int .i64 (64*m - 64*k:Nat)),ar (.int .i64 64)] (by kernel_rfl) (by kernel_rfl) (by kernel_rfl) (by rfl);case hsteps=>
    refine⟨?_,?_,?_,?_,?_,?_,trivial⟩;all_goals
     intro ev l a o X;have M:=o 1 (by decide);have N:=o 2 (by decide);have O:=o 4 (by decide);clear o;simp only[sB]at M N O;simp only[sD]at X;have D:=(aD a).1;have K:=(D _ 0 B).trans I;have G:=(D _ 0 A).trans F;simp only[dJ,DP,if_true];go_simp;first
      | exact⟨DI _ _,rfl⟩
      | exact⟨DI _ _,by rw[if_neg (by omega)];rfl⟩
      | exact⟨DI _ _,by rw[if_neg (by omega),ac];rfl⟩
      | exact⟨DI _ _,congrArg (Ej .i64) (by omega)⟩
   case hend=>
    intro u l a hend;simp only[sE]at hend;simp only[sF,hend];have K:=((aD a).1 _ 0 B).trans I;have G:=((aD a).1 _ 0 A).trans F;have Q:J (dV m k) l:=P _ wr l none C (kv a) (fun r e=>by cases e);have T:dc j c wr l:=⟨a.size,fun i Y _=>a.block i (D9 Y aa)⟩
    go_wp2_with fail
    obtain⟨fn,tmps,assign,body,hy,U⟩:=V _ ⟨k,p⟩ l Q (by rw[fW _ _ Z];exact p);dsimp only at hy;have aj:((64*k:Nat):Int)+64<=(cap:Int):=by omega
    have ak:(64*(k:Int)+64).toNat=64*k+64:=by omega
    gi_wp2
    refine U.mono ?_;rintro e W3 (⟨rfl,R,y⟩ | ⟨rfl,S⟩)
    ·have ai:=(y.cell (i:=0) t w).trans K;have ah:=(y.cell (i:=0) q s).trans G;have al:64*(k:Int)+64=((64*(k+1):Nat):Int):=by omega
     gi_wp2
     go_roundw;case rel=>exact⟨k+1,by omega,by simp,by rw[ef _ _ p];exact R,(f.trans T).trans y⟩
     case measure=>simp[Ef];omega
    ·gi_wp2
     refine DK (results_none rfl _ _ _) rfl ?_;exact⟨⟨_,rfl⟩,.inr ⟨_,⟨k+1,by omega,(ef _ _ p).symm⟩,S⟩⟩
   case hmono=>exact mL
  ·obtain rfl:k=m:=by omega
   gi_wp2
   go_end0
   exact⟨⟨_,rfl⟩,.inl ⟨_,rfl,by rw[<-lO];exact C⟩⟩
theorem oi (n c a d b off m cap:Nat) (v:1<=n) (r:64*m<=cap) (u:64*m<=1099511627776) (w:DF) (g:c < w.heap.size) (f:a < w.heap.size) (j:c≠d) (i:a≠d)
  (t:w.cell? ⟨c,0,none⟩=some (.slice (some ⟨b,off,none⟩) (64*m) cap)) (s:w.cell? ⟨a,0,none⟩=some (.int .i64 64)):
  SeqStopsK GS n DE 167 #[.pointer (some ⟨c,0,none⟩),.pointer (some ⟨a,0,none⟩)] (fun x:Fin m=>#[FE (some ⟨b,off+64*x.val,none⟩) 64 64]) (dc d w.heap.size) (fun xs=>xs=F5 m) (fun pre=>∃k,k<=m/\pre=dV m k) m w:=
 fun l J h W e o _ q h0=>
  qX n l c a d w.heap.size b off m cap v r u g f j i J h W.heap.size o q W ((e.cell (p:=⟨c,0,none⟩) g).trans t) ((e.cell (p:=⟨a,0,none⟩) f).trans s) h0 e.size
end
section
attribute [local go_sem] Is
theorem yZ:(Tryz.prog.info? 54).map (·.size)=some 32:=by kernel_rfl
theorem xQ (w:DF) (B0 y n:Nat) (z:St) (l:List Int) (hH:lT w B0 y z l n) (hg:fO w) (br:bA l) (hl:l.length < 64) (hn:n<=1099511627776):
  DN DE 135 #[.pointer (some ⟨y,0,none⟩)] w fun e w'=>e=.returned (.agg (ao .u8 (oU z l n).bytes).toArray)/\az w w':=by
 obtain⟨hW,⟨v0,h8,aZ,cH⟩,h9,c8⟩:=hH;obtain⟨p0,c0,cs,cE,co⟩:=(bh.AS aZ).form;subst cs;have bE:y < w.heap.size:=DM _ _ h9;have HW:=aa hW;clear hW;have Hg:=aa hg;clear hg;have b3:=aa br;clear br;refine(callsIn_wide (n:=9)).1 ?_;refine callsIn_of_wp_marks Tryz.func135 rfl trivial ?_ rfl;simp only[Tryz.ntmps135,GD,Eu,EK,Nat.reduceAdd,Nat.reduceSub,G8,G9,List.push_toArray,Il,EG,GN];refine wpIn_wide.2 ?_
 go_wp2_with fail
 have bk:dB (w.alloc (.cells (D7 32 (Ej .u8 0)).toArray 54)) w.heap.size .u8 32 (fun _=>0):=dq w 32 .u8 54 (D7 32 (Ej .u8 0)).toArray rfl;have aS:az w (w.alloc (.cells (D7 32 (Ej .u8 0)).toArray 54)):=(DI _ _).alloc (DH _) _;have hR0:Rd (w.alloc (.cells (D7 32 (Ej .u8 0)).toArray 54)) .u8 (.slice p0 l.length c0) l:=(bh.AS aZ).ext aS;have aF:(w.alloc (.cells (D7 32 (Ej .u8 0)).toArray 54)).heap.size=w.heap.size+1:=by simp
 refine(dZ _ l _ hR0 (by omega)).mono ?_;rintro e O ⟨v2,rfl,ay,aC⟩;rw[aF]at ay;have ap:EZ w.heap.size w O:=aS.trans (aC.mono (by rw[aF];omega));have bl:=bk.below aC (by rw[aF];omega);have bN:w.heap.size+1<=O.heap.size:=by have:=aC.size;omega
 clear bk aS hR0 aF aC;obtain⟨p2,c2,ct,bF,cp⟩:=(bh.AS ay).form;subst ct;have a5:=aa bl;clear bl;have I:az O (O.alloc (.cells #[.int .u8 128] 5)):=(DI _ _).alloc (DH _) _;have bc:=aa (aR ay I);have Q:=aa (bh.AS (bW O 5 #[.int .u8 128] O.heap.size 1 1 (DH _) (by decide) rfl))
 go_wp2_with ((with_reducible refine cY aO bc.out Q.out (by simp) (by decide) (by unfold DV;omega) (by omega) (by simp;omega) ?_ ?_ ?_);rfl;rfl;intro v3 w3 a0 cx aq cg;obtain⟨p3,c3,cu,cF,c6⟩:=(bh.AS a0).form;subst cu)
 have R:EZ (w.heap.size+1) O w3:=(I.mono (by omega)).trans aq;have a6:=aa (a5.below R (by omega));have bg:w3.cell? ⟨y,9,none⟩=some (.int .i64 n):=((aD (ap.trans (R.mono (by omega)))).1 _ _ bE).trans h9;have bb:=aa (HW.below (ap.trans (R.mono (by omega))) bE);have aq:=ap.trans (R.mono (by omega));have a1:w.heap.size+1<=w3.heap.size:=D0 bN R.size;clear R a5 I bc Q cx cg ay ap bN bF cp HW h8 cE co aZ cH h9;have bH:w3.ownsRow (w.heap.size+1) 5 1 (.slice p3 (l.length+1+0) c3) (l.length+1+0) (ao .u8 (l++128 :: D7 0 0)):=by rw[aT];exact a0
 clear a0;go_loopw [3] (fun e wr=>∃(j:Nat) (p:Option Addr) (c:Nat),e=.slice p (l.length+1+j) c/\j<=dF l.length/\wr.ownsRow (w.heap.size+1) 5 1 (.slice p (l.length+1+j) c) (l.length+1+j) (ao .u8 (l++128 :: D7 j 0))/\EZ (w.heap.size+1) w3 wr) (fun e _=>200 - gk e);case atStart=>exact⟨0,p3,c3,rfl,DZ _,bH,DI _ _⟩
 case round=>
  obtain⟨j,p,c,rfl,T,V,L⟩:=hrel;obtain⟨pr,cr,ag,bG,bt⟩:=(bh.AS V).form;obtain⟨rfl,rfl⟩:p=pr/\c=cr:=by cases ag;exact⟨rfl,rfl⟩
  clear ag;by_cases aY:j=dF l.length
  ·have bJ:((l.length:Int)+1+(j:Int)) % 64=56:=by rw[aY];unfold dF;omega
   go_wp2_with fail
   subst aY;have cc:wr.cell? ⟨y,9,none⟩=some (.int .i64 n):=((aD L).1 _ _ (by omega)).trans bg;have bX:=aa (a6.below L (by omega));have b2:=aa (bb.below L (by omega));have cd:=aq.trans (L.mono (by omega));have aB:w.heap.size+1<=wr.heap.size:=D0 a1 L.size;have hP:(l++128 :: D7 (dF l.length) (0:Int)).length=l.length+1+dF l.length:=by simp;omega
   have dg:dF l.length<=64:=by unfold dF;omega
   have hM:(l.length+1+dF l.length+8) % 64=0:=oT _;have cZ:l.length+1+dF l.length<=128:=by omega
   generalize l.length+1+dF l.length=M at*;generalize ck:l++128 :: D7 (dF l.length) (0:Int)=P0 at*;have cK:wr.ownsRow (w.heap.size+1) 5 1 (.slice p (M+0) c) (M+0) (ao .u8 (P0++(js n).take 0)):=by simpa using V
   clear aq L a6 bb a1 bg bJ V bG bt bH T;go_loopw [3,4] (fun e b9 ws=>∃(j:Nat) (p:Option Addr) (c:Nat),b9=.int .i64 (56 - 8*(j:Int))/\j<=8/\e=.slice p (M+j) c/\ws.ownsRow (w.heap.size+1) 5 1 (.slice p (M+j) c) (M+j) (ao .u8 (P0++(js n).take j))/\EZ (w.heap.size+1) wr ws) (fun e _ _=>200 - gk e);case atStart=>exact⟨0,p,c,by simp,by omega,rfl,cK,DI _ _⟩
   case round=>
    obtain⟨j,q,d,rfl,T,rfl,U,H⟩:=hrel;obtain⟨pr,cr,ag,bG,bt⟩:=(bh.AS U).form;obtain⟨rfl,rfl⟩:q=pr/\d=cr:=by cases ag;exact⟨rfl,rfl⟩
    clear ag;by_cases cB:j=8
    ·subst cB;have dk:w.heap.size+1<=wr.heap.size:=D0 aB H.size;have bY:=aa (bX.below H (by omega));have J:dB wr y .u32 8 (fun i=>z.l.getD i 0):=b2.below H (by omega);have X:wr.cell? ⟨y,0,none⟩=some (.int .u32 z.a):=J.1 0 (by decide);have Y:wr.cell? ⟨y,1,none⟩=some (.int .u32 z.b):=J.1 1 (by decide);have Z:wr.cell? ⟨y,2,none⟩=some (.int .u32 z.c):=J.1 2 (by decide);have x3:wr.cell? ⟨y,3,none⟩=some (.int .u32 z.d):=J.1 3 (by decide);have x4:wr.cell? ⟨y,4,none⟩=some (.int .u32 z.e):=J.1 4 (by decide);have x5:wr.cell? ⟨y,5,none⟩=some (.int .u32 z.f):=J.1 5 (by decide);have x6:wr.cell? ⟨y,6,none⟩=some (.int .u32 z.g):=J.1 6 (by decide);have x7:wr.cell? ⟨y,7,none⟩=some (.int .u32 z.h):=J.1 7 (by decide);clear J
     go_wp2_with fail
     have y0:=aa (gx wr 8 .u32 205 #[.int .u32 z.a,.int .u32 z.b,.int .u32 z.c,.int .u32 z.d,.int .u32 z.e,.int .u32 z.f,.int .u32 z.g,.int .u32 z.h] (fun i=>z.l.getD i 0) (fun i hi=>by
      match i,hi with
      | 0,_=>rfl
      | 1,_=>rfl
      | 2,_=>rfl
      | 3,_=>rfl
      | 4,_=>rfl
      | 5,_=>rfl
      | 6,_=>rfl
      | 7,_=>rfl))
     refine(qW _ _ _ _).mono ?_;rintro e C ⟨rfl,aj⟩;rw[DO];clear X Y Z x3 x4 x5 x6 x7;have aU:az (wr.alloc (.cells #[.int .u32 z.a,.int .u32 z.b,.int .u32 z.c,.int .u32 z.d,.int .u32 z.e,.int .u32 z.f,.int .u32 z.g,.int .u32 z.h] 205)) C:=by rw[aj];exact((DI _ _).alloc (DH _) _).alloc (by simp) _
     have au:az wr C:=((DI _ _).alloc (DH _) _).trans (aU.mono (by simp));have aV:C.cell? ⟨wr.heap.size+1,0,none⟩=some (.slice q (M+8) d):=by rw[aj];exact((aD ((DI _ _).alloc (DH _) _)).1 _ _ (by simp)).trans (by simp)
     have bs:C.cell? ⟨wr.heap.size+1+1,0,none⟩=some (.int .i64 64):=by rw[aj];have:=ku ((wr.alloc (.cells #[.int .u32 z.a,.int .u32 z.b,.int .u32 z.c,.int .u32 z.d,.int .u32 z.e,.int .u32 z.f,.int .u32 z.g,.int .u32 z.h] 205)).alloc (.cells #[.slice q (M+8) d] 27)) (.int .i64 64) 3;simpa using this
     have cL:C.heap.size=wr.heap.size+3:=by rw[aj];simp
     have a7:=aa (y0.below aU (by simp));have a8:=aa (bY.below au (by have:=H.size;omega));have Hq:=aa (aR U au);have aQ:EZ w.heap.size w C:=(cd.trans (H.mono (by omega))).trans (au.mono (by have:=H.size;omega));obtain⟨m,hm⟩:∃m,M+8=64*m:=⟨(M+8) / 64,by omega⟩;have hL:P0++(js n).take 8=lj l n:=by rw[List.take_of_length_le (by simp),<-ck];rfl
     rw[hL]at U;have bI:(lj l n).length=64*m:=by rw[<-hL,DS,hP];simp;omega
     obtain⟨b,o,cJ,cm,bK⟩:∃b o,q=some ⟨b,o,none⟩/\b < wr.heap.size/\wr.rangeAt b o (ao .u8 (lj l n)):=by
      rcases bh.AS U with ⟨_,h2,_⟩ | ⟨b,o,c,h1,_,_,h4⟩
      ·omega
      ·cases h1;exact⟨b,o,rfl,bP h4 (by intro e;have:=congrArg EW e;rw[ints_length,bI]at this;simp only[EK]at this;omega),h4⟩
     subst cJ;have bd:=aa (aJ bK au);rw[hm]at aV;clear aj aU y0 U bK
     go_wp2_with fail
     refine(wpIn_wide (n:=9)).1 ?_;apply wpIn_rangeFunc_ownF (F:=GS) (encs:=fun x:Fin m=>#[FE (some ⟨b,o+64*x.val,none⟩) 64 64]) (Kp:=dc wr.heap.size C.heap.size) rfl (by decide) (gf:=167) (lb:=#[.pointer (some ⟨wr.heap.size+1,0,none⟩),.pointer (some ⟨wr.heap.size+1+1,0,none⟩)]) rfl trivial (enters_of Tryz.func167 (by kernel_rfl) rfl)
      (oi 8 (wr.heap.size+1) (wr.heap.size+1+1) wr.heap.size b o m d (by decide) (by omega) (by omega) C (by omega) (by omega) (by omega) (by omega) aV bs)
      (fun h k=>dc.trans h k) (dc.putObj (DH _)) (DI _ _) (fun _=>rfl)
      (fun pre W=>dB W wr.heap.size .u32 8 (fun i=>(iC (lj l n) z (pre.map Fin.val)).l.getD i 0)/\(dc wr.heap.size C.heap.size C W/\EZ w.heap.size C W))
      (fun _ _ _=>False)
     case hI=>refine OwnFrom.and ?_ (OwnFrom.and (jQ (DH _) (DH _)) (ownFrom_below (by omega) (by omega)));intro pre A B row hs cw V;exact hs.grown cw (DM _ _ (hs.1 0 (by decide))) (fun e=>by have:=(V _ e.symm).1;omega)
     case hIx=>exact fun _ _ _ _ _ hs _ _=>hs
     case h0=>exact⟨a7,dc.refl _ _ _,DI _ _⟩
     case hassign=>
      intro lr x W K hK
      gi_wp2
      exact hK
     case hbody=>
      rintro lr pre x W ⟨u,N,S⟩ hlen;obtain⟨r,al⟩:∃r,iC (lj l n) z (pre.map Fin.val)=r:=⟨_,rfl⟩;have cI:iC (lj l n) z ((pre++[x]).map Fin.val)=dh r (((lj l n).drop (64*x.val)).take 64):=by rw[<-al];simp[iC]
      simp only[al]at u;have s:wr.heap.size < W.heap.size:=by have:=N.1;omega
      have hx:x.val < m:=x.isLt;have bq:(((lj l n).drop (64*x.val)).take 64).length=64:=by rw[DX,DR];omega
      have bw:∀i,i < (((lj l n).drop (64*x.val)).take 64).length->W.cell? ⟨b,o+64*x.val+i,none⟩=some (.int .u8 ((((lj l n).drop (64*x.val)).take 64).getD i 0)):=fun i hi=>by rw[bq]at hi;rw[N.cell (by omega) (by omega)];have:=bd (64*x.val+i) _ (cX .u8 (lj l n) (64*x.val+i) (by omega));rw[show o+64*x.val+i=o+(64*x.val+i)from by omega,this,DJ,DJ,EA,if_pos hi,List.getElem?_drop]
      have cn:bA (((lj l n).drop (64*x.val)).take 64):=((sr n b3).drop _).take _;have bx:fO W:=Hg.ext (aQ.trans S);generalize c1:((lj l n).drop (64*x.val)).take 64=blk at*;have cl:b < W.heap.size:=by omega
      have X:W.cell? ⟨wr.heap.size,0,none⟩=some (.int .u32 r.a):=u.1 0 (by decide);have Y:W.cell? ⟨wr.heap.size,1,none⟩=some (.int .u32 r.b):=u.1 1 (by decide);have Z:W.cell? ⟨wr.heap.size,2,none⟩=some (.int .u32 r.c):=u.1 2 (by decide);have x3:W.cell? ⟨wr.heap.size,3,none⟩=some (.int .u32 r.d):=u.1 3 (by decide);have x4:W.cell? ⟨wr.heap.size,4,none⟩=some (.int .u32 r.e):=u.1 4 (by decide);have x5:W.cell? ⟨wr.heap.size,5,none⟩=some (.int .u32 r.f):=u.1 5 (by decide);have x6:W.cell? ⟨wr.heap.size,6,none⟩=some (.int .u32 r.g):=u.1 6 (by decide);have x7:W.cell? ⟨wr.heap.size,7,none⟩=some (.int .u32 r.h):=u.1 7 (by decide);have b5:=aa bw;have G:=aa u;have b6:=aa bx;clear bw u bx;have h1:1<=9 - 1 - 1:=by decide
      gi_wp2
      refine⟨trivial,?_⟩;refine(CallsIn.inRound lr (callsIn_wide.2 (ph r b (o+64*x.val) 64 blk bq (by omega) (by decide) W b5 cl cn b6))).mono ?_;rintro e w6 ⟨rfl,t⟩;have d0:=((aD t).1 _ _ s).trans X;have d1:=((aD t).1 _ _ s).trans Y;have d2:=((aD t).1 _ _ s).trans Z;have d3:=((aD t).1 _ _ s).trans x3;have d4:=((aD t).1 _ _ s).trans x4;have d5:=((aD t).1 _ _ s).trans x5;have d6:=((aD t).1 _ _ s).trans x6;have d7:=((aD t).1 _ _ s).trans x7;have f0:=((aD t).2 _ _ s).trans (G.2 0);have f1:=((aD t).2 _ _ s).trans (G.2 1);have f2:=((aD t).2 _ _ s).trans (G.2 2);have f3:=((aD t).2 _ _ s).trans (G.2 3);have f4:=((aD t).2 _ _ s).trans (G.2 4);have f5:=((aD t).2 _ _ s).trans (G.2 5);have f6:=((aD t).2 _ _ s).trans (G.2 6);have f7:=((aD t).2 _ _ s).trans (G.2 7);have an:=aa t;clear t X Y Z x3 x4 x5 x6 x7
      gi_wp2
      have cv:=(G.below an s).Cu (dh r blk).a (dh r blk).b (dh r blk).c (dh r blk).d (dh r blk).e (dh r blk).f (dh r blk).g (dh r blk).h;have bB:=(dc.CP (g:=wr.heap.size) an N.1).Cu (.int .u32 (dh r blk).a) (.int .u32 (dh r blk).b) (.int .u32 (dh r blk).c) (.int .u32 (dh r blk).d) (.int .u32 (dh r blk).e) (.int .u32 (dh r blk).f) (.int .u32 (dh r blk).g) (.int .u32 (dh r blk).h);refine⟨mJ (lN an) _ _ _ _ _ _ _ _ _,bB,?_,N.trans bB,lG (S.trans (an.mono (by omega))) _ (by omega) _ _ _ _ _ _ _ _⟩;rw[cI];exact cv
     case hdone=>
      rintro D ys W hD rfl ⟨u,N,S⟩ hK;have hend:iC (lj l n) z ((F5 m).map Fin.val)=oU z l n:=by rw[show(F5 m).map Fin.val=Eh m from by apply List.ext_getElem<;>simp];exact kN m _ _ bI
      simp only[hend]at u;have bm:dB W w.heap.size .u8 32 (fun _=>0):=dB.CI a8 N (by omega) (by omega);have s:wr.heap.size < W.heap.size:=by have:=N.1;omega
      have S:=aQ.trans S;have cV:w.heap.size < D:=by omega
      clear hend N aQ aV bs bd a8 a7 cL cm;obtain⟨r,al⟩:∃r,oU z l n=r:=⟨_,rfl⟩;simp only[al]at u;have bZ:=aa (dB.alloc bm (by omega) (.cells zA 54));have HO:=aa (dq W 32 .u8 54 zA rfl);have E:=dB.alloc u s (.cells zA 54);have cQ:=aa E;have X:(W.alloc (.cells zA 54)).cell? ⟨wr.heap.size,0,none⟩=some (.int .u32 r.a):=E.1 0 (by decide);have Y:(W.alloc (.cells zA 54)).cell? ⟨wr.heap.size,1,none⟩=some (.int .u32 r.b):=E.1 1 (by decide);have Z:(W.alloc (.cells zA 54)).cell? ⟨wr.heap.size,2,none⟩=some (.int .u32 r.c):=E.1 2 (by decide);have x3:(W.alloc (.cells zA 54)).cell? ⟨wr.heap.size,3,none⟩=some (.int .u32 r.d):=E.1 3 (by decide);have x4:(W.alloc (.cells zA 54)).cell? ⟨wr.heap.size,4,none⟩=some (.int .u32 r.e):=E.1 4 (by decide);have x5:(W.alloc (.cells zA 54)).cell? ⟨wr.heap.size,5,none⟩=some (.int .u32 r.f):=E.1 5 (by decide);have x6:(W.alloc (.cells zA 54)).cell? ⟨wr.heap.size,6,none⟩=some (.int .u32 r.g):=E.1 6 (by decide);have x7:(W.alloc (.cells zA 54)).cell? ⟨wr.heap.size,7,none⟩=some (.int .u32 r.h):=E.1 7 (by decide);clear u E bm
      go_wp2_with fail
      have b1:dB _ W.heap.size .u8 32 (fun j=>if j < 4*0 then r.byte j else 0):=HO.congr (fun j T=>by rw[if_neg (by omega)]);have di:w.heap.size+1<=W.heap.size:=by omega
      clear X Y Z x3 x4 x5 x6 x7;go_loopw [52] (fun i' ws=>∃i:Nat,i'=.int .i64 i/\i<=8/\dB ws W.heap.size .u8 32 (fun j=>if j < 4*i then r.byte j else 0)/\EZ W.heap.size W ws/\EZ W.heap.size (W.alloc (.cells zA 54)) ws) (fun i' _=>8 - (Ef i').toNat);case atStart=>exact⟨0,rfl,by omega,b1,(DI _ _).alloc (DH _) _,DI _ _⟩
      case round=>
       obtain⟨i,rfl,hi,aw,ar,aP⟩:=hrel;by_cases cz:i=8
       ·subst cz;have bD:=bC (P:=DE) (ty:=54) (aw.range) EC (by kernel_rfl) (by simp);have a9:=aa (bZ.below (B:=W.heap.size) (w':=wr) (by exact aP) (by omega));have bL:=bu (P:=DE) (k:=.u8) (ty:=54) (l:=(Eh 32).map (fun j=>if j < 4*8 then r.byte j else 0)) a9.there (by kernel_rfl) (by simp);have b7:=aa bD;have b8:=aa bL;clear aw bD bL
        go_wp2_with (first | ((with_reducible refine ak ?_ b7.out ?_);rfl) | ((with_reducible refine bM ?_ ?_ b8.out ?_);rfl;rfl))
        have ce:D < W.heap.size:=(Array.getElem?_eq_some_iff.1 hK).1;have bn:(wr.setCells w.heap.size 0 (ao .u8 ((Eh 32).map (fun j=>if j < 4*8 then r.byte j else 0)))).heap[D]? =some (.deferred (some [])):=(dx _ _ _ (mX.refl w.heap.size wr) D (by omega)).trans ((ar.block D ce).trans hK);refine⟨by simp,.inl ⟨_,_,rfl,run_takeDeferred bn,?_⟩⟩;have cA:((wr.setCells w.heap.size 0 (ao .u8 ((Eh 32).map (fun j=>if j < 4*8 then r.byte j else 0)))).putObj D (.deferred none)).rangeAt w.heap.size 0 (ao .u8 ((Eh 32).map (fun j=>if j < 4*8 then r.byte j else 0))):=fun j v hv=>by rw[World.cell?_of_block (w:=wr.setCells w.heap.size 0 (ao .u8 ((Eh 32).map (fun j=>if j < 4*8 then r.byte j else 0)))) (World.putObj_heap_other (by simp;omega))];exact Eb _ _ _ _ (by simpa using a9.out.there) j v hv
        have cD:=Fe (P:=DE) _ w.heap.size 0 54 _ _ cA EC rfl (by rw[ints_length,List.length_map,List.length_range];exact yZ);refine⟨_,aG rfl rfl cD,?_,?_⟩
        ·rw[al,St.CK]
        ·exact(aE _ _ _ _ (S.trans (ar.mono (by omega))) (DH _)).trans (belowK_b (w:=w) (DH _) _ D _ _ (by omega) bn rfl rfl)
       ·have bO:(Instr.index 205 (.agg (ao .u32 r.l).toArray) (.int .i64 i)).run DE wr=.ok (.int .u32 (r.l.getD i 0)) wr:=jn Iy (fun w=>by simp[go_sem]) (fun w=>by simp[go_sem]) rfl (by omega);have aH:=aa aw;clear aw
        go_wp2_with ((with_reducible refine kf (p:=.agg (ao .u32 r.l).toArray) (v:=.int .i64 i) ?_ ?_ bO ?_);rfl;rfl)
        obtain⟨x,hx⟩:∃x,r.l[i]?.getD 0=x:=⟨_,rfl⟩;simp only[hx];have dj:W.heap.size < wr.heap.size:=DM _ _ (aH.1 0 (by decide));have bV:=aa (show dB wr W.heap.size .u8 32 (fun j=>if j < 4*i+0 then r.byte j else 0)from aH.out);have bT:=aa ar;have bU:=aa aP;clear ar aP aH bO;go_loopw [56] (fun k' ws=>∃k:Nat,k'=.int .i64 k/\k<=4/\dB ws W.heap.size .u8 32 (fun j=>if j < 4*i+k then r.byte j else 0)/\EZ W.heap.size W ws/\EZ W.heap.size (W.alloc (.cells zA 54)) ws) (fun k' _=>4 - (Ef k').toNat);case atStart=>exact⟨0,rfl,by omega,bV,bT,bU⟩
        case round=>
         obtain⟨k,rfl,hk,av,bi,bj⟩:=hrel;by_cases cC:k=4
         ·subst cC
          go_wp2_with fail
          go_roundw;case rel=>exact⟨i+1,rfl,by omega,av,bi,bj⟩
          case measure=>simp[Ef];omega
         ·have hc:wr.cell? ⟨W.heap.size,4*i+k,none⟩=some (.int .u8 0):=(av.1 _ (by omega)).trans (by simp);have c7:wr.frozen? ⟨W.heap.size,4*i+k,none⟩=false:=av.2 _;have df:(4*(i:Int)+(k:Int)).toNat=4*i+k:=by omega
          have bF:(24 - 8*(k:Int)).toNat=24 - 8*k:=by omega
          have cF:(0:Int)<=24 - 8*(k:Int):=by omega
          go_wp2_with fail
          go_roundw;case rel=>
           refine⟨k+1,by simp,by omega,(av.set (4*i+k) (by omega) (x / 2^(24 - 8*k) % 256)).congr (fun j T=> ?_),bi.setCell (p:=⟨W.heap.size,4*i+k,none⟩) (DH _) _,bj.setCell (p:=⟨W.heap.size,4*i+k,none⟩) (DH _) _⟩;by_cases aX:j=4*i+k
           ·rw[if_pos aX,if_pos (by omega),aX,St.byte,show(4*i+k) / 4=i from by omega,show(4*i+k) % 4=k from by omega,DJ,hx]
           ·rw[if_neg aX];by_cases bz:j < 4*i+k
            ·rw[if_pos bz,if_pos (by omega)]
            ·rw[if_neg bz,if_neg (by omega)]
          case measure=>simp[Ef];omega
     case hstop=>rintro D c pre W _ _ h _;exact h.elim
    ·have cT:wr.cell? ⟨y,9,none⟩=some (.int .i64 n):=((aD H).1 _ _ (by omega)).trans cc;have da:(0:Int)<=56 - 8*(j:Int):=by omega
     have cM:w.heap.size+1<=wr.heap.size:=D0 aB H.size;have I:az wr (wr.alloc (.cells #[.int .u8 ((n:Int)*8 / 2^(56 - 8*j) % 256)] 5)):=(DI _ _).alloc (DH _) _;have Hr:=aa (aR U I);have Q:=aa (bh.AS (bW wr 5 #[.int .u8 ((n:Int)*8 / 2^(56 - 8*j) % 256)] wr.heap.size 1 1 (DH _) (by decide) rfl));have ci:M+j+1<=DV:=by unfold DV;omega
     go_wp2_with ((with_reducible refine cY aO Hr.out Q.out rfl (by simp[Value.oneCell']) ci (by omega) (by simp;omega) ?_ ?_ ?_);rfl;rfl;intro v4 w4 ai cy aN ch;obtain⟨p4,c4,aW,cG,cq⟩:=(bh.AS ai).form;subst aW)
     go_roundw;case rel=>refine⟨j+1,by omega,by omega,p4,c4,⟨rfl,rfl,rfl⟩,?_,(H.trans (I.mono cM)).trans aN⟩;rw[nh n j (by omega),<-List.append_assoc,aT];exact ai
     case measure=>simp only[gk];omega
  ·have bJ:((l.length:Int)+1+(j:Int)) % 64≠56:=by unfold dF at T aY;omega
   have I:az wr (wr.alloc (.cells #[.int .u8 0] 5)):=(DI _ _).alloc (DH _) _;have Hr:=aa (aR V I);have Q:=aa (bh.AS (bW wr 5 #[.int .u8 0] wr.heap.size 1 1 (DH _) (by decide) rfl));have c9:j<=64:=by unfold dF at T;omega
   have aB:w.heap.size+1<=wr.heap.size:=D0 a1 L.size
   go_wp2_with ((with_reducible refine cY aO Hr.out Q.out (by simp) (by decide) (by unfold DV;omega) (by omega) (by simp;omega) ?_ ?_ ?_);rfl;rfl;intro v4 w4 ai cy aN ch;obtain⟨p4,c4,aW,cG,cq⟩:=(bh.AS ai).form;subst aW)
   go_roundw;case rel=>refine⟨j+1,p4,c4,rfl,by omega,?_,(L.trans (I.mono aB)).trans aN⟩;rw[show l++128 :: D7 (j+1) (0:Int)=(l++128 :: D7 j 0)++[0]from by simp[List.replicate_succ'],aT];exact ai
   case measure=>simp only[gk];omega
end
theorem vH (w:DF):lT (w.alloc (.cells #[.int .u32 fT.a,.int .u32 fT.b,.int .u32 fT.c,.int .u32 fT.d,.int .u32 fT.e,.int .u32 fT.f,.int .u32 fT.g,.int .u32 fT.h,.slice none 0 0,.int .i64 0] 207)) w.heap.size w.heap.size fT [] 0:=by
 have j:=World.alloc_heap_new w (.cells #[.int .u32 fT.a,.int .u32 fT.b,.int .u32 fT.c,.int .u32 fT.d,.int .u32 fT.e,.int .u32 fT.f,.int .u32 fT.g,.int .u32 fT.h,.slice none 0 0,.int .i64 0] 207);refine⟨gx w 8 .u32 _ _ _ (fun i k=> ?_),⟨.slice none 0 0,?_,World.ownsRow_nil _ _ _ _,by simp[Value.ownBlock]⟩,?_,DH _⟩
 ·match i,k with
  | 0,_=>rfl
  | 1,_=>rfl
  | 2,_=>rfl
  | 3,_=>rfl
  | 4,_=>rfl
  | 5,_=>rfl
  | 6,_=>rfl
  | 7,_=>rfl
 ·simp only[World.cell?,j];rfl
 ·simp only[World.cell?,j];rfl
theorem qY (v:Value) (ps:List (List Int)) (w:DF) (hR:bf w v ps) (hg:fO w) (ad:bA ps.flatten) (hlen:ps.flatten.length<=1099511627776):
  DN DE 88 #[v] w fun e w'=>e=.returned (.agg (ao .u8 (sha ps.flatten)).toArray)/\az w w':=by
 obtain⟨vs,I,aU,ah⟩:=hR;obtain⟨p,c,aM,aV,aL⟩:=I.form;subst aM;have Hv:=aa I;have au:=aa ah;have y:=aa hg;have O:=aa ad;clear I ah hg ad;go_enter Tryz.func88,Tryz.ntmps88
 go_wp2_with fail
 obtain⟨a,m⟩:=exq (w.alloc (.cells zA 54));rw[<-m];have V:az w a:=by rw[m];exact(DI _ _).alloc (DH _) _
 have W:dB a w.heap.size .u8 32 (fun _=>0):=by rw[m];exact dq w 32 .u8 _ _ rfl
 have ag:a.heap.size=w.heap.size+1:=by rw[m];simp
 have n:=aa V;have aj:=aa W;have S:=aa ag;clear m V W ag;refine(xO a (y.ext n)).mono ?_;rintro e w' ⟨rfl,J⟩;have r:=vH a;rw[<-J]at r;have A:EZ a.heap.size a w':=by rw[J];exact(DI _ _).alloc (DH _) _
 obtain⟨f,G⟩:=exq a.heap.size;rw[<-G]at r A⊢;have j:=aa G;clear J G
 go_wp2_with fail
 go_loopw [9] (fun i wr=>∃k:Nat,k<=ps.length/\i=.int .i64 k/\lT wr f f (jN fT (ps.take k).flatten).1 (jN fT (ps.take k).flatten).2 (ps.take k).flatten.length/\EZ f a wr) (fun i _=>ps.length - (Ef i).toNat);case atStart=>exact⟨0,DZ _,rfl,r,A⟩
 case round=>
  obtain⟨k,hk,rfl,X,U⟩:=hrel;have t:=aa X;have d:=aa U;clear X U r A;have aS:ps.length<=9223372036854775807:=by unfold DV at aL;omega
  have q:Hid (az w wr):=aa (n.trans (d.mono (by rw[j.out];exact DH _)));by_cases af:k < ps.length
  ·obtain⟨b,o,aI,aA⟩:∃b o,p=some ⟨b,o,none⟩/\wr.cell? ⟨b,o+k,none⟩=some (vs.getD k undef):=by
    rcases (Hv.ext q)with ⟨h1,h2,h3⟩ | ⟨b,o,c',h1,h2,h3,h4⟩
    ·omega
    ·cases h1;refine⟨b,o,rfl,h4 k _ ?_⟩;rw[DJ,List.getElem?_eq_getElem (by omega)];rfl
   subst aI;have D:=au k af;have F:=ky ps k af;obtain⟨z,ac⟩:=exq (ps.getD k []);rw[<-ac]at D F;have N:=aa D;have u:=aa F;clear D F ac;have Z:=N.ext q;obtain⟨pk,ck,E,aT,aQ⟩:=Z.form;rw[E]at aA;have an:=aa E;clear E Z
   go_wp2_with fail
   have aD:(ps.take k).flatten.length<=1099511627776:=D0 (jR ps k) hlen;have aF:(ps.take (k+1)).flatten.length<=1099511627776:=D0 (jR ps (k+1)) hlen;have aH:z.length<=1099511627776:=by rw[u.out,DS]at aF;omega
   have g:=oS (ps.take k).flatten.length fT (ps.take k).flatten (DH _);have ab:bA ((jN fT (ps.take k).flatten).2++z):=by
    have:=uX O (k+1);rw[u.out]at this;intro x hx;rcases List.mem_append.1 hx with hx | hx
    ·exact this x (List.mem_append_left _ (g.2 x hx))
    ·exact this x (List.mem_append_right _ hx)
   have aK:a.heap.size<=wr.heap.size:=d.size;refine(xP wr f f (ps.take k).flatten.length _ _ z _ t ?_ ?_ ab (by rw[j.out];exact aK) g.1 aH aD).mono ?_
   ·intro w1 K;rw[<-an.out];exact N.ext (n.trans ((d.trans K).mono (by rw[j.out];exact DH _)))
   ·intro w1 K;exact y.ext (n.trans ((d.trans K).mono (by rw[j.out];exact DH _)))
   rintro e M ⟨rfl,Y,T⟩;have al:=aa Y;have ai:=aa T;clear Y T g ab
   go_wp2_with fail
   go_roundw;case rel=>refine⟨k+1,by omega,by go_num,?_,d.trans ai⟩;have h:=al.out;rw[u.out,lJ _ _ _ _ (DH _),DS];exact h
   case measure=>simp[Ef];omega
  ·obtain rfl:k=ps.length:=by omega
   have C:=t.out;rw[List.take_length]at C;have g:=oS ps.flatten.length fT ps.flatten (DH _);have am:=aa C;have R:=aa g;clear C g t
   go_wp2_with fail
   refine(xQ wr f f ps.flatten.length _ _ am (y.ext q) (fun x hx=>O x (R.2 x hx)) R.1 hlen).mono ?_;rintro e M ⟨rfl,L⟩;have B:dB M w.heap.size .u8 32 (fun _=>0):=(aj.below d (by rw[j.out,S.out];omega)).below L (by have:=d.size;rw[S.out]at this;omega);rw[tl];have aJ:Hid (sha ps.flatten=(jN fT (lj ps.flatten ps.flatten.length)).1.bytes):=rfl;obtain⟨sh,s⟩:=exq (sha ps.flatten);rw[<-aJ.out,<-s];have H:sh.length=32:=by rw[s];rfl
   have aq:=aa (bu (P:=DE) (k:=.u8) (ty:=54) (l:=sh) B.there (by kernel_rfl) H);have ak:=aa B;have av:=aa L;have ap:=aa s;have Q:=aa H;clear B L s H
   go_wp2_with (((with_reducible refine bM ?_ ?_ aq.out ?_);rfl;rfl))
   have aB:=Eb M w.heap.size 0 (ao .u8 sh) (by rw[ints_length,Q.out];exact ak.there);have aC:=Fe (P:=DE) _ w.heap.size 0 54 (ao .u8 sh) _ aB EC rfl (by rw[ints_length,Q.out];kernel_rfl);refine DK (v:=.agg (ao .u8 sh).toArray) (aG rfl rfl aC) rfl ⟨by rw[ap.out],aE _ _ _ _ (q.trans av) (DH _)⟩
end Go.Proofs.Bl
