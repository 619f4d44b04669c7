/- Walk of baileeref22.Check. -/
import Derived.Test.YtglenbikdahgjaaGreatDoorPr22
import Derived.Test.YtglenbikdahgjaaGreatDoorPr14
import Derived.Test.YtglenbikdahgjaaGreatDoorPr13
set_option maxRecDepth 100000
set_option maxHeartbeats 16000000
open And renaming intro->DT
open Bool renaming not_false->ET,not_true->Ep,or_assoc->FD
open Go renaming Calls->DN,Value->DG,World->DF,bodyPost_ret->DK,maxLen->DV,run_loadAt_mid->EX
open Go.Region renaming wanted->DP
open Go.RowKit renaming intOf->Ef
open Go.RowKit.Below renaming refl->DI
open Go.World renaming size_alloc->DO
open List renaming getElem?_cons_succ->Gn,getElem?_cons_zero->ID,length_map->D2,take_of_length_le->DW,take_zero->E4
open Nat renaming le_refl->DH,zero_le->DZ
open Option renaming bind_some->Fj
open Or renaming inl->EV
namespace Go.Proofs.Bl
open Go Go.RowKit Go.Proofs
open Go.Proofs.Tryz renaming func40->HU,ntmps40->G1,prog->DE,underlying100->FO,underlying43->DU
theorem qt (v:DG) (l:Cp) (w:DF) (h:dH w v l) (hk:l.kind=4):
  DN DE 40 #[v] w fun e w'=>e=.returned (.int .i64 (aW l:Nat))/\az w w':=by
 have HL:=aa h;obtain⟨cg,vp,vs,vb,L,rfl,X⟩:=h;obtain rfl:=X.eq;have aO:Hid (∀R,az w R->bn l=true->bH l=true->DN DE 60 #[.agg (cL l vp vs vb).toArray] R fun e w'=>∃v',e=.returned v'/\Rd w' .u8 v' (bL l)/\az R w'):=aa fun R h2 hn hz=>ek _ l R (HL.ext h2) (by rw[hk];decide) hn hz
 obtain⟨kd,id,f,pl,sh,t,r,m,p⟩:=l;obtain⟨p1,c1,e1,bK,b8⟩:=X.pl.form;obtain⟨p2,c2,e2,b6,b9⟩:=X.sh.rd.form;obtain⟨p3,c3,e3,bM,ca⟩:=X.bl.form;have b0:Hid (Rd w .i64 vp pl):=aa X.pl;have a1:=aa X.sh;have a6:Hid (L.map cf=sh):=aa X.sl;have bZ:Hid (bf w vb m):=aa X.bl;simp only at e1 e2 e3 hk bK bM;subst hk;subst e1 e2 e3;clear X HL;unfold DV at b8 b9 ca;obtain⟨np,bm⟩:=exq pl.length;obtain⟨j,bc⟩:=exq L.length;obtain⟨nb,bl⟩:=exq m.length;have aL:=aa bm;have bi:=aa bc;have aK:=aa bl;have I:Hid (sh.length=j):=aa (by rw[<-a6.out,D2,bc]);rw[<-bm]at b0 bK aO⊢;rw[<-bc]at a1 b6 aO⊢;rw[<-bl]at bZ bM aO⊢;clear bm bc bl;obtain⟨qI,bp⟩:=exq (wi id 0 1099511627776);obtain⟨qO,bq⟩:=exq (wi f 0 1099511627776);have HN:Hid (bn ⟨4,id,f,pl,sh,t,r,m,p⟩=(qI&&qO&& !sh.any (fun s=>fP s.1))):=aa (by rw[bp,bq];unfold bn lp;rfl);have HS:Hid (bH ⟨4,id,f,pl,sh,t,r,m,p⟩=(wi sh.length 1 12&& !sh.any gS)):=aa (by unfold bH;rfl);have HF:=aa (gY ⟨4,id,f,pl,sh,t,r,m,p⟩);have b2:=aa bp;have b3:=aa bq;clear bp bq;obtain⟨W0,bb⟩:=exq (w.alloc (.cells #[.int .i64 4,.int .i64 id,.int .i64 f,.slice p1 np c1,.slice p2 j c2,.int .i64 t,.int .i64 r,.slice p3 nb c3,.int .i64 p] 43));have a0:Hid (az w W0):=aa (by rw[bb];exact ae _ _);obtain⟨F,ba⟩:=exq (cL ⟨4,id,f,pl,sh,t,r,m,p⟩ (.slice p1 np c1) (.slice p2 j c2) (.slice p3 nb c3));rw[<-ba]at aO;have d:Hid (av W0 w.heap.size F):=aa (by rw[bb,ba];exact av.box w 43 (cs:=(cL ⟨4,id,f,pl,sh,t,r,m,p⟩ (.slice p1 np c1) (.slice p2 j c2) (.slice p3 nb c3))) (fun h=>by cases h));have a:Hid (F[0]? =some (.int .i64 4)/\F[1]? =some (.int .i64 id)/\F[2]? =some (.int .i64 f)/\F[3]? =some (.slice p1 np c1)/\F[4]? =some (.slice p2 j c2)/\F[5]? =some (.int .i64 t)/\F[6]? =some (.int .i64 r)/\F[7]? =some (.slice p3 nb c3)/\F[8]? =some (.int .i64 p)/\F.length=9):=aa (by rw[ba];exact⟨rfl,rfl,rfl,rfl,rfl,rfl,rfl,rfl,rfl,rfl⟩);show DN DE 40 #[.agg #[.int .i64 4,.int .i64 id,.int .i64 f,.slice p1 np c1,.slice p2 j c2,.int .i64 t,.int .i64 r,.slice p3 nb c3,.int .i64 p]] w _;clear ba;go_enter HU,G1
 go_wp2_with fail
 rw[<-bb];clear bb;refine(aY _ _ _ _).mono ?_;rintro e R ⟨rfl,hw⟩;subst hw;have q0:=d.cell a.1;have Y:=d.cell a.2.1;have q2:=d.cell a.2.2.1;rw[show(!wi 4 1 7)=false from rfl]
 go_wp2_with fail
 refine(aY _ _ _ _).mono ?_;rintro e R ⟨rfl,hw⟩;subst hw;rw[<-b2.out];clear Y;cases qI
 ·rw[ET];have q0:=d.cell a.1;have Y:=d.cell a.2.1;have q2:=d.cell a.2.2.1;have q3:=d.cell a.2.2.2.1;have q4:=d.cell a.2.2.2.2.1;have q5:=d.cell a.2.2.2.2.2.1;have q6:=d.cell a.2.2.2.2.2.2.1;have q7:=d.cell a.2.2.2.2.2.2.2.1;have q8:=d.cell a.2.2.2.2.2.2.2.2.1
  go_wp2_with fail
  clear q0 Y q2 q3 q4 q5 q6 q7 q8;go_loopw [3,45] (fun o i wr=>∃(k:Nat) (b:Bool),k<=j/\i=.int .i64 k/\o=.bool b/\Hid (b=true)/\Hid (av wr w.heap.size F)/\Hid (az w wr)) (fun _ i _=>j - (Ef i).toNat);case atStart=>exact⟨0,_,DZ _,rfl,rfl,aa (rfl),d,a0⟩
  case round=>
   obtain⟨k,b,hk,rfl,rfl,C,c,n⟩:=hrel;by_cases ao:k < j
   ·have an:k < sh.length:=by rw[I.out];exact ao
    have N:k < L.length:=by rw[<-bi.out];exact ao
    have K:=a1.ext n;obtain⟨g,o,cc,aX,_,_,_,am⟩:=K.pos (by omega);injection aX with aR aS aT;subst aR;have H:=am k N;have G:=K.ok _ (aH s0 N);have aq:cf (L.getD k s0)=sh.getD k h0:=by rw[<-cR,a6.out]
    have E:=aa (eL (fun s:Sh=>fP s.1) sh h0 an);rw[<-aq]at E;obtain⟨x,hx⟩:=exq (L.getD k s0);rw[<-hx]at H G E;clear hx aq am aS aT K;obtain⟨u,⟨u1,st⟩,u2,pa⟩:=x;obtain⟨y,d1,ar,_,aU⟩:=G.st.form;obtain⟨A,d2,aw,_,aV⟩:=G.pa.form;simp only at ar aw;subst ar aw;obtain⟨m1,O⟩:=exq st.length;obtain⟨m2,Q⟩:=exq pa.length;rw[<-O,<-Q]at H;have bg:=aa O;have bh:=aa Q;have Z:=aa (EX (P:=DE) wr g (o+k*3) 100 _ _ H FO rfl (by rw[bz];kernel_rfl));have ap:∀z∈([.int .i64 u,.slice y m1 d1,.slice A m2 d2]:List DG),z.oneCell'=true:=eu ⟨_,_,_,rfl⟩ ⟨_,_,_,rfl⟩;obtain⟨ah,aj⟩:=av.fresh (cs:=[.int .i64 u,.slice y m1 d1,.slice A m2 d2]) wr 100 fj rfl (fun q=>by cases q);have ac:=aa (aI (P:=DE) (cs:=[.int .i64 u,.slice y m1 d1,.slice A m2 d2]) wr 100 fj rfl ap (ty:=100) (by kernel_rfl));have B:=aa ah;have J:=aa aj;have bR:(0:Int)<=(k:Int):=by omega
    have bS:(k:Int) < (j:Int):=by omega
    clear H G ap ah aj O Q N an aU aV
    go_wp2_with first | ((with_reducible refine ak ?_ Z.out ?_);rfl) | (with_reducible refine aC (ty:=100) ?_)
    refine au ?_;refine ag rfl rfl ac ?_;obtain⟨W5,al⟩:=exq ((wr.alloc (.cells fj 100)).setCells wr.heap.size 0 [.int .i64 u,.slice y m1 d1,.slice A m2 d2]);obtain⟨D,hD⟩:=exq wr.heap.size;rw[<-al]at B J⊢;rw[<-hD]at B⊢;have S:=aa (c.ext J);have T:=aa (n.trans J);have c0:=B.cell (i:=0) (v:=.int .i64 u) rfl;have c1:=B.cell (i:=1) (v:=.slice y m1 d1) rfl;have c2:=B.cell (i:=2) (v:=.slice A m2 d2) rfl;clear al hD ac Z;obtain rfl:b=true:=C.out
    go_wp2_with fail
    go_roundw;case rel=>exact⟨k+1,true,by omega,by go_num,rfl,aa rfl,S,T⟩
    case measure=>simp[Ef];omega
   ·obtain rfl:k=j:=by omega
    have q0:=c.cell a.1;have Y:=c.cell a.2.1;have q2:=c.cell a.2.2.1;have q3:=c.cell a.2.2.2.1;have q4:=c.cell a.2.2.2.2.1;have q5:=c.cell a.2.2.2.2.2.1;have q6:=c.cell a.2.2.2.2.2.2.1;have q7:=c.cell a.2.2.2.2.2.2.2.1;have q8:=c.cell a.2.2.2.2.2.2.2.2.1;obtain rfl:b=true:=C.out;have HV:=aa (ij (l:=⟨4,id,f,pl,sh,t,r,m,p⟩) rfl (by rw[HN.out];rfl))
    go_wp2_with fail
    go_ret;exact⟨by rw[HV.out];rfl,n⟩
 ·rw[Ep]
  go_wp2_with fail
  refine(aY _ _ _ _).mono ?_;rintro e R ⟨rfl,hw⟩;subst hw;rw[<-b3.out];have q0:=d.cell a.1;have Y:=d.cell a.2.1;have q2:=d.cell a.2.2.1;have q3:=d.cell a.2.2.2.1;have q4:=d.cell a.2.2.2.2.1;have q5:=d.cell a.2.2.2.2.2.1;have q6:=d.cell a.2.2.2.2.2.2.1;have q7:=d.cell a.2.2.2.2.2.2.2.1;have q8:=d.cell a.2.2.2.2.2.2.2.2.1
  go_wp2_with fail
  clear q0 Y q2 q3 q4 q5 q6 q7 q8;go_loopw [3,45] (fun o i wr=>∃(k:Nat) (b:Bool),k<=j/\i=.int .i64 k/\o=.bool b/\Hid (b=(!qO||(sh.take k).any (fun s:Sh=>fP s.1)))/\Hid (av wr w.heap.size F)/\Hid (az w wr)) (fun _ i _=>j - (Ef i).toNat);case atStart=>exact⟨0,_,DZ _,rfl,rfl,aa (by rw[E4];simp),d,a0⟩
  case round=>
   obtain⟨k,b,hk,rfl,rfl,C,c,n⟩:=hrel;by_cases ao:k < j
   ·have an:k < sh.length:=by rw[I.out];exact ao
    have N:k < L.length:=by rw[<-bi.out];exact ao
    have K:=a1.ext n;obtain⟨g,o,cc,aX,_,_,_,am⟩:=K.pos (by omega);injection aX with aR aS aT;subst aR;have H:=am k N;have G:=K.ok _ (aH s0 N);have aq:cf (L.getD k s0)=sh.getD k h0:=by rw[<-cR,a6.out]
    have E:=aa (eL (fun s:Sh=>fP s.1) sh h0 an);rw[<-aq]at E;obtain⟨x,hx⟩:=exq (L.getD k s0);rw[<-hx]at H G E;clear hx aq am aS aT K;obtain⟨u,⟨u1,st⟩,u2,pa⟩:=x;obtain⟨y,d1,ar,_,aU⟩:=G.st.form;obtain⟨A,d2,aw,_,aV⟩:=G.pa.form;simp only at ar aw;subst ar aw;obtain⟨m1,O⟩:=exq st.length;obtain⟨m2,Q⟩:=exq pa.length;rw[<-O,<-Q]at H;have bg:=aa O;have bh:=aa Q;have Z:=aa (EX (P:=DE) wr g (o+k*3) 100 _ _ H FO rfl (by rw[bz];kernel_rfl));have ap:∀z∈([.int .i64 u,.slice y m1 d1,.slice A m2 d2]:List DG),z.oneCell'=true:=eu ⟨_,_,_,rfl⟩ ⟨_,_,_,rfl⟩;obtain⟨ah,aj⟩:=av.fresh (cs:=[.int .i64 u,.slice y m1 d1,.slice A m2 d2]) wr 100 fj rfl (fun q=>by cases q);have ac:=aa (aI (P:=DE) (cs:=[.int .i64 u,.slice y m1 d1,.slice A m2 d2]) wr 100 fj rfl ap (ty:=100) (by kernel_rfl));have B:=aa ah;have J:=aa aj;have bR:(0:Int)<=(k:Int):=by omega
    have bS:(k:Int) < (j:Int):=by omega
    clear H G ap ah aj O Q N an aU aV
    go_wp2_with first | ((with_reducible refine ak ?_ Z.out ?_);rfl) | (with_reducible refine aC (ty:=100) ?_)
    refine au ?_;refine ag rfl rfl ac ?_;obtain⟨W5,al⟩:=exq ((wr.alloc (.cells fj 100)).setCells wr.heap.size 0 [.int .i64 u,.slice y m1 d1,.slice A m2 d2]);obtain⟨D,hD⟩:=exq wr.heap.size;rw[<-al]at B J⊢;rw[<-hD]at B⊢;have S:=aa (c.ext J);have T:=aa (n.trans J);have c0:=B.cell (i:=0) (v:=.int .i64 u) rfl;have c1:=B.cell (i:=1) (v:=.slice y m1 d1) rfl;have c2:=B.cell (i:=2) (v:=.slice A m2 d2) rfl;clear al hD ac Z;cases b
    ·go_wp2_with fail
     refine(aY _ _ _ _).mono ?_;rintro e R ⟨rfl,hw⟩;subst hw
     go_wp2_with fail
     go_roundw;case rel=>exact⟨k+1,_,by omega,by go_num,rfl,aa (by rw[E.out,<-FD,<-C.out];rfl),S,T⟩
     case measure=>simp[Ef];omega
    ·go_wp2_with fail
     go_roundw;case rel=>exact⟨k+1,true,by omega,by go_num,rfl,aa (by rw[E.out,<-FD,<-C.out];rfl),S,T⟩
     case measure=>simp[Ef];omega
   ·obtain rfl:k=j:=by omega
    have q0:=c.cell a.1;have Y:=c.cell a.2.1;have q2:=c.cell a.2.2.1;have q3:=c.cell a.2.2.2.1;have q4:=c.cell a.2.2.2.2.1;have q5:=c.cell a.2.2.2.2.2.1;have q6:=c.cell a.2.2.2.2.2.2.1;have q7:=c.cell a.2.2.2.2.2.2.2.1;have q8:=c.cell a.2.2.2.2.2.2.2.2.1;rw[DW (by rw[I.out];exact DH _)]at C;cases b
    rotate_left
    ·have HV:=aa (ij (l:=⟨4,id,f,pl,sh,t,r,m,p⟩) rfl (by rw[HN.out];exact AR C))
     go_wp2_with fail
     go_ret;exact⟨by rw[HV.out];rfl,n⟩
    have U:Hid (bn ⟨4,id,f,pl,sh,t,r,m,p⟩=true):=aa (by rw[HN.out];obtain⟨z1,z2⟩:=xm C;rw[z1,z2];rfl);obtain⟨qB,bo⟩:=exq (wi (k:Int) 1 12);rw[I.out,<-bo]at HS;have b1:=aa bo;have d:=c;have a0:=n;clear bo c n C
    go_wp2_with fail
    refine(aY _ _ _ _).mono ?_;rintro e R ⟨rfl,hw⟩;subst hw;rw[<-b1.out]
    go_wp2_with fail
    clear q0 Y q2 q3 q4 q5 q6 q7 q8;obtain⟨j,rfl⟩:=exq k;go_loopw [3,128] (fun o i wr=>∃(k:Nat) (b:Bool),k<=j/\i=.int .i64 k/\o=.bool b/\Hid (b=(!qB||(sh.take k).any gS))/\Hid (av wr w.heap.size F)/\Hid (az w wr)) (fun _ i _=>j - (Ef i).toNat);case atStart=>exact⟨0,_,DZ _,rfl,rfl,aa (by rw[E4];simp),d,a0⟩
    case round=>
     obtain⟨k,b,hk,rfl,rfl,C,c,n⟩:=hrel;by_cases ao:k < j
     ·have an:k < sh.length:=by rw[I.out];exact ao
      have N:k < L.length:=by rw[<-bi.out];exact ao
      have K:=a1.ext n;obtain⟨g,o,cc,aX,_,_,_,am⟩:=K.pos (by omega);injection aX with aR aS aT;subst aR;have H:=am k N;have G:=K.ok _ (aH s0 N);have aq:cf (L.getD k s0)=sh.getD k h0:=by rw[<-cR,a6.out]
      have E:=aa (eL (gS) sh h0 an);rw[<-aq]at E;obtain⟨x,hx⟩:=exq (L.getD k s0);rw[<-hx]at H G E;clear hx aq am aS aT K;obtain⟨u,⟨u1,st⟩,u2,pa⟩:=x;obtain⟨y,d1,ar,_,aU⟩:=G.st.form;obtain⟨A,d2,aw,_,aV⟩:=G.pa.form;simp only at ar aw;subst ar aw;obtain⟨m1,O⟩:=exq st.length;obtain⟨m2,Q⟩:=exq pa.length;rw[<-O,<-Q]at H;have bg:=aa O;have bh:=aa Q;have Z:=aa (EX (P:=DE) wr g (o+k*3) 100 _ _ H FO rfl (by rw[bz];kernel_rfl));have ap:∀z∈([.int .i64 u,.slice y m1 d1,.slice A m2 d2]:List DG),z.oneCell'=true:=eu ⟨_,_,_,rfl⟩ ⟨_,_,_,rfl⟩;obtain⟨ah,aj⟩:=av.fresh (cs:=[.int .i64 u,.slice y m1 d1,.slice A m2 d2]) wr 100 fj rfl (fun q=>by cases q);have ac:=aa (aI (P:=DE) (cs:=[.int .i64 u,.slice y m1 d1,.slice A m2 d2]) wr 100 fj rfl ap (ty:=100) (by kernel_rfl));have B:=aa ah;have J:=aa aj;have bR:(0:Int)<=(k:Int):=by omega
      have bS:(k:Int) < (j:Int):=by omega
      clear H G ap ah aj O Q N an aU aV
      go_wp2_with first | ((with_reducible refine ak ?_ Z.out ?_);rfl) | (with_reducible refine aC (ty:=100) ?_)
      refine au ?_;refine ag rfl rfl ac ?_;obtain⟨W5,al⟩:=exq ((wr.alloc (.cells fj 100)).setCells wr.heap.size 0 [.int .i64 u,.slice y m1 d1,.slice A m2 d2]);obtain⟨D,hD⟩:=exq wr.heap.size;rw[<-al]at B J⊢;rw[<-hD]at B⊢;have S:=aa (c.ext J);have T:=aa (n.trans J);have c0:=B.cell (i:=0) (v:=.int .i64 u) rfl;have c1:=B.cell (i:=1) (v:=.slice y m1 d1) rfl;have c2:=B.cell (i:=2) (v:=.slice A m2 d2) rfl;clear al hD ac Z;have bJ:Hid (gS (cf (u,(.slice y st.length d1,st),.slice A pa.length d2,pa))=(!decide (m1=16)|| !decide (m2<=10))):=aa (by show(!decide (st.length=16)|| !decide (pa.length<=10))=_;rw[bg.out,bh.out]);rw[bJ.out]at E;clear bJ;cases b
      ·by_cases bj:m1=16
       ·subst bj;by_cases a7:m2<=10
        ·have b4:¬((10:Int) < (m2:Int)):=by omega
         have Hd:Hid (decide (m2<=10)=true):=aa (decide_eq_true a7);clear a7
         go_wp2_with fail
         go_roundw;case rel=>exact⟨k+1,false,by omega,by go_num,(by first | rfl | exact congrArg Value.bool a8),aa (by rw[E.out,Hd.out,<-FD,<-C.out];rfl),S,T⟩
         case measure=>simp[Ef];omega
        ·have b4:(10:Int) < (m2:Int):=by omega
         have Hd:Hid (decide (m2<=10)=false):=aa (decide_eq_false a7);clear a7
         go_wp2_with fail
         go_roundw;case rel=>exact⟨k+1,true,by omega,by go_num,(by first | rfl | exact congrArg Value.bool a8),aa (by rw[E.out,Hd.out,<-FD,<-C.out];rfl),S,T⟩
         case measure=>simp[Ef];omega
       ·have bG:¬((m1:Int)=16):=by omega
        have ci:((m1:Int)==16)=false:=by rw[beq_eq_false_iff_ne];exact bG
        have a8:((m1:Int) != 16)=true:=by rw[bne_iff_ne];exact bG
        have Hd:Hid (decide (m1=16)=false):=aa (decide_eq_false bj);clear bj
        go_wp2_with fail
        go_roundw;case rel=>exact⟨k+1,true,by omega,by go_num,(by first | rfl | exact congrArg Value.bool a8),aa (by rw[E.out,Hd.out,<-FD,<-C.out];rfl),S,T⟩
        case measure=>simp[Ef];omega
      ·go_wp2_with fail
       go_roundw;case rel=>exact⟨k+1,true,by omega,by go_num,(by first | rfl | exact congrArg Value.bool a8),aa (by rw[E.out,<-FD,<-C.out];rfl),S,T⟩
       case measure=>simp[Ef];omega
     ·obtain rfl:k=j:=by omega
      rw[DW (by rw[I.out];exact DH _)]at C;have q0:=c.cell a.1;have Y:=c.cell a.2.1;have q2:=c.cell a.2.2.1;have q3:=c.cell a.2.2.2.1;have q4:=c.cell a.2.2.2.2.1;have q5:=c.cell a.2.2.2.2.2.1;have q6:=c.cell a.2.2.2.2.2.2.1;have q7:=c.cell a.2.2.2.2.2.2.2.1;have q8:=c.cell a.2.2.2.2.2.2.2.2.1;cases b
      rotate_left
      ·have HV:=aa (yu (l:=⟨4,id,f,pl,sh,t,r,m,p⟩) rfl U (by rw[HS.out];exact zJ C))
       go_wp2_with fail
       go_ret;exact⟨by rw[HV.out];rfl,n⟩
      have Hs:Hid (bH ⟨4,id,f,pl,sh,t,r,m,p⟩=true):=aa (by rw[HS.out];obtain⟨z1,z2⟩:=xm C;rw[z1,z2];rfl)
      go_wp2_with (with_reducible refine fw ?_)
      refine au ?_;iterate 28 (try (first | go_values | go_skip | go_guarded | go_step | go_upon | go_back | (simp only[Int.not_lt,Int.not_le]at*;go_simp) | (go_values<;>(try go_simp))))
      rw[mA];by_cases cj:(0:Int) < (nb:Int)
      ·have HV:=aa (dT (l:=⟨4,id,f,pl,sh,t,r,m,p⟩) rfl U Hs (fun q=>by obtain⟨V,a2,a3,a4,a5,W⟩:=HF.1 q;(try dsimp only at V a2 a3 a4 a5 W);have:=aL.out;have:=I.out;have:=aK.out;omega))
       go_wp2_with fail
       go_ret;exact⟨by rw[HV.out];rfl,n⟩
      by_cases ck:(0:Int) < (np:Int)
      ·have HV:=aa (dT (l:=⟨4,id,f,pl,sh,t,r,m,p⟩) rfl U Hs (fun q=>by obtain⟨V,a2,a3,a4,a5,W⟩:=HF.1 q;(try dsimp only at V a2 a3 a4 a5 W);have:=aL.out;have:=I.out;have:=aK.out;omega))
       go_wp2_with fail
       go_ret;exact⟨by rw[HV.out];rfl,n⟩
      by_cases bQ:t=0
      rotate_left
      ·have cn:(t==0)=false:=by rw[beq_eq_false_iff_ne];exact bQ
       have HV:=aa (dT (l:=⟨4,id,f,pl,sh,t,r,m,p⟩) rfl U Hs (fun q=>by obtain⟨V,a2,a3,a4,a5,W⟩:=HF.1 q;(try dsimp only at V a2 a3 a4 a5 W);have:=aL.out;have:=I.out;have:=aK.out;omega))
       go_wp2_with fail
       go_ret;exact⟨by rw[HV.out];rfl,n⟩
      subst bQ;by_cases bP:r=0
      rotate_left
      ·have cm:(r==0)=false:=by rw[beq_eq_false_iff_ne];exact bP
       have HV:=aa (dT (l:=⟨4,id,f,pl,sh,0,r,m,p⟩) rfl U Hs (fun q=>by obtain⟨V,a2,a3,a4,a5,W⟩:=HF.1 q;(try dsimp only at V a2 a3 a4 a5 W);have:=aL.out;have:=I.out;have:=aK.out;omega))
       go_wp2_with fail
       go_ret;exact⟨by rw[HV.out];rfl,n⟩
      subst bP;by_cases bO:p=0
      rotate_left
      ·have cl:(p==0)=false:=by rw[beq_eq_false_iff_ne];exact bO
       have HV:=aa (dT (l:=⟨4,id,f,pl,sh,0,0,m,p⟩) rfl U Hs (fun q=>by obtain⟨V,a2,a3,a4,a5,W⟩:=HF.1 q;(try dsimp only at V a2 a3 a4 a5 W);have:=aL.out;have:=I.out;have:=aK.out;omega))
       go_wp2_with fail
       go_ret;exact⟨by rw[HV.out];rfl,n⟩
      subst bO;have hf:eA ⟨4,id,f,pl,sh,0,0,m,0⟩=true:=by refine HF.2 ⟨?_,?_,?_,?_,?_,?_⟩<;>(first | exact EV rfl | exact EV (EV rfl) | exact EV (Or.inr rfl) | exact EV trivial | exact EV (EV trivial) | exact EV (Or.inr trivial) | ((try dsimp only);have:=aL.out;have:=I.out;have:=aK.out;omega))
      have Hf:=aa hf;clear hf;have Hl:=aa (c.load (P:=DE) DU rfl (by rw[a.out.2.2.2.2.2.2.2.2.2];kernel_rfl))
      go_wp2_with ((with_reducible refine ak ?_ Hl.out ?_);rfl)
      refine(aO _ n U Hs).mono ?_;rintro e wz ⟨vz,rfl,bT,bI⟩;obtain⟨pz,cz,b7,_,_⟩:=bT.form;subst b7;have bs:=aa (n.trans bI);obtain⟨M,hM⟩:=exq ((bL ⟨4,id,f,pl,sh,0,0,m,0⟩).length);rw[<-hM];have HM:=aa hM;clear hM bT bI Hl;by_cases h8:8000 < M
      ·have b5:(8000:Int) < (M:Int):=by omega
       have HV:=aa (rZ (l:=⟨4,id,f,pl,sh,0,0,m,0⟩) rfl U Hs Hf (by rw[<-HM.out];exact h8));clear h8
       go_wp2_with fail
       go_ret;exact⟨by rw[HV.out];rfl,bs⟩
      ·have b5:¬((8000:Int) < (M:Int)):=by omega
       have HV:=aa (r5 (l:=⟨4,id,f,pl,sh,0,0,m,0⟩) rfl U Hs Hf (by rw[<-HM.out];exact h8));clear h8
       go_wp2_with fail
       go_ret;exact⟨by rw[HV.out];rfl,bs⟩
theorem qu (v:DG) (l:Cp) (w:DF) (h:dH w v l) (X:l.kind=6):
  DN DE 40 #[v] w fun e w'=>e=.returned (.int .i64 (aW l:Nat))/\az w w':=by
 have HL:=aa h;obtain⟨bC,vp,vs,vb,L,rfl,t⟩:=h;obtain rfl:=t.eq;have H:Hid (∀s,az w s->bn l=true->bH l=true->DN DE 60 #[.agg (cL l vp vs vb).toArray] s fun e w'=>∃v',e=.returned v'/\Rd w' .u8 v' (bL l)/\az s w'):=aa fun s h2 hn hz=>ek _ l s (HL.ext h2) (by rw[X];decide) hn hz
 obtain⟨kd,id,d,pl,sh,c,j,a,g⟩:=l;obtain⟨p1,N,e1,aJ,bp⟩:=t.pl.form;obtain⟨p2,O,e2,bk,bq⟩:=t.sh.rd.form;obtain⟨R,Q,e3,aK,br⟩:=t.bl.form;have bb:Hid (Rd w .i64 vp pl):=aa t.pl;have bg:=aa t.sh;have bh:Hid (L.map cf=sh):=aa t.sl;have ax:Hid (bf w vb a):=aa t.bl;simp only at e1 e2 e3 X aJ aK;subst X;subst e1 e2 e3;clear t HL;unfold DV at bp bq br;obtain⟨E,ai⟩:=exq pl.length;obtain⟨C,Y⟩:=exq L.length;obtain⟨nb,ah⟩:=exq a.length;have J:=aa ai;have bz:=aa Y;have x:=aa ah;have K:Hid (sh.length=C):=aa (by rw[<-bh.out,D2,Y]);rw[<-ai]at bb aJ H⊢;rw[<-Y]at bg bk H⊢;rw[<-ah]at ax aK H⊢;clear ai Y ah;obtain⟨qI,al⟩:=exq (wi id 0 1099511627776);obtain⟨qO,am⟩:=exq (wi d 0 1099511627776);have I:Hid (bn ⟨6,id,d,pl,sh,c,j,a,g⟩=(qI&&qO&&wi c 0 511)):=aa (by rw[al,am];unfold bn lp;rfl);have HS:Hid (bH ⟨6,id,d,pl,sh,c,j,a,g⟩=(wi a.length 1 512&& !a.any fk)):=aa (by unfold bH;rfl);have G:=aa (gY ⟨6,id,d,pl,sh,c,j,a,g⟩);have bd:=aa al;have be:=aa am;clear al am;obtain⟨W0,W⟩:=exq (w.alloc (.cells #[.int .i64 6,.int .i64 id,.int .i64 d,.slice p1 E N,.slice p2 C O,.int .i64 c,.int .i64 j,.slice R nb Q,.int .i64 g] 43));have S:Hid (az w W0):=aa (by rw[W];exact ae _ _);obtain⟨p,V⟩:=exq (cL ⟨6,id,d,pl,sh,c,j,a,g⟩ (.slice p1 E N) (.slice p2 C O) (.slice R nb Q));rw[<-V]at H;have m:Hid (av W0 w.heap.size p):=aa (by rw[W,V];exact av.box w 43 (cs:=(cL ⟨6,id,d,pl,sh,c,j,a,g⟩ (.slice p1 E N) (.slice p2 C O) (.slice R nb Q))) (fun h=>by cases h));have f:Hid (p[0]? =some (.int .i64 6)/\p[1]? =some (.int .i64 id)/\p[2]? =some (.int .i64 d)/\p[3]? =some (.slice p1 E N)/\p[4]? =some (.slice p2 C O)/\p[5]? =some (.int .i64 c)/\p[6]? =some (.int .i64 j)/\p[7]? =some (.slice R nb Q)/\p[8]? =some (.int .i64 g)/\p.length=9):=aa (by rw[V];exact⟨rfl,rfl,rfl,rfl,rfl,rfl,rfl,rfl,rfl,rfl⟩);show DN DE 40 #[.agg #[.int .i64 6,.int .i64 id,.int .i64 d,.slice p1 E N,.slice p2 C O,.int .i64 c,.int .i64 j,.slice R nb Q,.int .i64 g]] w _;clear V;go_enter HU,G1
 go_wp2_with fail
 rw[<-W];clear W;refine(aY _ _ _ _).mono ?_;rintro e s ⟨rfl,hw⟩;subst hw;have q0:=m.cell f.1;have q1:=m.cell f.2.1;have q2:=m.cell f.2.2.1;rw[show(!wi 6 1 7)=false from rfl]
 go_wp2_with fail
 refine(aY _ _ _ _).mono ?_;rintro e s ⟨rfl,hw⟩;subst hw;rw[<-bd.out];clear q1;cases qI
 ·rw[ET];have HV:=aa (ij (l:=⟨6,id,d,pl,sh,c,j,a,g⟩) rfl (by rw[I.out];rfl))
  go_wp2_with fail
  go_ret;exact⟨by rw[HV.out];rfl,S⟩
 ·rw[Ep]
  go_wp2_with fail
  refine(aY _ _ _ _).mono ?_;rintro e s ⟨rfl,hw⟩;subst hw;rw[<-be.out];cases qO
  ·rw[ET];have HV:=aa (ij (l:=⟨6,id,d,pl,sh,c,j,a,g⟩) rfl (by rw[I.out];rfl))
   go_wp2_with fail
   go_ret;exact⟨by rw[HV.out];rfl,S⟩
  ·rw[Ep];have q0:=m.cell f.1;have q1:=m.cell f.2.1;have q2:=m.cell f.2.2.1;have q3:=m.cell f.2.2.2.1;have q4:=m.cell f.2.2.2.2.1;have q5:=m.cell f.2.2.2.2.2.1;have q6:=m.cell f.2.2.2.2.2.2.1;have q7:=m.cell f.2.2.2.2.2.2.2.1;have q8:=m.cell f.2.2.2.2.2.2.2.2.1;obtain⟨qF,aQ⟩:=exq (wi c 0 511);have aB:=aa aQ;clear aQ;rw[<-aB.out]at I
   go_wp2_with fail
   refine(aY _ _ _ _).mono ?_;rintro e s ⟨rfl,hw⟩;subst hw;rw[<-aB.out];cases qF
   ·rw[ET];have HV:=aa (ij (l:=⟨6,id,d,pl,sh,c,j,a,g⟩) rfl (by rw[I.out];rfl))
    go_wp2_with fail
    go_ret;exact⟨by rw[HV.out];rfl,S⟩
   rw[Ep];have u:Hid (bn ⟨6,id,d,pl,sh,c,j,a,g⟩=true):=aa (by rw[I.out];rfl);obtain⟨qB,aj⟩:=exq (wi (nb:Int) 1 512);rw[<-x.out,<-aj]at HS;have bc:=aa aj;clear aj
   go_wp2_with fail
   refine(aY _ _ _ _).mono ?_;rintro e s ⟨rfl,hw⟩;subst hw;rw[<-bc.out]
   go_wp2_with fail
   clear q0 q1 q2 q3 q4 q5 q6 q7 q8;go_loopw [3,107] (fun o i wr=>∃(k:Nat) (b:Bool),k<=nb/\i=.int .i64 k/\o=.bool b/\Hid (b=(!qB||(a.take k).any fk))/\Hid (av wr w.heap.size p)/\Hid (az w wr)) (fun _ i _=>nb - (Ef i).toNat);case atStart=>exact⟨0,_,DZ _,rfl,rfl,aa (by rw[E4];simp),m,S⟩
   case round=>
    obtain⟨k,b,X,rfl,rfl,D,n,r⟩:=hrel;by_cases bo:k < nb
    ·have ag:k < a.length:=by rw[<-x.out];exact bo
     obtain⟨bP,aS,aT,aU⟩:=ax.ext r;obtain⟨gb,ob,bt,bm,aL⟩:=bf.Cv aS aT k ag;subst bt;have an:=aU k ag;have T:=aa (eL fk a [] ag);obtain⟨y,hy⟩:=exq (a.getD k []);rw[<-hy]at an T;obtain⟨g1,bB,aN,_,_⟩:=an.form;rw[aN]at aL;obtain⟨F,Z⟩:=exq y.length;rw[<-Z]at aL;have bA:=aa Z;have aI:Hid (fk y= !decide (F=16)):=aa (by unfold fk;rw[Z]);clear aS aT aU bm an hy aN Z;cases b
     ·by_cases ad:F=16
      ·subst ad
       go_wp2_with fail
       go_roundw;case rel=>exact⟨k+1,false,by omega,by go_num,rfl,aa (by rw[T.out,aI.out,<-FD,<-D.out];rfl),n,r⟩
       case measure=>simp[Ef];omega
      ·have aG:¬((F:Int)=16):=by omega
       have bF:((F:Int)==16)=false:=by rw[beq_eq_false_iff_ne];exact aG
       have bi:((F:Int) != 16)=true:=by rw[bne_iff_ne];exact aG
       have Hd:Hid (decide (F=16)=false):=aa (decide_eq_false ad);clear ad
       go_wp2_with fail
       go_roundw;case rel=>exact⟨k+1,true,by omega,by go_num,(by first | rfl | exact congrArg Value.bool bi),aa (by rw[T.out,aI.out,Hd.out,<-FD,<-D.out];rfl),n,r⟩
       case measure=>simp[Ef];omega
     ·go_wp2_with fail
      go_roundw;case rel=>exact⟨k+1,true,by omega,by go_num,rfl,aa (by rw[T.out,<-FD,<-D.out];rfl),n,r⟩
      case measure=>simp[Ef];omega
    ·obtain rfl:k=nb:=by omega
     rw[DW (by rw[<-x.out];exact DH _)]at D;have q0:=n.cell f.1;have q1:=n.cell f.2.1;have q2:=n.cell f.2.2.1;have q3:=n.cell f.2.2.2.1;have q4:=n.cell f.2.2.2.2.1;have q5:=n.cell f.2.2.2.2.2.1;have q6:=n.cell f.2.2.2.2.2.2.1;have q7:=n.cell f.2.2.2.2.2.2.2.1;have q8:=n.cell f.2.2.2.2.2.2.2.2.1;cases b
     rotate_left
     ·have HV:=aa (yu (l:=⟨6,id,d,pl,sh,c,j,a,g⟩) rfl u (by rw[HS.out];exact zJ D))
      go_wp2_with fail
      go_ret;exact⟨by rw[HV.out];rfl,r⟩
     have z:Hid (bH ⟨6,id,d,pl,sh,c,j,a,g⟩=true):=aa (by rw[HS.out];obtain⟨z1,z2⟩:=xm D;rw[z1,z2];rfl)
     go_wp2_with (with_reducible refine fw ?_)
     refine au ?_;iterate 28 (try (first | go_values | go_skip | go_guarded | go_step | go_upon | go_back | (simp only[Int.not_lt,Int.not_le]at*;go_simp) | (go_values<;>(try go_simp))))
     rw[mA];by_cases bG:(0:Int) < (E:Int)
     ·have HV:=aa (dT (l:=⟨6,id,d,pl,sh,c,j,a,g⟩) rfl u z (fun q=>by obtain⟨A,a2,a3,a4,a5,B⟩:=G.1 q;(try dsimp only at A a2 a3 a4 a5 B);have:=J.out;have:=K.out;have:=x.out;omega))
      go_wp2_with fail
      go_ret;exact⟨by rw[HV.out];rfl,r⟩
     by_cases bI:(0:Int) < (C:Int)
     ·have HV:=aa (dT (l:=⟨6,id,d,pl,sh,c,j,a,g⟩) rfl u z (fun q=>by obtain⟨A,a2,a3,a4,a5,B⟩:=G.1 q;(try dsimp only at A a2 a3 a4 a5 B);have:=J.out;have:=K.out;have:=x.out;omega))
      go_wp2_with fail
      go_ret;exact⟨by rw[HV.out];rfl,r⟩
     by_cases aP:j=0
     rotate_left
     ·have bK:(j==0)=false:=by rw[beq_eq_false_iff_ne];exact aP
      have HV:=aa (dT (l:=⟨6,id,d,pl,sh,c,j,a,g⟩) rfl u z (fun q=>by obtain⟨A,a2,a3,a4,a5,B⟩:=G.1 q;(try dsimp only at A a2 a3 a4 a5 B);have:=J.out;have:=K.out;have:=x.out;omega))
      go_wp2_with fail
      go_ret;exact⟨by rw[HV.out];rfl,r⟩
     subst aP;by_cases aO:g=0
     rotate_left
     ·have bJ:(g==0)=false:=by rw[beq_eq_false_iff_ne];exact aO
      have HV:=aa (dT (l:=⟨6,id,d,pl,sh,c,0,a,g⟩) rfl u z (fun q=>by obtain⟨A,a2,a3,a4,a5,B⟩:=G.1 q;(try dsimp only at A a2 a3 a4 a5 B);have:=J.out;have:=K.out;have:=x.out;omega))
      go_wp2_with fail
      go_ret;exact⟨by rw[HV.out];rfl,r⟩
     subst aO;have hf:eA ⟨6,id,d,pl,sh,c,0,a,0⟩=true:=by refine G.2 ⟨?_,?_,?_,?_,?_,?_⟩<;>(first | exact EV rfl | exact EV (EV rfl) | exact EV (Or.inr rfl) | exact EV trivial | exact EV (EV trivial) | exact EV (Or.inr trivial) | ((try dsimp only);have:=J.out;have:=K.out;have:=x.out;omega))
     have Hf:=aa hf;clear hf;have Hl:=aa (n.load (P:=DE) DU rfl (by rw[f.out.2.2.2.2.2.2.2.2.2];kernel_rfl))
     go_wp2_with ((with_reducible refine ak ?_ Hl.out ?_);rfl)
     refine(H _ r u z).mono ?_;rintro e wz ⟨vz,rfl,aR,aH⟩;obtain⟨pz,cz,bl,_,_⟩:=aR.form;subst bl;have aq:=aa (r.trans aH);obtain⟨M,hM⟩:=exq ((bL ⟨6,id,d,pl,sh,c,0,a,0⟩).length);rw[<-hM];have HM:=aa hM;clear hM aR aH Hl;by_cases U:8000 < M
     ·have bj:(8000:Int) < (M:Int):=by omega
      have HV:=aa (rZ (l:=⟨6,id,d,pl,sh,c,0,a,0⟩) rfl u z Hf (by rw[<-HM.out];exact U));clear U
      go_wp2_with fail
      go_ret;exact⟨by rw[HV.out];rfl,aq⟩
     ·have bj:¬((8000:Int) < (M:Int)):=by omega
      have HV:=aa (r5 (l:=⟨6,id,d,pl,sh,c,0,a,0⟩) rfl u z Hf (by rw[<-HM.out];exact U));clear U
      go_wp2_with fail
      go_ret;exact⟨by rw[HV.out];rfl,aq⟩
theorem qv (v:DG) (l:Cp) (w:DF) (h:dH w v l) (b:wi l.kind 1 7=false):
  DN DE 40 #[v] w fun e w'=>e=.returned (.int .i64 (aW l:Nat))/\az w w':=by
 obtain⟨cs,vp,vs,vb,L,rfl,g⟩:=h;obtain rfl:=g.eq;have HV:=aa (Be b);have d:=aa b;clear b;obtain⟨f,a⟩:=exq (w.alloc (.cells (cL l vp vs vb).toArray 43));have c:Hid (az w f):=aa (by rw[a];exact ae _ _);unfold cL at a;show DN DE 40 #[.agg #[.int .i64 l.kind,.int .i64 l.id,.int .i64 l.obj,vp,vs,.int .i64 l.Cq,.int .i64 l.Cs,vb,.int .i64 l.code]] w _;go_enter HU,G1
 go_wp2_with fail
 rw[<-a];clear a;refine(aY _ _ _ _).mono ?_;rintro e i ⟨rfl,hw⟩;subst hw;rw[d.out,ET]
 go_wp2_with fail
 go_ret;exact⟨by rw[HV.out];rfl,c⟩
theorem bV (v:DG) (l:Cp) (w:DF) (h:dH w v l):
  DN DE 40 #[v] w fun e w'=>e=.returned (.int .i64 (aW l:Nat))/\az w w':=by
 by_cases a:wi l.kind 1 7=true
 ·rcases jz (bJ.1 a)with h1 | h1 | h1 | h1 | h1 | h1 | h1
  ·exact ql v l w h h1
  ·exact qn v l w h h1
  ·exact qq v l w h h1
  ·exact qt v l w h h1
  ·exact qo v l w h h1
  ·exact qu v l w h h1
  ·exact qp v l w h h1
 ·exact qv v l w h (by simpa using a)
theorem oH (v:DG) (l:Cp) (w:DF) (h:dH w v l):
  DN DE 29 #[v] w fun e w'=>∃x,e=.returned (.tuple #[x,.int .i64 (aW l:Nat)])/\Rd w' .u8 x (if aW l=0 then bL l else [])/\az w w':=by
 have o:=aa h;obtain⟨cs,vp,vs,vb,L,rfl,r⟩:=h;obtain rfl:=r.eq;have f:Hid (∀a,az w a->DN DE 40 #[.agg (cL l vp vs vb).toArray] a fun e w'=>e=.returned (.int .i64 (aW l:Nat))/\az a w'):=aa fun a h2=>bV _ l a (o.ext h2)
 obtain⟨K,m⟩:=exq (aW l);have A:=aa m;rw[<-m]at f⊢;clear r m;obtain⟨j,c⟩:=exq (w.alloc (.cells (cL l vp vs vb).toArray 43));have d:Hid (av j w.heap.size (cL l vp vs vb)):=aa (by rw[c];exact av.box w 43 (cg _ _ _ _));have n:Hid (az w j):=aa (by rw[c];exact ae _ _);have p:=aa (d.load (P:=DE) DU rfl (by kernel_rfl));unfold cL at c;show DN DE 29 #[.agg #[.int .i64 l.kind,.int .i64 l.id,.int .i64 l.obj,vp,vs,.int .i64 l.Cq,.int .i64 l.Cs,vb,.int .i64 l.code]] w _;go_enter Tryz.func29,Tryz.ntmps29
 go_wp2_with (with_reducible refine aA (ty:=43) ?_)
 refine au ?_;rw[<-c];clear c;refine ak rfl p ?_
 go_wp2_with fail
 refine(f j n).mono ?_;rintro e a ⟨rfl,k⟩;have g:=aa (n.trans k);have y:=aa (d.ext k);clear k d p f;by_cases b:K=0
 ·subst b;obtain⟨b,s,u,_,_⟩:=wZ A.symm;have i:=aa (DT b (DT s u));have C:=aa (y.load (P:=DE) DU rfl (by kernel_rfl));clear b s u
  go_wp2_with ((with_reducible refine ak ?_ C.out ?_);rfl)
  refine(ek _ l a (o.ext g) i.1 i.2.1 i.2.2).mono ?_;rintro e G ⟨v3,rfl,t,q⟩;have D:=aa t;have z:=aa (g.trans q);clear t q
  go_wp2_with fail
  exact DK (v:=.tuple #[v3,.int .i64 0]) (fh rfl rfl rfl) rfl ⟨v3,rfl,D,z⟩
 ·have B:=aa b;have E:¬(K:Int)=0:=by omega
  have F:((K:Int)==0)=false:=by rw[beq_eq_false_iff_ne];exact E
  clear b
  go_wp2_with fail
  exact DK (v:=.tuple #[.slice none 0 0,.int .i64 K]) (fh rfl rfl rfl) rfl ⟨_,rfl,by first | exact Rd.nil _ _ | (rw[if_neg B.out];exact Rd.nil _ _),g⟩
theorem xn (F:Nat->Prop) (b:Nat) (s:eb) (l:Cp) (vp vs vb:DG) (L:List Sv) (w:DF) (hD:fb F w b s) (X:∀i,F i->i < w.heap.size) (K:ey s) (E:bZ F w l vp vs vb L) (hi:s.ids.length<=1048576) (Z:dX w) (d:¬aW l=0):
  DN DE 11 #[.pointer (some ⟨b,0,none⟩),.agg (cL l vp vs vb).toArray] w fun e w'=>mr F b s l w e w':=by
 have U:Hid (bO s l=(dI,false)/\du s l=s):=aa (by unfold bO du;rw[if_neg d,if_neg (fun q=>d q.1)];exact⟨rfl,rfl⟩);have x:=aa d;clear d;obtain⟨vo,va,D,a⟩:=hD;have ac:=a.nb;have Y:=a.bx.lt;have g:=E.Cr;obtain⟨pp,z,al,ay,aK⟩:=g.pl.form;obtain⟨ps,A,am,_,_⟩:=g.sh.rd.form;obtain⟨M,y,af,_,_⟩:=g.bl.form;obtain⟨po,co,ai,aB,aL⟩:=a.ro.AT.form;obtain⟨p,I⟩:=exq l.places.length;obtain⟨r,J⟩:=exq L.length;obtain⟨nb,H⟩:=exq l.blocks.length;obtain⟨N,j⟩:=exq D.length;rw[<-I]at al ay;rw[<-J]at am;rw[<-H]at af;rw[<-j]at ai aB;subst al am af ai;have HN:Hid (p=l.places.length/\r=L.length/\nb=l.blocks.length/\N=D.length/\N=s.BY.length/\N<=4):=aa ⟨I,J,H,j,j.trans a.len,by rw[j,a.len];exact K.ln⟩;have HL:=aa E;have HR:=aa a;have aH:=aa K;have Hg:=aa Z;have aG:=aa hi;have u:Hid ((∀i,F i->i < w.heap.size)/\¬F b/\b < w.heap.size):=aa ⟨X,ac,Y⟩;obtain⟨f,c⟩:=exq ((w.alloc (.cells (cL l (.slice pp p z) (.slice ps r A) (.slice M nb y)).toArray 43)).alloc (.cells zL 43));have C:az w f:=by rw[c];exact(ae _ _).trans (ae _ _)
 have ad:f.heap.size=w.heap.size+1+1:=by rw[c,DO,DO]
 have n:av f w.heap.size (cL l (.slice pp p z) (.slice ps r A) (.slice M nb y)):=by rw[c];exact(av.box w 43 (cg _ _ _ _)).ext (ae _ _)
 have B:av f (w.heap.size+1) zL.toList:=by rw[c];exact gy w _ zL.toList _ _ (fun h=>by cases h)
 obtain⟨V,hR0⟩:=exq (w.heap.size+1);obtain⟨P0,G⟩:=exq w.heap.size;rw[<-hR0]at B;rw[<-G]at n;have aq:=aa C;have an:=aa n;have Q:=aa B;have m:Hid (P0=w.heap.size/\V=w.heap.size+1/\f.heap.size=w.heap.size+1+1):=aa ⟨G,hR0,ad⟩;have T:=aa (n.load (P:=DE) DU rfl (by kernel_rfl));have t:=aa (bV _ l f (dH.ext ⟨_,_,_,_,_,rfl,g⟩ C));unfold cL at c;clear a ac Y g I J H j E K Z hi X C ad n B hR0 G;show DN DE 11 #[.pointer (some ⟨b,0,none⟩),.agg #[.int .i64 l.kind,.int .i64 l.id,.int .i64 l.obj,.slice pp p z,.slice ps r A,.int .i64 l.Cq,.int .i64 l.Cs,.slice M nb y,.int .i64 l.code]] w _;go_enter Tryz.func11,Tryz.ntmps11
 go_wp2_with (with_reducible refine aA (ty:=43) ?_)
 rw[<-c];rw[show w.heap.size+1=V from m.out.2.1.symm,show w.heap.size=P0 from m.out.1.symm];clear c;refine au ?_;refine ak rfl T ?_
 go_wp2_with fail
 obtain⟨W,d⟩:=exq (aW l);rw[<-d]at t x;have aI:¬((W:Int)=0):=by have:=x.out;omega
 have aJ:¬(W=0):=x.out;clear d;refine t.mono ?_;rintro e O ⟨rfl,o⟩;have S:Hid (az w O):=aa (aq.trans o);have R:=aa (Q.ext o);have aE:Hid (w.heap.size+2<=O.heap.size):=aa (by have:=o.size;have:=m.out;omega);have ap:Hid (fb (fun k=>F k\/w.heap.size+2<=k) O b s):=aa (fb.mono ⟨_,_,_,HR.ext S⟩ (fun i q _=>.inl q) fun q=>q.elim u.2.1 fun q=>by have:=u.2.2;omega);clear o t an Q T;have aw:=aa (R.store (P:=DE) (cs':=cL dI ah ah ah) rfl (bk ⟨_,_,_,rfl⟩ ⟨_,_,_,rfl⟩ ⟨_,_,_,rfl⟩) (ty:=43) (by kernel_rfl));have ao:=aa (R.set (cs':=cL dI ah ah ah) rfl)
 go_wp2_with ((with_reducible refine ag ?_ ?_ aw.out ?_);rfl;rfl)
 refine DK (v:=.tuple #[.agg (cL dI ah ah ah).toArray,.bool false]) (aj rfl rfl (ao.loadVar (P:=DE) DU rfl (by kernel_rfl)) rfl) rfl ?_;unfold mr;rw[U.out.1,U.out.2];exact⟨_,_,_,_,rfl,Dh.fin u (by have:=m.out;omega) (Kb.AI S) (bZ.nil _ _ _ _ _ _ _ _) ap _⟩
theorem uH (F:Nat->Prop) (b:Nat) (s:eb) (l:Cp) (vp vs vb:DG) (L:List Sv) (w:DF) (hD:fb F w b s) (hF:∀i,F i->i < w.heap.size) (R:ey s) (I:bZ F w l vp vs vb L) (hi:s.ids.length<=1048576) (hg:dX w) (K:aW l=0) (h1:¬l.kind=1) (C:¬l.kind=3) (E:¬l.kind=5):
  DN DE 11 #[.pointer (some ⟨b,0,none⟩),.agg (cL l vp vs vb).toArray] w fun e w'=>mr F b s l w e w':=by
 have Z:Hid (bO s l=(dI,false)/\du s l=s):=aa (by unfold bO du;rw[if_pos K,if_neg h1,if_neg C,if_neg E,if_neg (fun q=>h1 q.2)];exact⟨rfl,rfl⟩);have aB:=aa K;have y:=aa (DT h1 (DT C E));clear K h1 C E;obtain⟨vo,va,D,a⟩:=hD;have al:=a.nb;have ad:=a.bx.lt;have j:=I.Cr;obtain⟨pp,A,ap,aH,aT⟩:=j.pl.form;obtain⟨ps,B,aq,_,_⟩:=j.sh.rd.form;obtain⟨S,z,an,_,_⟩:=j.bl.form;obtain⟨po,co,ao,aI,aU⟩:=a.ro.AT.form;obtain⟨r,O⟩:=exq l.places.length;obtain⟨t,Q⟩:=exq L.length;obtain⟨nb,M⟩:=exq l.blocks.length;obtain⟨N,m⟩:=exq D.length;rw[<-O]at ap aH;rw[<-Q]at aq;rw[<-M]at an;rw[<-m]at ao aI;subst ap aq an ao;have HN:Hid (r=l.places.length/\t=L.length/\nb=l.blocks.length/\N=D.length/\N=s.BY.length/\N<=4):=aa ⟨O,Q,M,m,m.trans a.len,by rw[m,a.len];exact R.ln⟩;have HL:=aa I;have HR:=aa a;have aP:=aa R;have Hg:=aa hg;have aO:=aa hi;have x:Hid ((∀i,F i->i < w.heap.size)/\¬F b/\b < w.heap.size):=aa ⟨hF,al,ad⟩;obtain⟨d,c⟩:=exq ((w.alloc (.cells (cL l (.slice pp r A) (.slice ps t B) (.slice S nb z)).toArray 43)).alloc (.cells zL 43));have H:az w d:=by rw[c];exact(ae _ _).trans (ae _ _)
 have am:d.heap.size=w.heap.size+1+1:=by rw[c,DO,DO]
 have p:av d w.heap.size (cL l (.slice pp r A) (.slice ps t B) (.slice S nb z)):=by rw[c];exact(av.box w 43 (cg _ _ _ _)).ext (ae _ _)
 have G:av d (w.heap.size+1) zL.toList:=by rw[c];exact gy w _ zL.toList _ _ (fun h=>by cases h)
 obtain⟨R0,hR0⟩:=exq (w.heap.size+1);obtain⟨P0,J⟩:=exq w.heap.size;rw[<-hR0]at G;rw[<-J]at p;have ax:=aa H;have U:=aa p;have V:=aa G;have o:Hid (P0=w.heap.size/\R0=w.heap.size+1/\d.heap.size=w.heap.size+1+1):=aa ⟨J,hR0,am⟩;have Y:=aa (p.load (P:=DE) DU rfl (by kernel_rfl));have u:=aa (bV _ l d (dH.ext ⟨_,_,_,_,_,rfl,j⟩ H));unfold cL at c;clear a al ad j O Q M m I R hg hi hF H am p G hR0 J;show DN DE 11 #[.pointer (some ⟨b,0,none⟩),.agg #[.int .i64 l.kind,.int .i64 l.id,.int .i64 l.obj,.slice pp r A,.slice ps t B,.int .i64 l.Cq,.int .i64 l.Cs,.slice S nb z,.int .i64 l.code]] w _;go_enter Tryz.func11,Tryz.ntmps11
 go_wp2_with (with_reducible refine aA (ty:=43) ?_)
 rw[<-c];rw[show w.heap.size+1=R0 from o.out.2.1.symm,show w.heap.size=P0 from o.out.1.symm];clear c;refine au ?_;refine ak rfl Y ?_
 go_wp2_with fail
 rw[aB.out]at u;refine u.mono ?_;rintro e T ⟨rfl,g⟩;have aJ:=(U.ext g).cell (i:=0) (v:=.int .i64 l.kind) rfl;obtain⟨f,n⟩:=exq l.kind;rw[<-n]at aJ;have aE:¬f=1:=by rw[n];exact y.1
 have aF:¬f=3:=by rw[n];exact y.2.1
 have aG:¬f=5:=by rw[n];exact y.2.2
 have aQ:(f != 1)=true:=by rw[bne_iff_ne];exact aE
 have aR:(f != 3)=true:=by rw[bne_iff_ne];exact aF
 have aS:(f != 5)=true:=by rw[bne_iff_ne];exact aG
 clear n;have X:Hid (az w T):=aa (ax.trans g);have W:=aa (V.ext g);have aM:Hid (w.heap.size+2<=T.heap.size):=aa (by have:=g.size;have:=o.out;omega);have aw:Hid (fb (fun k=>F k\/w.heap.size+2<=k) T b s):=aa (fb.mono ⟨_,_,_,HR.ext X⟩ (fun i q _=>.inl q) fun q=>q.elim x.2.1 fun q=>by have:=x.2.2;omega);clear g u U V Y;have aC:=aa (W.store (P:=DE) (cs':=cL dI ah ah ah) rfl (bk ⟨_,_,_,rfl⟩ ⟨_,_,_,rfl⟩ ⟨_,_,_,rfl⟩) (ty:=43) (by kernel_rfl));have ar:=aa (W.set (cs':=cL dI ah ah ah) rfl)
 go_wp2_with ((with_reducible refine ag ?_ ?_ aC.out ?_);rfl;rfl)
 refine DK (v:=.tuple #[.agg (cL dI ah ah ah).toArray,.bool false]) (aj rfl rfl (ar.loadVar (P:=DE) DU rfl (by kernel_rfl)) rfl) rfl ?_;unfold mr;rw[Z.out.1,Z.out.2];exact⟨_,_,_,_,rfl,Dh.fin x (by have:=o.out;omega) (Kb.AI X) (bZ.nil _ _ _ _ _ _ _ _) aw _⟩
theorem zK:jE DE 34 95 (.agg #[.int .i64 0,.slice none 0 0]) 2 32:=⟨Tryz.underlying34,by kernel_rfl,rfl,by decide⟩
theorem yv (x:Int) (q:Option Addr) (n c:Nat) (w:DF):(Instr.build 95 #[(0,.int .i64 x),(1,.slice q n c)]).run DE w=.ok (.agg #[.int .i64 x,.slice q n c]) w:=run_build w _ _ _ (by kernel_rfl)
theorem xo (F:Nat->Prop) (b:Nat) (s:eb) (l:Cp) (vp vs vb:DG) (L:List Sv) (w:DF) (hD:fb F w b s) (hF:∀i,F i->i < w.heap.size) (cu:ey s) (hL:bZ F w l vp vs vb L) (J:s.ids.length<=1048576) (hg:dX w) (c3:aW l=0) (hk:l.kind=1):
  DN DE 11 #[.pointer (some ⟨b,0,none⟩),.agg (cL l vp vs vb).toArray] w fun e w'=>mr F b s l w e w':=by
 have b3:=aa c3;have Hk:=aa hk;clear c3 hk;obtain⟨vo,va,D,hR⟩:=hD;have c6:=hR.nb;have c2:=hR.bx.lt;have a6:=hL.Cr;obtain⟨pp,cp,dc,dL,d4⟩:=a6.pl.form;obtain⟨ps,b6,dd,_,_⟩:=a6.sh.rd.form;obtain⟨K,I,db,_,_⟩:=a6.bl.form;obtain⟨po,co,bc,dM,dN⟩:=hR.ro.AT.form;obtain⟨np,cq⟩:=exq l.places.length;obtain⟨ns,cr⟩:=exq L.length;obtain⟨nb,cn⟩:=exq l.blocks.length;obtain⟨N,hN⟩:=exq D.length;rw[<-cq]at dc dL;rw[<-cr]at dd;rw[<-cn]at db;rw[<-hN]at bc dM;subst dc dd db bc;have V:Hid (np=l.places.length/\ns=L.length/\nb=l.blocks.length/\N=D.length/\N=s.BY.length/\N<=4):=aa ⟨cq,cr,cn,hN,hN.trans hR.len,by rw[hN,hR.len];exact cu.ln⟩;have HL:=aa hL;have HR:=aa hR;have dY:=aa cu;have Hg:=aa hg;have dx:=aa J;have U:Hid ((∀i,F i->i < w.heap.size)/\¬F b/\b < w.heap.size):=aa ⟨hF,c6,c2⟩;obtain⟨W1,aE⟩:=exq ((w.alloc (.cells (cL l (.slice pp np cp) (.slice ps ns b6) (.slice K nb I)).toArray 43)).alloc (.cells zL 43));have cb:az w W1:=by rw[aE];exact(ae _ _).trans (ae _ _)
 have da:W1.heap.size=w.heap.size+1+1:=by rw[aE,DO,DO]
 have bA:av W1 w.heap.size (cL l (.slice pp np cp) (.slice ps ns b6) (.slice K nb I)):=by rw[aE];exact(av.box w 43 (cg _ _ _ _)).ext (ae _ _)
 have b9:av W1 (w.heap.size+1) zL.toList:=by rw[aE];exact gy w _ zL.toList _ _ (fun h=>by cases h)
 obtain⟨R0,hR0⟩:=exq (w.heap.size+1);obtain⟨P0,ch⟩:=exq w.heap.size;rw[<-hR0]at b9;rw[<-ch]at bA;have cJ:=aa cb;have cA:=aa bA;have cB:=aa b9;have aJ:Hid (P0=w.heap.size/\R0=w.heap.size+1/\W1.heap.size=w.heap.size+1+1):=aa ⟨ch,hR0,da⟩;have cT:=aa (bA.load (P:=DE) DU rfl (by kernel_rfl));have bR:=aa (bV _ l W1 (dH.ext ⟨_,_,_,_,_,rfl,a6⟩ cb));unfold cL at aE;clear hR c6 c2 a6 cq cr cn hN hL cu hg J hF cb da bA b9 hR0 ch;show DN DE 11 #[.pointer (some ⟨b,0,none⟩),.agg #[.int .i64 l.kind,.int .i64 l.id,.int .i64 l.obj,.slice pp np cp,.slice ps ns b6,.int .i64 l.Cq,.int .i64 l.Cs,.slice K nb I,.int .i64 l.code]] w _;go_enter Tryz.func11,Tryz.ntmps11
 go_wp2_with (with_reducible refine aA (ty:=43) ?_)
 rw[<-aE];rw[show w.heap.size+1=R0 from aJ.out.2.1.symm,show w.heap.size=P0 from aJ.out.1.symm];clear aE;refine au ?_;refine ak rfl cT ?_
 go_wp2_with fail
 rw[b3.out]at bR;refine bR.mono ?_;rintro e n ⟨rfl,R⟩;have cK:Hid (az w n):=aa (cJ.trans R);have aS:=aa (cA.ext R);have cC:=aa (cB.ext R);have dv:Hid (w.heap.size+2<=n.heap.size):=aa (by have:=R.size;have:=aJ.out;omega);have cv:n.cell? ⟨P0,0,none⟩=some (.int .i64 1):=by have h:=aS.cell (i:=0) (v:=.int .i64 l.kind) rfl;rw[Hk.out]at h;exact h
 have aO:=aS.cell (i:=1) (v:=.int .i64 l.id) rfl;have O:=aS.cell (i:=2) (v:=.int .i64 l.obj) rfl;clear R bR cA cB cT cJ;obtain⟨bC,cc⟩:=av.fresh (cs:=cL ⟨7,l.id,l.obj,[],[],0,0,[],0⟩ ah ah ah) n 43 zL rfl (cg _ _ _ _);have a1:=aa (aI (P:=DE) (cs:=cL ⟨7,l.id,l.obj,[],[],0,0,[],0⟩ ah ah ah) n 43 zL rfl (bk ⟨_,_,_,rfl⟩ ⟨_,_,_,rfl⟩ ⟨_,_,_,rfl⟩) (ty:=43) (by kernel_rfl))
 go_wp2_with (with_reducible refine aC (ty:=43) ?_)
 refine au ?_;refine ag rfl rfl a1 ?_;obtain⟨W3,cZ⟩:=exq ((n.alloc (.cells zL 43)).setCells n.heap.size 0 (cL ⟨7,l.id,l.obj,[],[],0,0,[],0⟩ ah ah ah));obtain⟨A,cf⟩:=exq n.heap.size;rw[<-cZ]at bC cc⊢;rw[<-cf]at bC⊢;have b0:=aa bC;have bn:=aa cc;have cN:=aa cf;clear bC cc cZ cf a1;have bT:Hid (az w W3):=aa (cK.trans bn);have bP:=aa (aS.ext bn);have cD:=aa (cC.ext bn);have dp:Hid (w.heap.size+2<=A/\A < W3.heap.size):=aa ⟨by have:=cN.out;have:=dv.out;omega,b0.lt⟩;clear cv aO O bn aS cC cK cN;have O:=bP.cell (i:=2) (v:=.int .i64 l.obj) rfl
 go_wp2_with fail
 refine(kK F b (.slice po N co) va D s l.obj W3 (HR.ext bT)).mono ?_;rintro e w4 ⟨⟨r,rfl,hr⟩,aN⟩;have dl:Hid (az w w4):=aa (bT.trans aN);have aT:=aa (bP.ext aN);have cE:=aa (cD.ext aN);have cP:=aa (b0.ext aN);have dw:Hid (W3.heap.size<=w4.heap.size):=aa aN.size;have Hr:=aa hr;have cv:w4.cell? ⟨P0,0,none⟩=some (.int .i64 1):=by have h:=aT.cell (i:=0) (v:=.int .i64 l.kind) rfl;rw[Hk.out]at h;exact h
 clear O aN bP cD b0 bT hr;have aO:=aT.cell (i:=1) (v:=.int .i64 l.id) rfl;have O:=aT.cell (i:=2) (v:=.int .i64 l.obj) rfl;obtain⟨bB,cd⟩:=av.fresh (cs:=cL ⟨2,l.id,l.obj,[],[],0,0,[],0⟩ ah ah ah) w4 43 zL rfl (cg _ _ _ _);have a1:=aa (aI (P:=DE) (cs:=cL ⟨2,l.id,l.obj,[],[],0,0,[],0⟩ ah ah ah) w4 43 zL rfl (bk ⟨_,_,_,rfl⟩ ⟨_,_,_,rfl⟩ ⟨_,_,_,rfl⟩) (ty:=43) (by kernel_rfl))
 go_wp2_with (with_reducible refine aC (ty:=43) ?_)
 refine au ?_;refine ag rfl rfl a1 ?_;obtain⟨W5,c0⟩:=exq ((w4.alloc (.cells zL 43)).setCells w4.heap.size 0 (cL ⟨2,l.id,l.obj,[],[],0,0,[],0⟩ ah ah ah));obtain⟨A0,b8⟩:=exq w4.heap.size;rw[<-c0]at bB cd⊢;rw[<-b8]at bB⊢;have bN:=aa bB;have aX:=aa cd;have cz:=aa b8;clear bB cd c0 b8 a1;have bU:Hid (az w W5):=aa (dl.trans aX);have bQ:=aa (aT.ext aX);have cF:=aa (cE.ext aX);have cQ:=aa (cP.ext aX);obtain⟨BB,dE⟩:=exq W5.heap.size;have p:Hid (w.heap.size<=P0/\P0 < R0/\R0 < A/\A < A0/\A0 < BB/\w.heap.size<=BB/\BB=W5.heap.size/\b < P0):=aa (by have:=cz.out;have:=dp.out;have:=dw.out;have:=aJ.out;have:=bN.lt;have:=U.2.2;omega);clear cv aO O aX aT cE cP cz dE;have aO:=bQ.cell (i:=1) (v:=.int .i64 l.id) rfl;obtain⟨fr,ck⟩:=exq (fa s.ids l.id);have cS:=aa ck;have cI:Hid (∀n,az W5 n->DN DE 42 #[.pointer (some ⟨b,1,none⟩),.int .i64 l.id] n fun e w'=>e=.returned (.bool fr)/\(∃be,iQ (fun i=>F i\/BB<=i) w' b (.slice po N co) be D ⟨s.BY,fJ s l⟩)/\Kq (fun i=>i=b) n w'/\ka b n w'):=aa fun n h2=>by
  refine(rH F b (.slice po N co) va D s l.id n (HR.ext (bU.trans h2)) dx).mono ?_;rintro e w' ⟨h1,⟨be,h3⟩,h4,h5⟩;refine⟨by rw[ck];exact h1,⟨be,h3.mono (fun i q _=>q.imp id fun q=>by have:=h2.size;have:=p.out;omega) fun q=> ?_⟩,h4,h5⟩;rcases q with q | q
  ·exact U.2.1 q
  ·have:=p.out;omega
 have cX:Hid (∀n,Kq (fun i=>i=b) W5 n->n.cell? ⟨P0,1,none⟩=some (.int .i64 l.id)):=aa fun n hk=>hk.cell (fun q=>by have:=p.out;omega) aO
 clear ck aO
 go_wp2_with fail
 apply ay (Kq (fun i=>i=b)) (eT (fun n=>az W5 n) [(5,57,fun v n=>v=.bool fr/\(∃be,iQ (fun i=>F i\/BB<=i) n b (.slice po N co) be D ⟨s.BY,fJ s l⟩)/\ka b W5 n)]) 6 [52,53,54,55,56,57] [ar _,ar _,ar _,ar _,ar _,ar _] (fun w=>Kq.refl w) (fun a b c h k=>Kq.trans h k) (by kernel_rfl) (by kernel_rfl) (by kernel_rfl) (by kernel_rfl);case hsteps=>
  refine⟨?_,?_,?_,?_,?_,?_,trivial⟩;all_goals
   intro d ev B f y W ab S t j;replace W:=aa W;replace y:=aa y;replace ab:=aa ab;replace S:=aa S;have e0:=t 0 (by decide);have e3:=t 3 (by decide);clear t;simp only[sB]at e0 e3;simp only[sG]at j;have c1:=cX _ f;rw[if_pos (rfl:DP _ _=true)];go_simp;first | exact⟨Kq.refl _,rfl,y.same rfl⟩ | (go_at_call 42;have h0:=y.1 S;(with_reducible refine(cI.out B h0).mono ?_);rintro e n ⟨rfl,h1,h2,h3⟩;exact⟨_,rfl,h2,rfl,eT.s1 (DT rfl (DT h1 ((ka.AI h0).trans h3))) trivial rfl⟩) | exact⟨DI _ _,rfl,HJ.same (by decide) y⟩
 case hmono=>exact mR
 case hR0=>exact Kq.drew _
 case hend=>
  intro u B f hJ hend;simp only[sE]at hend;simp only[sF,hend];obtain⟨_,⟨dU,ci⟩,ca⟩:=hJ.2 rfl;obtain⟨C,de⟩:=exq B;rw[<-de]at f ci ca⊢;have M:=aa ci;have dV:=aa f;have aY:Hid (Kb b w C):=aa ((Kb.AI bU).own f ca);have bm:=aa (f.box (fun q=>by have:=p.out;omega) bQ);have aU:=aa (f.box (fun q=>by have:=p.out;omega) cF);have aG:=aa (f.box (fun q=>by have:=p.out;omega) cQ);have bg:=aa (f.box (fun q=>by have:=p.out;omega) bN);have bY:Hid (ep (fun i=>F i\/BB<=i) C (.slice K nb I) l.blocks):=aa (ep.kept HL.Cy fun i J hl=>⟨.inl J,((Kq.AI bU).trans (f.mono (Q':=fun i=>i=b) fun i _ q=>q)).block i hl fun q=>U.2.1 (by rw[<-show i=b from q];exact J)⟩);have dk:Hid (BB<=C.heap.size):=aa (by have:=f.size;have:=p.out;omega);have al:Hid (bO s l=(eH s l,true)/\du s l=fX s l):=aa (by unfold bO du;rw[if_pos b3.out,if_pos Hk.out,if_pos ⟨b3.out,Hk.out⟩];exact⟨rfl,rfl⟩);clear hend hJ f ci ca de cI cX bQ cF cQ bN;have aP:=bm.cell (i:=7) (v:=.slice K nb I) rfl;have O:=bm.cell (i:=2) (v:=.int .i64 l.obj) rfl;have bH:=bm.lt;have hr:=Hr.out;rcases hr with ⟨i,J,rfl,h1,h2⟩ | ⟨rfl,h2⟩
  ·have aq:=aa (HR.some J h1 h2);obtain⟨g,o,c,bc,_,_,cl,c4⟩:=M.pos (Nat.lt_of_le_of_lt (DZ _) J);rw[<-V.out.2.2.2.1]at bc;injection bc with dQ _ dR;subst dQ dR;have c7:=c4 i J;have aK:Hid (ep (fun i=>F i\/BB<=i) C (D.getD i o0).2.1 (D.getD i o0).2.2):=aa (M.ok _ (aH o0 J));obtain⟨q1,c1,cj,_,_⟩:=aK.form;have ba:C.cell? ⟨g,o+i*2+1,none⟩=some (.slice q1 (D.getD i o0).2.2.length c1):=by rw[c7 1 _ rfl,cj]
   rw[cj]at aK;have a9:=M.bx.cell (i:=0) (v:=.slice (some ⟨g,o,none⟩) N co) rfl;have a8:=M.bx.lt;obtain⟨st,c8⟩:=exq ((D.getD i o0).2.2);rw[<-c8]at aK ba aq;obtain⟨m,hm⟩:=exq st.length;rw[<-hm]at aK ba;obtain⟨eq,heq⟩:=exq (decide (st=l.blocks));have b2:Hid (∀n,az C n->DN DE 31 #[.slice q1 m c1,.slice K nb I] n fun e w'=>e=.returned (.bool eq)/\az n w'):=aa fun n X=>by have h:=mU (.slice q1 m c1) (.slice K nb I) st l.blocks n (bf.ext aK.CB X) (bf.ext bY.CB X) aK.C9 bY.C9;rw[<-heq]at h;exact h
   have cR:=aa heq;have d0:(0:Int)<=(i:Int):=by omega
   have d3:i < N:=by rw[V.out.2.2.2.1];exact J
   have d1:(i:Int) < (N:Int):=by omega
   have d2:¬(i:Int) < 0:=by omega
   have cW:Hid (fX s l=⟨s.BY,fJ s l⟩):=aa (by unfold fX;rw[aq.out]);have a0:Hid ((fr=false\/eq=true)->bO s l=(⟨2,l.id,l.obj,[],[],0,0,[],0⟩,true)):=aa fun q=>by rw[al.out.1];unfold eH;rw[aq.out];simp only;rw[if_pos (q.imp (fun q=>by rw[<-cS.out];exact q) fun q=>by rw[cR.out]at q;exact of_decide_eq_true q)];rfl
   have dz:Hid (fr=true->eq=false->bO s l=(⟨7,l.id,l.obj,[],[],0,0,[],10⟩,true)):=aa fun q q2=>by
    rw[al.out.1];unfold eH;rw[aq.out];simp only
    rw[if_neg (fun z=>by
     rcases z with z | z
     ·rw[<-cS.out,q]at z;cases z
     ·rw[cR.out]at q2;exact of_decide_eq_false q2 z)]
    rfl
   have b4:Hid (du s l=⟨s.BY,fJ s l⟩):=aa (al.2.trans cW);clear h1 h2 c4 c7 cj c8 hm heq J cW al;cases fr with
   | false=>
    have H:Hid (bO s l=(⟨2,l.id,l.obj,[],[],0,0,[],0⟩,true)/\du s l=⟨s.BY,fJ s l⟩):=aa ⟨a0 (.inl rfl),b4⟩;clear O
    go_wp2_with fail
    apply aL 14 [60,61,62,63,64,65,66,67,68,69,70,71,72,73] [ar _,ar _,ar _,ar _,ar _,ar _,ar _,ar _,ar _,ar _,ar _,ar _,ar _,ar _] (by kernel_rfl) (by kernel_rfl) (by kernel_rfl) (by kernel_rfl);case hsteps=>
     refine⟨?_,?_,?_,?_,?_,?_,?_,?_,?_,?_,?_,?_,?_,?_,trivial⟩;all_goals
      intro ev B f t j;have e0:=t 0 (by decide);have e3:=t 3 (by decide);have e7:=t 7 (by decide);have e9:=t 9 (by decide);clear t;simp only[sB]at e0 e3 e7 e9;simp only[sD]at j;have E:=(aD f).1;have k0:=(E _ 0 a8).trans a9;have k1:=(E _ (o+i*2+1) cl).trans ba;have k7:=(E _ 7 bH).trans aP;simp only[dJ,DP,ir,Gn,ID,Fj,j,if_true];go_simp;first | (go_at_call 31;(with_reducible refine(b2.out _ f).mono ?_);rintro e n ⟨rfl,R⟩;exact⟨_,rfl,R,rfl⟩) | exact rfl | exact⟨DI _ _,rfl⟩ | exact⟨DI _ _,rfl⟩
    case hmono=>exact mL
    case hend=>
     intro u B f hend;simp only[sE]at hend;simp only[sF,hend];obtain⟨G,T⟩:=exq B;rw[<-T]at f⊢;have cM:=aa f;have ao:Hid (Kb b w G):=aa (aY.ext f);have an:=aa (aU.ext f);have aZ:=aa (aG.ext f);have bi:=aa (bg.ext f);have Z:=aa (M.ext f);clear f hend T;have ac:=aa (bi.load (P:=DE) DU rfl (by kernel_rfl));have ad:=aa (an.store (P:=DE) (cs':=cL ⟨2,l.id,l.obj,[],[],0,0,[],0⟩ ah ah ah) rfl (bk ⟨_,_,_,rfl⟩ ⟨_,_,_,rfl⟩ ⟨_,_,_,rfl⟩) (ty:=43) (by kernel_rfl));have Y:=aa (an.set (cs':=cL ⟨2,l.id,l.obj,[],[],0,0,[],0⟩ ah ah ah) rfl)
     go_wp2_with first | ((with_reducible refine ak ?_ ac.out ?_);rfl) | ((with_reducible refine ag ?_ ?_ ad.out ?_);rfl;rfl)
     refine DK (v:=.tuple #[.agg (cL ⟨2,l.id,l.obj,[],[],0,0,[],0⟩ ah ah ah).toArray,.bool true]) (aj rfl rfl (Y.loadVar (P:=DE) DU rfl (by kernel_rfl)) rfl) rfl ?_;unfold mr;rw[H.out.1,H.out.2];exact⟨_,_,_,_,rfl,Dh.fin U (by have:=p.out;omega) ao (bZ.nil _ _ _ _ _ _ _ _) ⟨_,_,_,Z⟩ _⟩
   | true=>
    cases eq with
    | true=>
     have H:Hid (bO s l=(⟨2,l.id,l.obj,[],[],0,0,[],0⟩,true)/\du s l=⟨s.BY,fJ s l⟩):=aa ⟨a0 (.inr rfl),b4⟩;clear O
     go_wp2_with fail
     apply aL 14 [60,61,62,63,64,65,66,67,68,69,70,71,72,73] [ar _,ar _,ar _,ar _,ar _,ar _,ar _,ar _,ar _,ar _,ar _,ar _,ar _,ar _] (by kernel_rfl) (by kernel_rfl) (by kernel_rfl) (by kernel_rfl);case hsteps=>
      refine⟨?_,?_,?_,?_,?_,?_,?_,?_,?_,?_,?_,?_,?_,?_,trivial⟩;all_goals
       intro ev B f t j;have e0:=t 0 (by decide);have e3:=t 3 (by decide);have e7:=t 7 (by decide);have e9:=t 9 (by decide);clear t;simp only[sB]at e0 e3 e7 e9;simp only[sD]at j;have E:=(aD f).1;have k0:=(E _ 0 a8).trans a9;have k1:=(E _ (o+i*2+1) cl).trans ba;have k7:=(E _ 7 bH).trans aP;simp only[dJ,DP,ir,Gn,ID,Fj,j,beq_self_eq_true,if_true];go_simp;first | (go_at_call 31;(with_reducible refine(b2.out _ f).mono ?_);rintro e n ⟨rfl,R⟩;exact⟨_,rfl,R,rfl⟩) | exact rfl | exact⟨DI _ _,rfl⟩ | exact⟨DI _ _,rfl⟩
     case hmono=>exact mL
     case hend=>
      intro u B f hend;simp only[sE]at hend;simp only[sF,hend];obtain⟨G,T⟩:=exq B;rw[<-T]at f⊢;have cM:=aa f;have ao:Hid (Kb b w G):=aa (aY.ext f);have an:=aa (aU.ext f);have aZ:=aa (aG.ext f);have bi:=aa (bg.ext f);have Z:=aa (M.ext f);clear f hend T;have ac:=aa (bi.load (P:=DE) DU rfl (by kernel_rfl));have ad:=aa (an.store (P:=DE) (cs':=cL ⟨2,l.id,l.obj,[],[],0,0,[],0⟩ ah ah ah) rfl (bk ⟨_,_,_,rfl⟩ ⟨_,_,_,rfl⟩ ⟨_,_,_,rfl⟩) (ty:=43) (by kernel_rfl));have Y:=aa (an.set (cs':=cL ⟨2,l.id,l.obj,[],[],0,0,[],0⟩ ah ah ah) rfl)
      go_wp2_with first | ((with_reducible refine ak ?_ ac.out ?_);rfl) | ((with_reducible refine ag ?_ ?_ ad.out ?_);rfl;rfl)
      refine DK (v:=.tuple #[.agg (cL ⟨2,l.id,l.obj,[],[],0,0,[],0⟩ ah ah ah).toArray,.bool true]) (aj rfl rfl (Y.loadVar (P:=DE) DU rfl (by kernel_rfl)) rfl) rfl ?_;unfold mr;rw[H.out.1,H.out.2];exact⟨_,_,_,_,rfl,Dh.fin U (by have:=p.out;omega) ao (bZ.nil _ _ _ _ _ _ _ _) ⟨_,_,_,Z⟩ _⟩
    | false=>
     have H:Hid (bO s l=(⟨7,l.id,l.obj,[],[],0,0,[],10⟩,true)/\du s l=⟨s.BY,fJ s l⟩):=aa ⟨dz rfl rfl,b4⟩;clear O
     go_wp2_with fail
     apply aL 14 [60,61,62,63,64,65,66,67,68,69,70,71,72,73] [ar _,ar _,ar _,ar _,ar _,ar _,ar _,ar _,ar _,ar _,ar _,ar _,ar _,ar _] (by kernel_rfl) (by kernel_rfl) (by kernel_rfl) (by kernel_rfl);case hsteps=>
      refine⟨?_,?_,?_,?_,?_,?_,?_,?_,?_,?_,?_,?_,?_,?_,trivial⟩;all_goals
       intro ev B f t j;have e0:=t 0 (by decide);have e3:=t 3 (by decide);have e7:=t 7 (by decide);have e9:=t 9 (by decide);clear t;simp only[sB]at e0 e3 e7 e9;simp only[sD]at j;have E:=(aD f).1;have k0:=(E _ 0 a8).trans a9;have k1:=(E _ (o+i*2+1) cl).trans ba;have k7:=(E _ 7 bH).trans aP;simp only[dJ,DP,ir,Gn,ID,Fj,j,beq_self_eq_true,if_true];go_simp;first | (go_at_call 31;(with_reducible refine(b2.out _ f).mono ?_);rintro e n ⟨rfl,R⟩;exact⟨_,rfl,R,rfl⟩) | exact rfl | exact⟨DI _ _,rfl⟩ | exact⟨DI _ _,rfl⟩
     case hmono=>exact mL
     case hend=>
      intro u B f hend;simp only[sE]at hend;simp only[sF,hend];obtain⟨G,T⟩:=exq B;rw[<-T]at f⊢;have cM:=aa f;have ao:Hid (Kb b w G):=aa (aY.ext f);have an:=aa (aU.ext f);have aZ:=aa (aG.ext f);have bi:=aa (bg.ext f);have Z:=aa (M.ext f);clear f hend T;have q8:=aZ.cell (i:=8) (v:=.int .i64 0) rfl;have f8:=aZ.fz (i:=8) (show 8 < 9 by decide);have b1:Hid (av (G.setCell ⟨A,8,none⟩ (.int .i64 10)) A (cL ⟨7,l.id,l.obj,[],[],0,0,[],10⟩ ah ah ah)):=aa (aZ.put (i:=8) (show 8 < 9 by decide) (.int .i64 10));have ap:Hid (Kq (fun k=>k=A) G (G.setCell ⟨A,8,none⟩ (.int .i64 10))):=aa ((Kq.refl G).setCell (Q:=fun k=>k=A) ⟨A,8,none⟩ rfl _);have aV:=aa (ap.box (Q:=fun k=>k=A) (fun q=>by have:=p.out;omega) an);have bS:=aa (fb.kept ⟨_,_,_,Z⟩ ap (F':=fun i=>F i\/BB<=i) (fun i q=>⟨fun r=>by rcases r with r | r;exact absurd (U.1 i r) (by have:=p.out;omega);have:=p.out;omega,by have:=p.out;omega⟩) (fun i q _=>q) Z.nb);have bX:Hid (Kb b w (G.setCell ⟨A,8,none⟩ (.int .i64 10))):=aa (ao.kq ap (fun i q=>by have:=p.out;omega));have ac:=aa (b1.load (P:=DE) DU rfl (by kernel_rfl));have ad:=aa (aV.store (P:=DE) (cs':=cL ⟨7,l.id,l.obj,[],[],0,0,[],10⟩ ah ah ah) rfl (bk ⟨_,_,_,rfl⟩ ⟨_,_,_,rfl⟩ ⟨_,_,_,rfl⟩) (ty:=43) (by kernel_rfl));have Y:=aa (aV.set (cs':=cL ⟨7,l.id,l.obj,[],[],0,0,[],10⟩ ah ah ah) rfl)
      go_wp2_with first | ((with_reducible refine ak ?_ ac.out ?_);rfl) | ((with_reducible refine ag ?_ ?_ ad.out ?_);rfl;rfl)
      refine DK (v:=.tuple #[.agg (cL ⟨7,l.id,l.obj,[],[],0,0,[],10⟩ ah ah ah).toArray,.bool true]) (aj rfl rfl (Y.loadVar (P:=DE) DU rfl (by kernel_rfl)) rfl) rfl ?_;unfold mr;rw[H.out.1,H.out.2];exact⟨_,_,_,_,rfl,Dh.fin U (by have:=aJ.out;have:=p.out;omega) bX (bZ.nil _ _ _ _ _ _ _ _) bS _⟩
  ·have aq:=aa (HR.none h2);have a9:=M.bx.cell (i:=0) (v:=.slice po N co) rfl;have a8:=M.bx.lt;have cU:Hid (4<=N->bO s l=(⟨7,l.id,l.obj,[],[],0,0,[],12⟩,true)/\du s l=⟨s.BY,fJ s l⟩):=aa fun q=>by rw[al.out.1,al.out.2];unfold eH fX;rw[aq.out];simp only;rw[if_pos (by rw[<-V.out.2.2.2.2.1];exact q),if_pos (by rw[<-V.out.2.2.2.2.1];exact q)];exact⟨rfl,rfl⟩
   have a0:Hid (¬4<=N->bO s l=(⟨2,l.id,l.obj,[],[],0,0,[],0⟩,true)/\du s l=⟨s.BY++[(l.obj,l.blocks)],fJ s l⟩):=aa fun q=>by rw[al.out.1,al.out.2];unfold eH fX;rw[aq.out];simp only;rw[if_neg (by rw[<-V.out.2.2.2.2.1];exact q),if_neg (by rw[<-V.out.2.2.2.2.1];exact q)];exact⟨rfl,rfl⟩
   clear h2 aP dN;by_cases h4:4<=N
   ·have H:=aa (cU h4);have dB:(4:Int)<=(N:Int):=by omega
    clear O;have ao:=aY;have Z:=M;have q8:=aG.cell (i:=8) (v:=.int .i64 0) rfl;have f8:=aG.fz (i:=8) (show 8 < 9 by decide);have b1:Hid (av (C.setCell ⟨A,8,none⟩ (.int .i64 12)) A (cL ⟨7,l.id,l.obj,[],[],0,0,[],12⟩ ah ah ah)):=aa (aG.put (i:=8) (show 8 < 9 by decide) (.int .i64 12));have ap:Hid (Kq (fun k=>k=A) C (C.setCell ⟨A,8,none⟩ (.int .i64 12))):=aa ((Kq.refl C).setCell (Q:=fun k=>k=A) ⟨A,8,none⟩ rfl _);have aV:=aa (ap.box (Q:=fun k=>k=A) (fun q=>by have:=p.out;omega) aU);have bS:=aa (fb.kept ⟨_,_,_,Z⟩ ap (F':=fun i=>F i\/BB<=i) (fun i q=>⟨fun r=>by rcases r with r | r;exact absurd (U.1 i r) (by have:=p.out;omega);have:=p.out;omega,by have:=p.out;omega⟩) (fun i q _=>q) Z.nb);have bX:Hid (Kb b w (C.setCell ⟨A,8,none⟩ (.int .i64 12))):=aa (ao.kq ap (fun i q=>by have:=p.out;omega));have ac:=aa (b1.load (P:=DE) DU rfl (by kernel_rfl));have ad:=aa (aV.store (P:=DE) (cs':=cL ⟨7,l.id,l.obj,[],[],0,0,[],12⟩ ah ah ah) rfl (bk ⟨_,_,_,rfl⟩ ⟨_,_,_,rfl⟩ ⟨_,_,_,rfl⟩) (ty:=43) (by kernel_rfl));have Y:=aa (aV.set (cs':=cL ⟨7,l.id,l.obj,[],[],0,0,[],12⟩ ah ah ah) rfl)
    go_wp2_with first | ((with_reducible refine ak ?_ ac.out ?_);rfl) | ((with_reducible refine ag ?_ ?_ ad.out ?_);rfl;rfl)
    refine DK (v:=.tuple #[.agg (cL ⟨7,l.id,l.obj,[],[],0,0,[],12⟩ ah ah ah).toArray,.bool true]) (aj rfl rfl (Y.loadVar (P:=DE) DU rfl (by kernel_rfl)) rfl) rfl ?_;unfold mr;rw[H.out.1,H.out.2];exact⟨_,_,_,_,rfl,Dh.fin U (by have:=aJ.out;have:=p.out;omega) bX (bZ.nil _ _ _ _ _ _ _ _) bS _⟩
   ·have H:=aa (a0 h4);have dB:¬(4:Int)<=(N:Int):=by omega
    obtain⟨aR,bz⟩:=exq C.heap.size;have bj:=aa bz;have dG:b < aR:=by rw[bz];exact a8
    have df:P0 < aR:=by rw[bz];exact bH
    have dt:Hid (∀n,az C n->bh n (.slice po N co) N (aw cO D)):=aa fun n h2=>by have h:=M.ro.AT.ext h2;rw[<-V.out.2.2.2.1]at h;exact h
    have ds:Hid ((aw cO D).length=N*2):=aa (by rw[bG (s:=2) (fun x _=>rG x),<-V.out.2.2.2.1]);have dq:Hid (∀c∈aw cO D,c.oneCell'=true):=aa (zj M.ok);have bo:Hid (N+1<=DV/\(N+1)*32<=140737488355328/\0+N<=DV/\(0+N)*32<=140737488355328):=aa (by have:=V.out;unfold DV;omega);have aP:=bm.cell (i:=7) (v:=.slice K nb I) rfl;obtain⟨oj,ct⟩:=exq l.obj;rw[<-ct]at O;have dy:=aa ct;clear bz ct cU a0
    go_wp2_with fail
    apply ay (fun a b=>Below aR a b) (JP aR 95 N (aw cO D) [.int .i64 oj,.slice K nb I]) 16 [86,87,88,89,90,91,92,93,94,95,96,97,98,99,100,101] [ar _,bK,ar _,ar _,ar _,ar _,bK,ar _,ar _,ar _,ar _,ar _,bK,bK,ar _,ar _] (fun w=>DI _ w) (fun a b c h k=>Below.trans h k) (by kernel_rfl) (by kernel_rfl) (by kernel_rfl) (by kernel_rfl);case hsteps=>
     refine⟨?_,?_,?_,?_,?_,?_,?_,?_,?_,?_,?_,?_,?_,?_,?_,?_,trivial⟩;all_goals
      intro d ev B f y W ab S t j;replace W:=aa W;replace y:=aa y;replace ab:=aa ab;replace S:=aa S;have e0:=t 0 (by decide);have e3:=t 3 (by decide);clear t;simp only[sB]at e0 e3;simp only[sG]at j;have E:=(aD f).1;have X:az C B:=by rw[az,<-bj.out];exact f
      have k0:=(E _ 0 dG).trans a9;have k2:=(E _ 2 df).trans O;have k7:=(E _ 7 df).trans aP;simp only[DP,if_true];first
      | (have hp:=y.a (W 1 (by kernel_rfl)) S;(with_reducible refine gF zK hp (dt.out B X) ds.out dq.out bo.out.2.2.1 bo.out.2.2.2 y.out.le ?_ ?_ ?_);rfl;exact(by first | ((repeat(first | exact j | exact j.2 | replace j:=j.1));done) | (repeat(first | exact j | exact j.1 | replace j:=j.2)));exact fun v' w' k1 k2 k3=>(y.CN (List.cons_ne_nil _ _) (W 1 (by kernel_rfl)) S (ab 13 (by kernel_rfl)) k1 k2 k3).imp id fun h=>⟨trivial,h⟩) | ((with_reducible refine rK ?_ ?_ ?_ (yv oj K nb I B) ?_);exact fun w=>DI _ w;exact(by first | ((repeat(first | exact j | exact j.2 | replace j:=j.1));done) | (repeat(first | exact j | exact j.1 | replace j:=j.2)));exact(by first | ((repeat(first | exact j | exact j.2 | replace j:=j.1));done) | (repeat(first | exact j | exact j.1 | replace j:=j.2)));exact⟨rfl,y.same (by decide)⟩) | ((with_reducible refine cG (v:=.agg #[.int .i64 oj,.slice K nb I]) zK (by decide) ?_ rfl ?_);exact(by first | ((repeat(first | exact j | exact j.2 | replace j:=j.1));done) | (repeat(first | exact j | exact j.1 | replace j:=j.2)));exact⟨cV _ _ y.le,trivial,y.CF (ab 13 (by kernel_rfl))⟩) | (have hp:=y.b (W 6 (by kernel_rfl)) S;obtain⟨g9,dI,dO,_,_⟩:=y.l (W 12 (by kernel_rfl)) S;have dP:bh B (.slice (some ⟨g9,0,none⟩) 1 1) 1 [.int .i64 oj,.slice K nb I]:=.inr ⟨g9,0,1,rfl,DH _,by decide,dO⟩;have dK:([.int .i64 oj,.slice K nb I]:List DG).length=1*2:=rfl;(with_reducible refine gF zK hp dP dK (Bc _ _ _ _) bo.out.1 bo.out.2.1 y.out.le ?_ ?_ ?_);rfl;exact dI;exact fun v' w' k1 k2 k3=>(y.CO (W 6 (by kernel_rfl)) S k1 k2).imp id fun h=>⟨trivial,h⟩)
      | (go_simp;first | exact⟨DI _ _,rfl,y.same (by decide)⟩ | exact⟨cV _ _ y.le,trivial,y.new (List.cons_ne_nil _ _) (ab 6 (by kernel_rfl)) (ab 13 (by kernel_rfl))⟩ | exact⟨DI _ _,rfl,HJ.same (by decide) y⟩)
    case hmono=>exact mR
    case hR0=>exact(DI _ _).drew
    case hend=>
     intro u B f hJ hend;simp only[sE]at hend;simp only[sF,hend];have ho:=hJ.c rfl;obtain⟨p9,c9,h9,_,_⟩:=(bh.AS ho).form;rw[h9]at ho⊢;obtain⟨G,T⟩:=exq B;rw[<-T]at f ho⊢;have X:az C G:=by rw[az,<-bj.out];exact f
     have bD:=M.ext X;have d5:=bD.bx.cell (i:=0) (v:=.slice po N co) rfl;have dZ:=bD.bx.fz (i:=0) (show 0 < 2 by decide);have dr:Hid (iQ (fun i=>F i\/BB<=i) (G.setCell ⟨b,0,none⟩ (.slice p9 (N+1) c9)) b (.slice p9 (N+1) c9) dU (D++[(l.obj,.slice K nb I,l.blocks)]) ⟨s.BY++[(l.obj,l.blocks)],fJ s l⟩):=aa (bD.push (BB:=aR) (fun i q=>.inr (by have:=dk.out;have:=bj.out;omega)) (e:=95) (by rw[<-V.out.2.2.2.1];have h:=ho;rw[dy.out]at h;exact h) (bY.kept fun i J hl=>⟨J,X.block i hl⟩));have bW:Hid (Kq (fun i=>i=b) C (G.setCell ⟨b,0,none⟩ (.slice p9 (N+1) c9))):=aa ((Kq.AI X).setCell (Q:=fun i=>i=b) ⟨b,0,none⟩ rfl _);have dm:Hid (Kb b w (G.setCell ⟨b,0,none⟩ (.slice p9 (N+1) c9))):=aa (aY.own bW ((ka.AI X).set (i:=0) (by decide) _));have cH:=aa (bW.box (fun q=>by have:=p.out;omega) aU);have dj:=aa (bW.box (fun q=>by have:=p.out;omega) bg);clear hJ hend f ho T X bD;have ac:=aa (dj.load (P:=DE) DU rfl (by kernel_rfl));have ad:=aa (cH.store (P:=DE) (cs':=cL ⟨2,l.id,l.obj,[],[],0,0,[],0⟩ ah ah ah) rfl (bk ⟨_,_,_,rfl⟩ ⟨_,_,_,rfl⟩ ⟨_,_,_,rfl⟩) (ty:=43) (by kernel_rfl));have Y:=aa (cH.set (cs':=cL ⟨2,l.id,l.obj,[],[],0,0,[],0⟩ ah ah ah) rfl)
     go_wp2_with first | ((with_reducible refine ak ?_ ac.out ?_);rfl) | ((with_reducible refine ag ?_ ?_ ad.out ?_);rfl;rfl)
     refine DK (v:=.tuple #[.agg (cL ⟨2,l.id,l.obj,[],[],0,0,[],0⟩ ah ah ah).toArray,.bool true]) (aj rfl rfl (Y.loadVar (P:=DE) DU rfl (by kernel_rfl)) rfl) rfl ?_;unfold mr;rw[H.out.1,H.out.2];exact⟨_,_,_,_,rfl,Dh.fin U (by have:=p.out;omega) dm (bZ.nil _ _ _ _ _ _ _ _) ⟨_,_,_,dr⟩ _⟩
    case hJ0=>exact JP.start (Nat.le_of_eq bj)
 case hJ0=>exact eT.start (DI _ _).drew
end Go.Proofs.Bl
