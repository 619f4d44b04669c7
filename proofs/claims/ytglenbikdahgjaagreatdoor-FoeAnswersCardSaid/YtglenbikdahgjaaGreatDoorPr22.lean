/- Texts that stood apart, in one: LR5, LR4, LC0. -/
import Derived.Test.YtglenbikdahgjaaGreatDoorPr21
set_option maxRecDepth 100000
set_option maxHeartbeats 16000000
open Bool renaming not_false->ET,not_true->Ep,or_assoc->FD
open Go renaming Calls->DN,Value->DG,World->DF,maxLen->DV
open Go.RowKit renaming intOf->Ef
open Go.RowKit.Below renaming refl->DI
open List renaming getElem?_eq_getElem->DL,length_map->D2,take_of_length_le->DW,take_zero->E4
open Nat renaming le_refl->DH,zero_le->DZ
open Or renaming inl->EV
namespace Go.Proofs.Bl
open Go Go.RowKit Go.Proofs
open Go.Proofs.Tryz renaming func40->HU,ntmps40->G1,prog->DE,underlying43->DU
theorem rY (v:DG) (l:Cp) (w:DF) (h:dH w v l) (m:l.kind=6) (hn:bn l=true) (hz:bH l=true):
  DN DE 60 #[v] w fun e w'=>∃v',e=.returned v'/\Rd w' .u8 v' (bL l)/\az w w':=by
 obtain⟨cd,vp,vs,vb,L,rfl,n⟩:=h;obtain rfl:=n.eq;obtain⟨hid,aK,aJ⟩:=dK hn;obtain⟨kd,id,j,pl,sh,f,A,a,z⟩:=l;obtain⟨p1,D,U,ay,bB⟩:=n.pl.form;obtain⟨p2,E,G,bo,bC⟩:=n.sh.rd.form;obtain⟨M,F,e3,aA,bD⟩:=n.bl.form;have a8:Hid (Rd w .i64 vp pl):=aa n.pl;have a9:=aa n.sh;have b2:Hid (L.map cf=sh):=aa n.sl;have am:Hid (bf w vb a):=aa n.bl;simp only at U G e3 m hid aK ay aA;subst U G e3;clear n hn;unfold DV at bB bC bD;obtain⟨J,ad⟩:=exq pl.length;obtain⟨K,af⟩:=exq L.length;obtain⟨nb,ab⟩:=exq a.length;have b0:=aa ad;have b1:=aa af;have C:=aa ab;rw[<-ad]at a8 ay⊢;rw[<-af]at a9 bo⊢;rw[<-ab]at am aA⊢;clear ad af ab;have a7:=aa aJ;have Hz:=aa hz;clear aJ hz;subst m;obtain⟨W0,W⟩:=exq (w.alloc (.cells #[.int .i64 6,.int .i64 id,.int .i64 j,.slice p1 J D,.slice p2 K E,.int .i64 f,.int .i64 A,.slice M nb F,.int .i64 z] 43));have al:Hid (az w W0):=aa (by rw[W];exact ae _ _);obtain⟨d,Z⟩:=exq (cL ⟨6,id,j,pl,sh,f,A,a,z⟩ (.slice p1 J D) (.slice p2 K E) (.slice M nb F));have B:Hid (av W0 w.heap.size d):=aa (by rw[W,Z];exact av.box w 43 (cs:=(cL ⟨6,id,j,pl,sh,f,A,a,z⟩ (.slice p1 J D) (.slice p2 K E) (.slice M nb F))) (fun h=>by cases h));have q:Hid (d[0]? =some (.int .i64 6)/\d[1]? =some (.int .i64 id)/\d[2]? =some (.int .i64 j)/\d[3]? =some (.slice p1 J D)/\d[4]? =some (.slice p2 K E)/\d[5]? =some (.int .i64 f)/\d[6]? =some (.int .i64 A)/\d[7]? =some (.slice M nb F)/\d[8]? =some (.int .i64 z)):=aa (by rw[Z];exact⟨rfl,rfl,rfl,rfl,rfl,rfl,rfl,rfl,rfl⟩);show DN DE 60 #[.agg #[.int .i64 6,.int .i64 id,.int .i64 j,.slice p1 J D,.slice p2 K E,.int .i64 f,.int .i64 A,.slice M nb F,.int .i64 z]] w _;obtain⟨bt,bu⟩:=hid;obtain⟨bv,bw⟩:=aK;have a2:IntKind.u8.wrap 6=6:=rfl;clear Z;go_enter Tryz.func60,Tryz.ntmps60
 go_wp2_with fail
 rw[<-W];clear W;apply aL 7 [12,13,14,15,16,17,18] [ar _,ar _,ar _,(fun v w'=>Pk w' (w.heap.size+1) 1 v 1 [.int .u8 6]),ar _,ar _,(fun v w'=>dC w' v (aM id))] (by kernel_rfl) (by kernel_rfl) (by kernel_rfl) (by kernel_rfl);case hsteps=>
  refine⟨?_,?_,?_,?_,?_,?_,?_,trivial⟩;all_goals
   intro ev O r hb hd;have U:=hb 1 (by decide);clear hb;simp only[sB]at U;simp only[sD]at hd;have n:=(aD r).1;have N:=(B.ext r).cell q.1;have q1:=(B.ext r).cell q.2.1;simp only[dJ,Region.wanted,if_true];go_simp;first | exact⟨ae _ _,gX _ _ _ (B.ext r).lt⟩ | (go_at_call 104;(with_reducible refine(bQ id O bt bu).mono ?_);rintro e w2 ⟨v',rfl,h1,h2⟩;exact⟨_,rfl,h2,h1⟩) | exact⟨DI _ _,by rw[a2];rfl⟩ | exact⟨DI _ _,rfl⟩
 case hmono=>exact⟨aB _,aB _,aB _,(fun _ _ _ h k=>Pk.ext h k),aB _,aB _,(fun _ _ _ h k=>dC.ext h k),trivial⟩
 case hend=>
  intro u O r hend;simp only[sE]at hend;simp only[sF,hend];have aN:Pk O (w.heap.size+1) 1 (u 15) 1 [.int .u8 6]:=(by first | ((repeat(first | exact hend | exact hend.2 | replace hend:=hend.1));done) | (repeat(first | exact hend | exact hend.1 | replace hend:=hend.2)));have aT:dC O (u 18) (aM id):=(by first | ((repeat(first | exact hend | exact hend.2 | replace hend:=hend.1));done) | (repeat(first | exact hend | exact hend.1 | replace hend:=hend.2)));obtain⟨bh,bG,bj,aX,aR⟩:=dz aT (show 0 < 8 by decide);have aW:u 18=.slice (some ⟨bh,bG,none⟩) 8 bj:=aX;have t:Hid (eX w d O (u 15) 1 [6]):=aa ⟨B.ext r,aN,al.trans r⟩;obtain⟨cu,ah⟩:=exq (u 15);rw[<-ah]at t;rw[<-ah,aW];have bc:=aa aR;clear aN aT aW aX aR ah hend r B a2 al;obtain⟨cn,b5,rfl⟩:=t.form
  go_wp2_with (with_reducible refine ax ?_)
  refine au ?_;refine aV aO t.own bc rfl (aF _ _) (by decide) (by decide) (by decide) t.le rfl rfl ?_;intro bP bW hp g m;have h:eX w d bW bP (9) (6 :: aM id):=t.push hp g;obtain⟨co,b6,rfl⟩:=h.form;have Y:=aa h;clear hp g m h t;have q2:=Y.box.cell q.2.2.1
  go_wp2_with fail
  refine(bQ j _ bv bw).mono ?_;rintro e wx ⟨vx,rfl,aU,aq⟩;obtain⟨bx,ox,cx,a1,aS⟩:=dz aU (show 0 < 8 by decide);have bF:vx=.slice (some ⟨bx,ox,none⟩) 8 cx:=a1;clear a1;subst bF;have Q:=aa (Y.ext' aq);have Rx:=aa aS;clear aU aq aS q2 Y
  go_wp2_with (with_reducible refine ax ?_)
  refine au ?_;refine aV aO Q.own Rx rfl (aF _ _) (by decide) (by decide) (by decide) Q.le rfl rfl ?_;intro bR bX hp g m;have h:eX w d bX bR (17) (6 :: (aM id++aM j)):=Q.push hp g;obtain⟨cp,b7,rfl⟩:=h.form;have P:=aa h;clear hp g m h Q;have N:=P.box.cell q.1
  ·have ac:Hid ((1<=nb/\nb<=512)/\∀b∈a,fk b=false):=aa (by
    have h:(wi a.length 1 512&& !a.any fk)=true:=Hz.out;rw[Bool.and_eq_true]at h;have h1:=bJ.1 h.1
    exact⟨by have:=C.out;omega,df h.2⟩)
   have ch:(nb:Int)<=512:=by have:=ac.1.2;omega
   have bm:(0:Int)<=(nb:Int):=by omega
   have a6:Hid (a.flatten.length=nb*16):=aa (by rw[C.out];exact dL 16 a (fun x hx=>fI (ac.2 x hx)));have aG:wi f 0 511=true:=a7.out;have aH:=bJ.1 aG;have bq:0<=f:=aH.1;have br:f<=65535:=by omega
   clear aG aH;have HV:Hid (bL ⟨6,id,j,pl,sh,f,A,a,z⟩=6 :: (aM id++aM j)++bN f++bN nb++a.flatten):=aa (by unfold bL fH;simp[C.out]);have q5:=P.box.cell q.2.2.2.2.2.1
   go_wp2_with fail
   refine(eK f _ bq br).mono ?_;rintro e cz ⟨b4,cl,ca,rfl,I,H⟩;have S:=aa (P.ext' H);have be:=aa I;clear I H P;clear q5 N
   go_wp2_with (with_reducible refine ax ?_)
   refine au ?_;refine aV aO S.own be rfl (aF _ _) (by decide) (by decide) (by decide) S.le rfl rfl ?_;intro bT bZ hp g m;have h:eX w d bZ bT (19) (6 :: (aM id++aM j)++bN f):=S.push hp g;obtain⟨cr,cb,rfl⟩:=h.form;have T:=aa h;clear hp g m h S;have N:=T.box.cell q.1;have q7:=T.box.cell q.2.2.2.2.2.2.2.1
   go_wp2_with fail
   refine(eK (nb:Int) _ bm (by omega)).mono ?_;rintro e cy ⟨b3,ck,b8,rfl,I,H⟩;have R:=aa (T.ext' H);have bd:=aa I;clear I H T;clear q7
   go_wp2_with (with_reducible refine ax ?_)
   refine au ?_;refine aV aO R.own bd rfl (aF _ _) (by decide) (by decide) (by decide) R.le rfl rfl ?_;intro bS bY hp g m;have h:eX w d bY bS (19+2) (6 :: (aM id++aM j)++bN f++bN nb):=R.push hp g;obtain⟨cq,b9,rfl⟩:=h.form;have ak:=aa h;clear hp g m h R;have q7:=ak.box.cell q.2.2.2.2.2.2.2.1
   go_wp2_with fail
   clear q7 N;go_loopw [3,55] (fun o i wr=>∃(k:Nat) (p:Option Addr) (c:Nat),k<=nb/\i=.int .i64 k/\o=.slice p (19+2+k*16) c/\Hid (eX w d wr (.slice p (19+2+k*16) c) (19+2+k*16) (6 :: (aM id++aM j)++bN f++bN nb++(a.take k).flatten))) (fun _ i _=>nb - (Ef i).toNat);case atStart=>exact⟨0,_,_,DZ _,rfl,rfl,by rw[E4,List.flatten_nil,List.append_nil];exact ak⟩
   case round=>
    obtain⟨k,p,c,m,rfl,rfl,s⟩:=hrel;by_cases bA:k < nb
    ·have X:k < a.length:=by rw[<-C.out];exact bA
     obtain⟨cv,aY,aZ,a0⟩:=am.ext s.ext;obtain⟨gb,ob,bE,bs,aC⟩:=bf.Cv aY aZ k X;subst bE;have ag:=a0 k X;have V:=fI (ac.2 _ (yR a X));have an:Hid ((a.take (k+1)).flatten=(a.take k).flatten++a.getD k []):=aa (by rw[aP [] a k X];simp);obtain⟨y,hy⟩:=exq (a.getD k []);rw[<-hy]at ag V an;obtain⟨g1,o1,cc,aE,_,_,_,aQ,_⟩:=Rd.pos ag (by omega);rw[aE,V]at aC;have R1:=aa aQ;have a4:=aa V;clear aY aZ a0 bs ag V hy aE aQ
     go_wp2_with (with_reducible refine ax ?_)
     refine au ?_;refine aV aO s.own R1 (by rw[ints_length,a4.out]) (aF _ _) (by decide) (by unfold DV;omega) (by omega) s.le rfl rfl ?_;intro v5 w5 hp g bz;have h:eX w d w5 v5 (19+2+k*16+16) _:=s.push hp g;have G:19+2+k*16+16=19+2+(k+1)*16:=by omega
     rw[G]at h;obtain⟨p5,c5,rfl⟩:=h.form;have H5:=aa h;clear hp g bz h G aC
     go_wp2_with fail
     go_roundw;case rel=>exact⟨k+1,p5,c5,by omega,by go_num,rfl,aa (by rw[an.out,<-List.append_assoc];exact H5)⟩
     case measure=>simp[Ef];omega
    ·obtain rfl:k=nb:=by omega
     have N:=s.box.cell q.1
     go_wp2_with fail
     go_ret;refine⟨_,rfl,?_,s.ext⟩;have h:=s.out;rw[DW (by rw[<-C.out];exact DH _)]at h;rw[HV.out];exact h.rd (by rw[List.length_append,a6.out];rfl)
theorem ek (v:DG) (l:Cp) (w:DF) (h:dH w v l) (d:1<=l.kind/\l.kind<=7) (a:bn l=true) (b:bH l=true):
  DN DE 60 #[v] w fun e w'=>∃c,e=.returned c/\Rd w' .u8 c (bL l)/\az w w':=by
 rcases jz d with h1 | h1 | h1 | h1 | h1 | h1 | h1
 ·exact rS v l w h h1 a b
 ·exact rT v l w h h1 a b
 ·exact rU v l w h h1 a b
 ·exact rX v l w h h1 a b
 ·exact rV v l w h h1 a b
 ·exact rY v l w h h1 a b
 ·exact rW v l w h h1 a b
theorem gY (l:Cp):eA l=true↔(l.kind=3\/l.places.length=0)/\(l.kind=4\/l.shown.length=0)/\((l.kind=5\/l.kind=6)\/l.Cq=0)/\(l.kind=5\/l.Cs=0)/\((l.kind=1\/l.kind=6)\/l.blocks.length=0)/\(l.kind=7\/l.code=0):=by
 unfold eA nB pn dI;simp only[decide_eq_true_eq,Cp.CG];by_cases a:l.kind=3<;>by_cases b:l.kind=4<;>by_cases c:l.kind=5<;>by_cases d:l.kind=6<;>by_cases h1:l.kind=1<;>by_cases e:l.kind=7<;>(simp[h1,a,b,c,d,e,Cp.CD]<;>constructor<;>simp_all)
section
variable {l:Cp}
theorem Be (h:wi l.kind 1 7=false):aW l=7:=by unfold aW;rw[if_pos h]
theorem ij (h:wi l.kind 1 7=true) (h1:bn l=false):aW l=1:=by unfold aW;rw[h,if_neg (by decide),if_pos h1]
theorem yu (h:wi l.kind 1 7=true) (h1:bn l=true) (h2:bH l=false):aW l=8:=by unfold aW;rw[h,if_neg (by decide),h1,if_neg (by decide),if_pos h2]
theorem dT (h:wi l.kind 1 7=true) (h1:bn l=true) (h2:bH l=true) (a:¬eA l=true):aW l=4:=by
 have a:eA l=false:=by simpa using a
 unfold aW;rw[h,if_neg (by decide),h1,if_neg (by decide),h2,if_neg (by decide),if_pos a]
theorem rZ (h:wi l.kind 1 7=true) (h1:bn l=true) (h2:bH l=true) (a:eA l=true) (b:8000 < (bL l).length):aW l=3:=by unfold aW;rw[h,if_neg (by decide),h1,if_neg (by decide),h2,if_neg (by decide),a,if_neg (by decide),if_pos b]
theorem r5 (h:wi l.kind 1 7=true) (h1:bn l=true) (h2:bH l=true) (a:eA l=true) (b:¬8000 < (bL l).length):aW l=0:=by unfold aW;rw[h,if_neg (by decide),h1,if_neg (by decide),h2,if_neg (by decide),a,if_neg (by decide),if_neg b]
end
theorem eL {α :Type} (p: α ->Bool) (l:List α) (d: α) {k:Nat} (h:k < l.length):(l.take (k+1)).any p=((l.take k).any p||p (l.getD k d)):=by
 rw[List.take_add_one,DL h,List.any_append,List.getD_eq_getElem?_getD,DL h];simp
theorem mA {α :Type} (a b n y E F G H I J c d e f g h i j k m o p q r s t u v w x z A B C D: α) (l:List α):List.append [a,b,n,y,E,F,G,H,I,J,c,d,e,f,g,h,i,j,k,m,o,p,q,r,s,t,u,v,w,x,z,A,B,C,D] l=a :: b :: n :: y :: E :: F :: G :: H :: I :: J :: c :: d :: e :: f :: g :: h :: i :: j :: k :: m :: o :: p :: q :: r :: s :: t :: u :: v :: w :: x :: z :: A :: B :: C :: D :: l:=rfl
theorem fw {P:Program} {ops:Array Oper} {rest:List Oper} {o:Op} {c:TypeId} {pp:String} {b:Array Edge} {g:Option (Nat × Bool)} {Q:Exit->Act->DF->Prop} {a:Act} {w:DF} (h:jF (wpList P ops Q (⟨some 148,o,c,pp,b,g⟩ :: rest) a w)):wpList P ops Q (⟨some 148,o,c,pp,b,g⟩ :: rest) a w:=h
theorem AR:∀ {a b c:Bool},true=(!b||c)->(a&&b&& !c)=false:=by decide
theorem xm:∀ {b c:Bool},false=(!b||c)->b=true/\c=false:=by decide
theorem zJ:∀ {b c:Bool},true=(!b||c)->(b&& !c)=false:=by decide
theorem ql (v:DG) (l:Cp) (w:DF) (h:dH w v l) (V:l.kind=1):
  DN DE 40 #[v] w fun e w'=>e=.returned (.int .i64 (aW l:Nat))/\az w w':=by
 have HL:=aa h;obtain⟨bA,vp,vs,vb,L,rfl,z⟩:=h;obtain rfl:=z.eq;have J:Hid (∀A,az w A->bn l=true->bH l=true->DN DE 60 #[.agg (cL l vp vs vb).toArray] A fun e w'=>∃v',e=.returned v'/\Rd w' .u8 v' (bL l)/\az A w'):=aa fun A h2 hn hz=>ek _ l A (HL.ext h2) (by rw[V];decide) hn hz
 obtain⟨kd,id,c,pl,sh,j,g,a,f⟩:=l;obtain⟨p1,K,e1,aI,bo⟩:=z.pl.form;obtain⟨p2,N,e2,bj,bp⟩:=z.sh.rd.form;obtain⟨Q,O,e3,aJ,bq⟩:=z.bl.form;have ba:Hid (Rd w .i64 vp pl):=aa z.pl;have be:=aa z.sh;have bg:Hid (L.map cf=sh):=aa z.sl;have ax:Hid (bf w vb a):=aa z.bl;simp only at e1 e2 e3 V aI aJ;subst V;subst e1 e2 e3;clear z HL;unfold DV at bo bp bq;obtain⟨H,ai⟩:=exq pl.length;obtain⟨C,W⟩:=exq L.length;obtain⟨nb,ah⟩:=exq a.length;have F:=aa ai;have bw:=aa W;have t:=aa ah;have G:Hid (sh.length=C):=aa (by rw[<-bg.out,D2,W]);rw[<-ai]at ba aI J⊢;rw[<-W]at be bj J⊢;rw[<-ah]at ax aJ J⊢;clear ai W ah;obtain⟨qI,al⟩:=exq (wi id 0 1099511627776);obtain⟨qO,am⟩:=exq (wi c 0 1099511627776);have HN:Hid (bn ⟨1,id,c,pl,sh,j,g,a,f⟩=(qI&&qO&&true)):=aa (by rw[al,am];unfold bn lp;rfl);have HS:Hid (bH ⟨1,id,c,pl,sh,j,g,a,f⟩=(wi a.length 1 512&& !a.any fk)):=aa (by unfold bH;rfl);have D:=aa (gY ⟨1,id,c,pl,sh,j,g,a,f⟩);have bc:=aa al;have bd:=aa am;clear al am;obtain⟨W0,U⟩:=exq (w.alloc (.cells #[.int .i64 1,.int .i64 id,.int .i64 c,.slice p1 H K,.slice p2 C N,.int .i64 j,.int .i64 g,.slice Q nb O,.int .i64 f] 43));have Z:Hid (az w W0):=aa (by rw[U];exact ae _ _);obtain⟨p,T⟩:=exq (cL ⟨1,id,c,pl,sh,j,g,a,f⟩ (.slice p1 H K) (.slice p2 C N) (.slice Q nb O));rw[<-T]at J;have m:Hid (av W0 w.heap.size p):=aa (by rw[U,T];exact av.box w 43 (cs:=(cL ⟨1,id,c,pl,sh,j,g,a,f⟩ (.slice p1 H K) (.slice p2 C N) (.slice Q nb O))) (fun h=>by cases h));have d:Hid (p[0]? =some (.int .i64 1)/\p[1]? =some (.int .i64 id)/\p[2]? =some (.int .i64 c)/\p[3]? =some (.slice p1 H K)/\p[4]? =some (.slice p2 C N)/\p[5]? =some (.int .i64 j)/\p[6]? =some (.int .i64 g)/\p[7]? =some (.slice Q nb O)/\p[8]? =some (.int .i64 f)/\p.length=9):=aa (by rw[T];exact⟨rfl,rfl,rfl,rfl,rfl,rfl,rfl,rfl,rfl,rfl⟩);show DN DE 40 #[.agg #[.int .i64 1,.int .i64 id,.int .i64 c,.slice p1 H K,.slice p2 C N,.int .i64 j,.int .i64 g,.slice Q nb O,.int .i64 f]] w _;clear T;go_enter HU,G1
 go_wp2_with fail
 rw[<-U];clear U;refine(aY _ _ _ _).mono ?_;rintro e A ⟨rfl,hw⟩;subst hw;have q0:=m.cell d.1;have Y:=m.cell d.2.1;have q2:=m.cell d.2.2.1;rw[show(!wi 1 1 7)=false from rfl]
 go_wp2_with fail
 refine(aY _ _ _ _).mono ?_;rintro e A ⟨rfl,hw⟩;subst hw;rw[<-bc.out];clear Y;cases qI
 ·rw[ET];have HV:=aa (ij (l:=⟨1,id,c,pl,sh,j,g,a,f⟩) rfl (by rw[HN.out];rfl))
  go_wp2_with fail
  go_ret;exact⟨by rw[HV.out];rfl,Z⟩
 ·rw[Ep]
  go_wp2_with fail
  refine(aY _ _ _ _).mono ?_;rintro e A ⟨rfl,hw⟩;subst hw;rw[<-bd.out];cases qO
  ·rw[ET];have HV:=aa (ij (l:=⟨1,id,c,pl,sh,j,g,a,f⟩) rfl (by rw[HN.out];rfl))
   go_wp2_with fail
   go_ret;exact⟨by rw[HV.out];rfl,Z⟩
  ·rw[Ep];have q0:=m.cell d.1;have Y:=m.cell d.2.1;have q2:=m.cell d.2.2.1;have q3:=m.cell d.2.2.2.1;have q4:=m.cell d.2.2.2.2.1;have q5:=m.cell d.2.2.2.2.2.1;have q6:=m.cell d.2.2.2.2.2.2.1;have q7:=m.cell d.2.2.2.2.2.2.2.1;have q8:=m.cell d.2.2.2.2.2.2.2.2.1;have s:Hid (bn ⟨1,id,c,pl,sh,j,g,a,f⟩=true):=aa (by rw[HN.out];rfl);obtain⟨qB,aj⟩:=exq (wi (nb:Int) 1 512);rw[<-t.out,<-aj]at HS;have bb:=aa aj;clear aj
   go_wp2_with fail
   refine(aY _ _ _ _).mono ?_;rintro e A ⟨rfl,hw⟩;subst hw;rw[<-bb.out]
   go_wp2_with fail
   clear q0 Y q2 q3 q4 q5 q6 q7 q8;go_loopw [3,107] (fun o i wr=>∃(k:Nat) (b:Bool),k<=nb/\i=.int .i64 k/\o=.bool b/\Hid (b=(!qB||(a.take k).any fk))/\Hid (av wr w.heap.size p)/\Hid (az w wr)) (fun _ i _=>nb - (Ef i).toNat);case atStart=>exact⟨0,_,DZ _,rfl,rfl,aa (by rw[E4];simp),m,Z⟩
   case round=>
    obtain⟨k,b,V,rfl,rfl,E,n,r⟩:=hrel;by_cases bm:k < nb
    ·have ag:k < a.length:=by rw[<-t.out];exact bm
     obtain⟨bO,aR,aS,aT⟩:=ax.ext r;obtain⟨gb,ob,bs,bl,aK⟩:=bf.Cv aR aS k ag;subst bs;have an:=aT k ag;have R:=aa (eL fk a [] ag);obtain⟨y,hy⟩:=exq (a.getD k []);rw[<-hy]at an R;obtain⟨g1,bz,aM,_,_⟩:=an.form;rw[aM]at aK;obtain⟨I,X⟩:=exq y.length;rw[<-X]at aK;have bx:=aa X;have aH:Hid (fk y= !decide (I=16)):=aa (by unfold fk;rw[X]);clear aR aS aT bl an hy aM X;cases b
     ·by_cases ad:I=16
      ·subst ad
       go_wp2_with fail
       go_roundw;case rel=>exact⟨k+1,false,by omega,by go_num,rfl,aa (by rw[R.out,aH.out,<-FD,<-E.out];rfl),n,r⟩
       case measure=>simp[Ef];omega
      ·have aF:¬((I:Int)=16):=by omega
       have bD:((I:Int)==16)=false:=by rw[beq_eq_false_iff_ne];exact aF
       have bh:((I:Int) != 16)=true:=by rw[bne_iff_ne];exact aF
       have Hd:Hid (decide (I=16)=false):=aa (decide_eq_false ad);clear ad
       go_wp2_with fail
       go_roundw;case rel=>exact⟨k+1,true,by omega,by go_num,(by first | rfl | exact congrArg Value.bool bh),aa (by rw[R.out,aH.out,Hd.out,<-FD,<-E.out];rfl),n,r⟩
       case measure=>simp[Ef];omega
     ·go_wp2_with fail
      go_roundw;case rel=>exact⟨k+1,true,by omega,by go_num,rfl,aa (by rw[R.out,<-FD,<-E.out];rfl),n,r⟩
      case measure=>simp[Ef];omega
    ·obtain rfl:k=nb:=by omega
     rw[DW (by rw[<-t.out];exact DH _)]at E;have q0:=n.cell d.1;have Y:=n.cell d.2.1;have q2:=n.cell d.2.2.1;have q3:=n.cell d.2.2.2.1;have q4:=n.cell d.2.2.2.2.1;have q5:=n.cell d.2.2.2.2.2.1;have q6:=n.cell d.2.2.2.2.2.2.1;have q7:=n.cell d.2.2.2.2.2.2.2.1;have q8:=n.cell d.2.2.2.2.2.2.2.2.1;cases b
     rotate_left
     ·have HV:=aa (yu (l:=⟨1,id,c,pl,sh,j,g,a,f⟩) rfl s (by rw[HS.out];exact zJ E))
      go_wp2_with fail
      go_ret;exact⟨by rw[HV.out];rfl,r⟩
     have B:Hid (bH ⟨1,id,c,pl,sh,j,g,a,f⟩=true):=aa (by rw[HS.out];obtain⟨z1,z2⟩:=xm E;rw[z1,z2];rfl)
     go_wp2_with (with_reducible refine fw ?_)
     refine au ?_;iterate 28 (try (first | go_values | go_skip | go_guarded | go_step | go_upon | go_back | (simp only[Int.not_lt,Int.not_le]at*;go_simp) | (go_values<;>(try go_simp))))
     rw[mA];by_cases bE:(0:Int) < (H:Int)
     ·have HV:=aa (dT (l:=⟨1,id,c,pl,sh,j,g,a,f⟩) rfl s B (fun q=>by obtain⟨u,a2,a3,a4,a5,x⟩:=D.1 q;(try dsimp only at u a2 a3 a4 a5 x);have:=F.out;have:=G.out;have:=t.out;omega))
      go_wp2_with fail
      go_ret;exact⟨by rw[HV.out];rfl,r⟩
     by_cases bF:(0:Int) < (C:Int)
     ·have HV:=aa (dT (l:=⟨1,id,c,pl,sh,j,g,a,f⟩) rfl s B (fun q=>by obtain⟨u,a2,a3,a4,a5,x⟩:=D.1 q;(try dsimp only at u a2 a3 a4 a5 x);have:=F.out;have:=G.out;have:=t.out;omega))
      go_wp2_with fail
      go_ret;exact⟨by rw[HV.out];rfl,r⟩
     by_cases aP:j=0
     rotate_left
     ·have bJ:(j==0)=false:=by rw[beq_eq_false_iff_ne];exact aP
      have HV:=aa (dT (l:=⟨1,id,c,pl,sh,j,g,a,f⟩) rfl s B (fun q=>by obtain⟨u,a2,a3,a4,a5,x⟩:=D.1 q;(try dsimp only at u a2 a3 a4 a5 x);have:=F.out;have:=G.out;have:=t.out;omega))
      go_wp2_with fail
      go_ret;exact⟨by rw[HV.out];rfl,r⟩
     subst aP;by_cases aO:g=0
     rotate_left
     ·have bI:(g==0)=false:=by rw[beq_eq_false_iff_ne];exact aO
      have HV:=aa (dT (l:=⟨1,id,c,pl,sh,0,g,a,f⟩) rfl s B (fun q=>by obtain⟨u,a2,a3,a4,a5,x⟩:=D.1 q;(try dsimp only at u a2 a3 a4 a5 x);have:=F.out;have:=G.out;have:=t.out;omega))
      go_wp2_with fail
      go_ret;exact⟨by rw[HV.out];rfl,r⟩
     subst aO;by_cases aN:f=0
     rotate_left
     ·have bG:(f==0)=false:=by rw[beq_eq_false_iff_ne];exact aN
      have HV:=aa (dT (l:=⟨1,id,c,pl,sh,0,0,a,f⟩) rfl s B (fun q=>by obtain⟨u,a2,a3,a4,a5,x⟩:=D.1 q;(try dsimp only at u a2 a3 a4 a5 x);have:=F.out;have:=G.out;have:=t.out;omega))
      go_wp2_with fail
      go_ret;exact⟨by rw[HV.out];rfl,r⟩
     subst aN;have hf:eA ⟨1,id,c,pl,sh,0,0,a,0⟩=true:=by refine D.2 ⟨?_,?_,?_,?_,?_,?_⟩<;>(first | exact EV rfl | exact EV (EV rfl) | exact EV (Or.inr rfl) | exact EV trivial | exact EV (EV trivial) | exact EV (Or.inr trivial) | ((try dsimp only);have:=F.out;have:=G.out;have:=t.out;omega))
     have Hf:=aa hf;clear hf;have Hl:=aa (n.load (P:=DE) DU rfl (by rw[d.out.2.2.2.2.2.2.2.2.2];kernel_rfl))
     go_wp2_with ((with_reducible refine ak ?_ Hl.out ?_);rfl)
     refine(J _ r s B).mono ?_;rintro e wz ⟨vz,rfl,aQ,aG⟩;obtain⟨pz,cz,bk,_,_⟩:=aQ.form;subst bk;have aq:=aa (r.trans aG);obtain⟨M,hM⟩:=exq ((bL ⟨1,id,c,pl,sh,0,0,a,0⟩).length);rw[<-hM];have HM:=aa hM;clear hM aQ aG Hl;by_cases S:8000 < M
     ·have bi:(8000:Int) < (M:Int):=by omega
      have HV:=aa (rZ (l:=⟨1,id,c,pl,sh,0,0,a,0⟩) rfl s B Hf (by rw[<-HM.out];exact S));clear S
      go_wp2_with fail
      go_ret;exact⟨by rw[HV.out];rfl,aq⟩
     ·have bi:¬((8000:Int) < (M:Int)):=by omega
      have HV:=aa (r5 (l:=⟨1,id,c,pl,sh,0,0,a,0⟩) rfl s B Hf (by rw[<-HM.out];exact S));clear S
      go_wp2_with fail
      go_ret;exact⟨by rw[HV.out];rfl,aq⟩
theorem qn (v:DG) (l:Cp) (w:DF) (h:dH w v l) (O:l.kind=2):
  DN DE 40 #[v] w fun e w'=>e=.returned (.int .i64 (aW l:Nat))/\az w w':=by
 have V:=aa h;obtain⟨aP,vp,vs,vb,L,rfl,r⟩:=h;obtain rfl:=r.eq;have B:Hid (∀s,az w s->bn l=true->bH l=true->DN DE 60 #[.agg (cL l vp vs vb).toArray] s fun e w'=>∃v',e=.returned v'/\Rd w' .u8 v' (bL l)/\az s w'):=aa fun s h2 hn hz=>ek _ l s (V.ext h2) (by rw[O];decide) hn hz
 obtain⟨kd,id,a,pl,sh,f,d,b,c⟩:=l;obtain⟨p1,C,e1,ag,aH⟩:=r.pl.form;obtain⟨p2,D,e2,aF,aI⟩:=r.sh.rd.form;obtain⟨F,E,e3,ah,aJ⟩:=r.bl.form;have ay:Hid (Rd w .i64 vp pl):=aa r.pl;have aC:=aa r.sh;have aD:Hid (L.map cf=sh):=aa r.sl;have ax:Hid (bf w vb b):=aa r.bl;simp only at e1 e2 e3 O ag ah;subst O;subst e1 e2 e3;clear r V;unfold DV at aH aI aJ;obtain⟨A,R⟩:=exq pl.length;obtain⟨z,J⟩:=exq L.length;obtain⟨nb,Q⟩:=exq b.length;have x:=aa R;have aO:=aa J;have u:=aa Q;have y:Hid (sh.length=z):=aa (by rw[<-aD.out,D2,J]);rw[<-R]at ay ag B⊢;rw[<-J]at aC aF B⊢;rw[<-Q]at ax ah B⊢;clear R J Q;obtain⟨qI,S⟩:=exq (wi id 0 1099511627776);obtain⟨qO,T⟩:=exq (wi a 0 1099511627776);have K:Hid (bn ⟨2,id,a,pl,sh,f,d,b,c⟩=(qI&&qO&&true)):=aa (by rw[S,T];unfold bn lp;rfl);have HS:Hid (bH ⟨2,id,a,pl,sh,f,d,b,c⟩=true):=aa (by unfold bH;rfl);have t:=aa (gY ⟨2,id,a,pl,sh,f,d,b,c⟩);have aA:=aa S;have aB:=aa T;clear S T;obtain⟨Z,I⟩:=exq (w.alloc (.cells #[.int .i64 2,.int .i64 id,.int .i64 a,.slice p1 A C,.slice p2 z D,.int .i64 f,.int .i64 d,.slice F nb E,.int .i64 c] 43));have n:Hid (az w Z):=aa (by rw[I];exact ae _ _);obtain⟨j,H⟩:=exq (cL ⟨2,id,a,pl,sh,f,d,b,c⟩ (.slice p1 A C) (.slice p2 z D) (.slice F nb E));rw[<-H]at B;have g:Hid (av Z w.heap.size j):=aa (by rw[I,H];exact av.box w 43 (cs:=(cL ⟨2,id,a,pl,sh,f,d,b,c⟩ (.slice p1 A C) (.slice p2 z D) (.slice F nb E))) (fun h=>by cases h));have i:Hid (j[0]? =some (.int .i64 2)/\j[1]? =some (.int .i64 id)/\j[2]? =some (.int .i64 a)/\j[3]? =some (.slice p1 A C)/\j[4]? =some (.slice p2 z D)/\j[5]? =some (.int .i64 f)/\j[6]? =some (.int .i64 d)/\j[7]? =some (.slice F nb E)/\j[8]? =some (.int .i64 c)/\j.length=9):=aa (by rw[H];exact⟨rfl,rfl,rfl,rfl,rfl,rfl,rfl,rfl,rfl,rfl⟩);show DN DE 40 #[.agg #[.int .i64 2,.int .i64 id,.int .i64 a,.slice p1 A C,.slice p2 z D,.int .i64 f,.int .i64 d,.slice F nb E,.int .i64 c]] w _;clear H;go_enter HU,G1
 go_wp2_with fail
 rw[<-I];clear I;refine(aY _ _ _ _).mono ?_;rintro e s ⟨rfl,hw⟩;subst hw;have q0:=g.cell i.1;have q1:=g.cell i.2.1;have q2:=g.cell i.2.2.1;rw[show(!wi 2 1 7)=false from rfl]
 go_wp2_with fail
 refine(aY _ _ _ _).mono ?_;rintro e s ⟨rfl,hw⟩;subst hw;rw[<-aA.out];clear q1;cases qI
 ·rw[ET];have HV:=aa (ij (l:=⟨2,id,a,pl,sh,f,d,b,c⟩) rfl (by rw[K.out];rfl))
  go_wp2_with fail
  go_ret;exact⟨by rw[HV.out];rfl,n⟩
 ·rw[Ep]
  go_wp2_with fail
  refine(aY _ _ _ _).mono ?_;rintro e s ⟨rfl,hw⟩;subst hw;rw[<-aB.out];cases qO
  ·rw[ET];have HV:=aa (ij (l:=⟨2,id,a,pl,sh,f,d,b,c⟩) rfl (by rw[K.out];rfl))
   go_wp2_with fail
   go_ret;exact⟨by rw[HV.out];rfl,n⟩
  ·rw[Ep];have q0:=g.cell i.1;have q1:=g.cell i.2.1;have q2:=g.cell i.2.2.1;have q3:=g.cell i.2.2.2.1;have q4:=g.cell i.2.2.2.2.1;have q5:=g.cell i.2.2.2.2.2.1;have q6:=g.cell i.2.2.2.2.2.2.1;have q7:=g.cell i.2.2.2.2.2.2.2.1;have q8:=g.cell i.2.2.2.2.2.2.2.2.1;have o:Hid (bn ⟨2,id,a,pl,sh,f,d,b,c⟩=true):=aa (by rw[K.out];rfl);have p:Hid (bH ⟨2,id,a,pl,sh,f,d,b,c⟩=true):=aa HS
   go_wp2_with (with_reducible refine fw ?_)
   refine au ?_;iterate 28 (try (first | go_values | go_skip | go_guarded | go_step | go_upon | go_back | (simp only[Int.not_lt,Int.not_le]at*;go_simp) | (go_values<;>(try go_simp))))
   rw[mA];by_cases aR:(0:Int) < (nb:Int)
   ·have HV:=aa (dT (l:=⟨2,id,a,pl,sh,f,d,b,c⟩) rfl o p (fun q=>by obtain⟨k,a2,a3,a4,a5,m⟩:=t.1 q;(try dsimp only at k a2 a3 a4 a5 m);have:=x.out;have:=y.out;have:=u.out;omega))
    go_wp2_with fail
    go_ret;exact⟨by rw[HV.out];rfl,n⟩
   by_cases aS:(0:Int) < (A:Int)
   ·have HV:=aa (dT (l:=⟨2,id,a,pl,sh,f,d,b,c⟩) rfl o p (fun q=>by obtain⟨k,a2,a3,a4,a5,m⟩:=t.1 q;(try dsimp only at k a2 a3 a4 a5 m);have:=x.out;have:=y.out;have:=u.out;omega))
    go_wp2_with fail
    go_ret;exact⟨by rw[HV.out];rfl,n⟩
   by_cases aT:(0:Int) < (z:Int)
   ·have HV:=aa (dT (l:=⟨2,id,a,pl,sh,f,d,b,c⟩) rfl o p (fun q=>by obtain⟨k,a2,a3,a4,a5,m⟩:=t.1 q;(try dsimp only at k a2 a3 a4 a5 m);have:=x.out;have:=y.out;have:=u.out;omega))
    go_wp2_with fail
    go_ret;exact⟨by rw[HV.out];rfl,n⟩
   by_cases am:f=0
   rotate_left
   ·have aX:(f==0)=false:=by rw[beq_eq_false_iff_ne];exact am
    have HV:=aa (dT (l:=⟨2,id,a,pl,sh,f,d,b,c⟩) rfl o p (fun q=>by obtain⟨k,a2,a3,a4,a5,m⟩:=t.1 q;(try dsimp only at k a2 a3 a4 a5 m);have:=x.out;have:=y.out;have:=u.out;omega))
    go_wp2_with fail
    go_ret;exact⟨by rw[HV.out];rfl,n⟩
   subst am;by_cases al:d=0
   rotate_left
   ·have aV:(d==0)=false:=by rw[beq_eq_false_iff_ne];exact al
    have HV:=aa (dT (l:=⟨2,id,a,pl,sh,0,d,b,c⟩) rfl o p (fun q=>by obtain⟨k,a2,a3,a4,a5,m⟩:=t.1 q;(try dsimp only at k a2 a3 a4 a5 m);have:=x.out;have:=y.out;have:=u.out;omega))
    go_wp2_with fail
    go_ret;exact⟨by rw[HV.out];rfl,n⟩
   subst al;by_cases aj:c=0
   rotate_left
   ·have aU:(c==0)=false:=by rw[beq_eq_false_iff_ne];exact aj
    have HV:=aa (dT (l:=⟨2,id,a,pl,sh,0,0,b,c⟩) rfl o p (fun q=>by obtain⟨k,a2,a3,a4,a5,m⟩:=t.1 q;(try dsimp only at k a2 a3 a4 a5 m);have:=x.out;have:=y.out;have:=u.out;omega))
    go_wp2_with fail
    go_ret;exact⟨by rw[HV.out];rfl,n⟩
   subst aj;have hf:eA ⟨2,id,a,pl,sh,0,0,b,0⟩=true:=by refine t.2 ⟨?_,?_,?_,?_,?_,?_⟩<;>(first | exact EV rfl | exact EV (EV rfl) | exact EV (Or.inr rfl) | exact EV trivial | exact EV (EV trivial) | exact EV (Or.inr trivial) | ((try dsimp only);have:=x.out;have:=y.out;have:=u.out;omega))
   have X:=aa hf;clear hf;have Y:=aa (g.load (P:=DE) DU rfl (by rw[i.out.2.2.2.2.2.2.2.2.2];kernel_rfl))
   go_wp2_with ((with_reducible refine ak ?_ Y.out ?_);rfl)
   refine(B _ n o p).mono ?_;rintro e wz ⟨vz,rfl,an,af⟩;obtain⟨pz,cz,aG,_,_⟩:=an.form;subst aG;have U:=aa (n.trans af);obtain⟨M,N⟩:=exq ((bL ⟨2,id,a,pl,sh,0,0,b,0⟩).length);rw[<-N];have W:=aa N;clear N an af Y;by_cases G:8000 < M
   ·have aE:(8000:Int) < (M:Int):=by omega
    have HV:=aa (rZ (l:=⟨2,id,a,pl,sh,0,0,b,0⟩) rfl o p X (by rw[<-W.out];exact G));clear G
    go_wp2_with fail
    go_ret;exact⟨by rw[HV.out];rfl,U⟩
   ·have aE:¬((8000:Int) < (M:Int)):=by omega
    have HV:=aa (r5 (l:=⟨2,id,a,pl,sh,0,0,b,0⟩) rfl o p X (by rw[<-W.out];exact G));clear G
    go_wp2_with fail
    go_ret;exact⟨by rw[HV.out];rfl,U⟩
theorem qo (v:DG) (l:Cp) (w:DF) (h:dH w v l) (O:l.kind=5):
  DN DE 40 #[v] w fun e w'=>e=.returned (.int .i64 (aW l:Nat))/\az w w':=by
 have V:=aa h;obtain⟨aT,vp,vs,vb,L,rfl,n⟩:=h;obtain rfl:=n.eq;have z:Hid (∀m,az w m->bn l=true->bH l=true->DN DE 60 #[.agg (cL l vp vs vb).toArray] m fun e w'=>∃v',e=.returned v'/\Rd w' .u8 v' (bL l)/\az m w'):=aa fun m h2 hn hz=>ek _ l m (V.ext h2) (by rw[O];decide) hn hz
 obtain⟨kd,id,c,pl,sh,b,a,d,f⟩:=l;obtain⟨p1,D,e1,ai,aJ⟩:=n.pl.form;obtain⟨p2,E,e2,aH,aK⟩:=n.sh.rd.form;obtain⟨G,F,e3,aj,aL⟩:=n.bl.form;have aB:Hid (Rd w .i64 vp pl):=aa n.pl;have aE:=aa n.sh;have aF:Hid (L.map cf=sh):=aa n.sl;have aA:Hid (bf w vb d):=aa n.bl;simp only at e1 e2 e3 O ai aj;subst O;subst e1 e2 e3;clear n V;unfold DV at aJ aK aL;obtain⟨x,R⟩:=exq pl.length;obtain⟨u,K⟩:=exq L.length;obtain⟨nb,Q⟩:=exq d.length;have B:=aa R;have aS:=aa K;have A:=aa Q;have C:Hid (sh.length=u):=aa (by rw[<-aF.out,D2,K]);rw[<-R]at aB ai z⊢;rw[<-K]at aE aH z⊢;rw[<-Q]at aA aj z⊢;clear R K Q;obtain⟨qI,S⟩:=exq (wi id 0 1099511627776);obtain⟨qO,T⟩:=exq (wi c 0 1099511627776);have o:Hid (bn ⟨5,id,c,pl,sh,b,a,d,f⟩=(qI&&qO&&(wi a 1 512&&wi b 0 511))):=aa (by rw[S,T];unfold bn lp;rfl);have HS:Hid (bH ⟨5,id,c,pl,sh,b,a,d,f⟩=true):=aa (by unfold bH;rfl);have y:=aa (gY ⟨5,id,c,pl,sh,b,a,d,f⟩);have aC:=aa S;have aD:=aa T;clear S T;obtain⟨W0,J⟩:=exq (w.alloc (.cells #[.int .i64 5,.int .i64 id,.int .i64 c,.slice p1 x D,.slice p2 u E,.int .i64 b,.int .i64 a,.slice G nb F,.int .i64 f] 43));have k:Hid (az w W0):=aa (by rw[J];exact ae _ _);obtain⟨j,I⟩:=exq (cL ⟨5,id,c,pl,sh,b,a,d,f⟩ (.slice p1 x D) (.slice p2 u E) (.slice G nb F));rw[<-I]at z;have g:Hid (av W0 w.heap.size j):=aa (by rw[J,I];exact av.box w 43 (cs:=(cL ⟨5,id,c,pl,sh,b,a,d,f⟩ (.slice p1 x D) (.slice p2 u E) (.slice G nb F))) (fun h=>by cases h));have i:Hid (j[0]? =some (.int .i64 5)/\j[1]? =some (.int .i64 id)/\j[2]? =some (.int .i64 c)/\j[3]? =some (.slice p1 x D)/\j[4]? =some (.slice p2 u E)/\j[5]? =some (.int .i64 b)/\j[6]? =some (.int .i64 a)/\j[7]? =some (.slice G nb F)/\j[8]? =some (.int .i64 f)/\j.length=9):=aa (by rw[I];exact⟨rfl,rfl,rfl,rfl,rfl,rfl,rfl,rfl,rfl,rfl⟩);show DN DE 40 #[.agg #[.int .i64 5,.int .i64 id,.int .i64 c,.slice p1 x D,.slice p2 u E,.int .i64 b,.int .i64 a,.slice G nb F,.int .i64 f]] w _;clear I;go_enter HU,G1
 go_wp2_with fail
 rw[<-J];clear J;refine(aY _ _ _ _).mono ?_;rintro e m ⟨rfl,hw⟩;subst hw;have q0:=g.cell i.1;have q1:=g.cell i.2.1;have q2:=g.cell i.2.2.1;rw[show(!wi 5 1 7)=false from rfl]
 go_wp2_with fail
 refine(aY _ _ _ _).mono ?_;rintro e m ⟨rfl,hw⟩;subst hw;rw[<-aC.out];clear q1;cases qI
 ·rw[ET];have HV:=aa (ij (l:=⟨5,id,c,pl,sh,b,a,d,f⟩) rfl (by rw[o.out];rfl))
  go_wp2_with fail
  go_ret;exact⟨by rw[HV.out];rfl,k⟩
 ·rw[Ep]
  go_wp2_with fail
  refine(aY _ _ _ _).mono ?_;rintro e m ⟨rfl,hw⟩;subst hw;rw[<-aD.out];cases qO
  ·rw[ET];have HV:=aa (ij (l:=⟨5,id,c,pl,sh,b,a,d,f⟩) rfl (by rw[o.out];rfl))
   go_wp2_with fail
   go_ret;exact⟨by rw[HV.out];rfl,k⟩
  ·rw[Ep];have q0:=g.cell i.1;have q1:=g.cell i.2.1;have q2:=g.cell i.2.2.1;have q3:=g.cell i.2.2.2.1;have q4:=g.cell i.2.2.2.2.1;have q5:=g.cell i.2.2.2.2.2.1;have q6:=g.cell i.2.2.2.2.2.2.1;have q7:=g.cell i.2.2.2.2.2.2.2.1;have q8:=g.cell i.2.2.2.2.2.2.2.2.1;obtain⟨qC,an⟩:=exq (wi a 1 512);have Z:=aa an;clear an;rw[<-Z.out]at o
   go_wp2_with fail
   refine(aY _ _ _ _).mono ?_;rintro e m ⟨rfl,hw⟩;subst hw;rw[<-Z.out];cases qC
   ·rw[ET];have HV:=aa (ij (l:=⟨5,id,c,pl,sh,b,a,d,f⟩) rfl (by rw[o.out];rfl))
    go_wp2_with fail
    go_ret;exact⟨by rw[HV.out];rfl,k⟩
   rw[Ep];obtain⟨qF,ao⟩:=exq (wi b 0 511);have ab:=aa ao;clear ao;rw[<-ab.out]at o
   go_wp2_with fail
   refine(aY _ _ _ _).mono ?_;rintro e m ⟨rfl,hw⟩;subst hw;rw[<-ab.out];cases qF
   ·rw[ET];have HV:=aa (ij (l:=⟨5,id,c,pl,sh,b,a,d,f⟩) rfl (by rw[o.out];rfl))
    go_wp2_with fail
    go_ret;exact⟨by rw[HV.out];rfl,k⟩
   rw[Ep];have p:Hid (bn ⟨5,id,c,pl,sh,b,a,d,f⟩=true):=aa (by rw[o.out];rfl);have r:Hid (bH ⟨5,id,c,pl,sh,b,a,d,f⟩=true):=aa HS
   go_wp2_with (with_reducible refine fw ?_)
   refine au ?_;iterate 28 (try (first | go_values | go_skip | go_guarded | go_step | go_upon | go_back | (simp only[Int.not_lt,Int.not_le]at*;go_simp) | (go_values<;>(try go_simp))))
   rw[mA];by_cases aV:(0:Int) < (nb:Int)
   ·have HV:=aa (dT (l:=⟨5,id,c,pl,sh,b,a,d,f⟩) rfl p r (fun q=>by obtain⟨s,a2,a3,a4,a5,t⟩:=y.1 q;(try dsimp only at s a2 a3 a4 a5 t);have:=B.out;have:=C.out;have:=A.out;omega))
    go_wp2_with fail
    go_ret;exact⟨by rw[HV.out];rfl,k⟩
   by_cases aX:(0:Int) < (x:Int)
   ·have HV:=aa (dT (l:=⟨5,id,c,pl,sh,b,a,d,f⟩) rfl p r (fun q=>by obtain⟨s,a2,a3,a4,a5,t⟩:=y.1 q;(try dsimp only at s a2 a3 a4 a5 t);have:=B.out;have:=C.out;have:=A.out;omega))
    go_wp2_with fail
    go_ret;exact⟨by rw[HV.out];rfl,k⟩
   by_cases aZ:(0:Int) < (u:Int)
   ·have HV:=aa (dT (l:=⟨5,id,c,pl,sh,b,a,d,f⟩) rfl p r (fun q=>by obtain⟨s,a2,a3,a4,a5,t⟩:=y.1 q;(try dsimp only at s a2 a3 a4 a5 t);have:=B.out;have:=C.out;have:=A.out;omega))
    go_wp2_with fail
    go_ret;exact⟨by rw[HV.out];rfl,k⟩
   by_cases am:f=0
   rotate_left
   ·have a0:(f==0)=false:=by rw[beq_eq_false_iff_ne];exact am
    have HV:=aa (dT (l:=⟨5,id,c,pl,sh,b,a,d,f⟩) rfl p r (fun q=>by obtain⟨s,a2,a3,a4,a5,t⟩:=y.1 q;(try dsimp only at s a2 a3 a4 a5 t);have:=B.out;have:=C.out;have:=A.out;omega))
    go_wp2_with fail
    go_ret;exact⟨by rw[HV.out];rfl,k⟩
   subst am;have hf:eA ⟨5,id,c,pl,sh,b,a,d,0⟩=true:=by refine y.2 ⟨?_,?_,?_,?_,?_,?_⟩<;>(first | exact EV rfl | exact EV (EV rfl) | exact EV (Or.inr rfl) | exact EV trivial | exact EV (EV trivial) | exact EV (Or.inr trivial) | ((try dsimp only);have:=B.out;have:=C.out;have:=A.out;omega))
   have X:=aa hf;clear hf;have Y:=aa (g.load (P:=DE) DU rfl (by rw[i.out.2.2.2.2.2.2.2.2.2];kernel_rfl))
   go_wp2_with ((with_reducible refine ak ?_ Y.out ?_);rfl)
   refine(z _ k p r).mono ?_;rintro e wz ⟨vz,rfl,ap,ah⟩;obtain⟨pz,cz,aI,_,_⟩:=ap.form;subst aI;have U:=aa (k.trans ah);obtain⟨M,N⟩:=exq ((bL ⟨5,id,c,pl,sh,b,a,d,0⟩).length);rw[<-N];have W:=aa N;clear N ap ah Y;by_cases H:8000 < M
   ·have aG:(8000:Int) < (M:Int):=by omega
    have HV:=aa (rZ (l:=⟨5,id,c,pl,sh,b,a,d,0⟩) rfl p r X (by rw[<-W.out];exact H));clear H
    go_wp2_with fail
    go_ret;exact⟨by rw[HV.out];rfl,U⟩
   ·have aG:¬((8000:Int) < (M:Int)):=by omega
    have HV:=aa (r5 (l:=⟨5,id,c,pl,sh,b,a,d,0⟩) rfl p r X (by rw[<-W.out];exact H));clear H
    go_wp2_with fail
    go_ret;exact⟨by rw[HV.out];rfl,U⟩
theorem qp (v:DG) (l:Cp) (w:DF) (h:dH w v l) (O:l.kind=7):
  DN DE 40 #[v] w fun e w'=>e=.returned (.int .i64 (aW l:Nat))/\az w w':=by
 have V:=aa h;obtain⟨aR,vp,vs,vb,L,rfl,o⟩:=h;obtain rfl:=o.eq;have B:Hid (∀p,az w p->bn l=true->bH l=true->DN DE 60 #[.agg (cL l vp vs vb).toArray] p fun e w'=>∃v',e=.returned v'/\Rd w' .u8 v' (bL l)/\az p w'):=aa fun p h2 hn hz=>ek _ l p (V.ext h2) (by rw[O];decide) hn hz
 obtain⟨kd,id,b,pl,sh,f,d,c,a⟩:=l;obtain⟨p1,D,e1,ah,aI⟩:=o.pl.form;obtain⟨p2,E,e2,aG,aJ⟩:=o.sh.rd.form;obtain⟨G,F,e3,ai,aK⟩:=o.bl.form;have aA:Hid (Rd w .i64 vp pl):=aa o.pl;have aD:=aa o.sh;have aE:Hid (L.map cf=sh):=aa o.sl;have ay:Hid (bf w vb c):=aa o.bl;simp only at e1 e2 e3 O ah ai;subst O;subst e1 e2 e3;clear o V;unfold DV at aI aJ aK;obtain⟨A,R⟩:=exq pl.length;obtain⟨t,K⟩:=exq L.length;obtain⟨nb,Q⟩:=exq c.length;have y:=aa R;have aQ:=aa K;have x:=aa Q;have z:Hid (sh.length=t):=aa (by rw[<-aE.out,D2,K]);rw[<-R]at aA ah B⊢;rw[<-K]at aD aG B⊢;rw[<-Q]at ay ai B⊢;clear R K Q;obtain⟨qI,S⟩:=exq (wi id 0 1099511627776);obtain⟨qO,T⟩:=exq (wi b 0 1099511627776);have C:Hid (bn ⟨7,id,b,pl,sh,f,d,c,a⟩=(qI&&qO&&wi a 1 255)):=aa (by rw[S,T];unfold bn lp;rfl);have HS:Hid (bH ⟨7,id,b,pl,sh,f,d,c,a⟩=true):=aa (by unfold bH;rfl);have u:=aa (gY ⟨7,id,b,pl,sh,f,d,c,a⟩);have aB:=aa S;have aC:=aa T;clear S T;obtain⟨W0,J⟩:=exq (w.alloc (.cells #[.int .i64 7,.int .i64 id,.int .i64 b,.slice p1 A D,.slice p2 t E,.int .i64 f,.int .i64 d,.slice G nb F,.int .i64 a] 43));have k:Hid (az w W0):=aa (by rw[J];exact ae _ _);obtain⟨j,I⟩:=exq (cL ⟨7,id,b,pl,sh,f,d,c,a⟩ (.slice p1 A D) (.slice p2 t E) (.slice G nb F));rw[<-I]at B;have g:Hid (av W0 w.heap.size j):=aa (by rw[J,I];exact av.box w 43 (cs:=(cL ⟨7,id,b,pl,sh,f,d,c,a⟩ (.slice p1 A D) (.slice p2 t E) (.slice G nb F))) (fun h=>by cases h));have i:Hid (j[0]? =some (.int .i64 7)/\j[1]? =some (.int .i64 id)/\j[2]? =some (.int .i64 b)/\j[3]? =some (.slice p1 A D)/\j[4]? =some (.slice p2 t E)/\j[5]? =some (.int .i64 f)/\j[6]? =some (.int .i64 d)/\j[7]? =some (.slice G nb F)/\j[8]? =some (.int .i64 a)/\j.length=9):=aa (by rw[I];exact⟨rfl,rfl,rfl,rfl,rfl,rfl,rfl,rfl,rfl,rfl⟩);show DN DE 40 #[.agg #[.int .i64 7,.int .i64 id,.int .i64 b,.slice p1 A D,.slice p2 t E,.int .i64 f,.int .i64 d,.slice G nb F,.int .i64 a]] w _;clear I;go_enter HU,G1
 go_wp2_with fail
 rw[<-J];clear J;refine(aY _ _ _ _).mono ?_;rintro e p ⟨rfl,hw⟩;subst hw;have q0:=g.cell i.1;have q1:=g.cell i.2.1;have q2:=g.cell i.2.2.1;rw[show(!wi 7 1 7)=false from rfl]
 go_wp2_with fail
 refine(aY _ _ _ _).mono ?_;rintro e p ⟨rfl,hw⟩;subst hw;rw[<-aB.out];clear q1;cases qI
 ·rw[ET];have HV:=aa (ij (l:=⟨7,id,b,pl,sh,f,d,c,a⟩) rfl (by rw[C.out];rfl))
  go_wp2_with fail
  go_ret;exact⟨by rw[HV.out];rfl,k⟩
 ·rw[Ep]
  go_wp2_with fail
  refine(aY _ _ _ _).mono ?_;rintro e p ⟨rfl,hw⟩;subst hw;rw[<-aC.out];cases qO
  ·rw[ET];have HV:=aa (ij (l:=⟨7,id,b,pl,sh,f,d,c,a⟩) rfl (by rw[C.out];rfl))
   go_wp2_with fail
   go_ret;exact⟨by rw[HV.out];rfl,k⟩
  ·rw[Ep];have q0:=g.cell i.1;have q1:=g.cell i.2.1;have q2:=g.cell i.2.2.1;have q3:=g.cell i.2.2.2.1;have q4:=g.cell i.2.2.2.2.1;have q5:=g.cell i.2.2.2.2.2.1;have q6:=g.cell i.2.2.2.2.2.2.1;have q7:=g.cell i.2.2.2.2.2.2.2.1;have q8:=g.cell i.2.2.2.2.2.2.2.2.1;obtain⟨qC,an⟩:=exq (wi a 1 255);have Z:=aa an;clear an;rw[<-Z.out]at C
   go_wp2_with fail
   refine(aY _ _ _ _).mono ?_;rintro e p ⟨rfl,hw⟩;subst hw;rw[<-Z.out];cases qC
   ·rw[ET];have HV:=aa (ij (l:=⟨7,id,b,pl,sh,f,d,c,a⟩) rfl (by rw[C.out];rfl))
    go_wp2_with fail
    go_ret;exact⟨by rw[HV.out];rfl,k⟩
   rw[Ep];have r:Hid (bn ⟨7,id,b,pl,sh,f,d,c,a⟩=true):=aa (by rw[C.out];rfl);have s:Hid (bH ⟨7,id,b,pl,sh,f,d,c,a⟩=true):=aa HS
   go_wp2_with (with_reducible refine fw ?_)
   refine au ?_;iterate 28 (try (first | go_values | go_skip | go_guarded | go_step | go_upon | go_back | (simp only[Int.not_lt,Int.not_le]at*;go_simp) | (go_values<;>(try go_simp))))
   rw[mA];by_cases aT:(0:Int) < (nb:Int)
   ·have HV:=aa (dT (l:=⟨7,id,b,pl,sh,f,d,c,a⟩) rfl r s (fun q=>by obtain⟨m,a2,a3,a4,a5,n⟩:=u.1 q;(try dsimp only at m a2 a3 a4 a5 n);have:=y.out;have:=z.out;have:=x.out;omega))
    go_wp2_with fail
    go_ret;exact⟨by rw[HV.out];rfl,k⟩
   by_cases aU:(0:Int) < (A:Int)
   ·have HV:=aa (dT (l:=⟨7,id,b,pl,sh,f,d,c,a⟩) rfl r s (fun q=>by obtain⟨m,a2,a3,a4,a5,n⟩:=u.1 q;(try dsimp only at m a2 a3 a4 a5 n);have:=y.out;have:=z.out;have:=x.out;omega))
    go_wp2_with fail
    go_ret;exact⟨by rw[HV.out];rfl,k⟩
   by_cases aV:(0:Int) < (t:Int)
   ·have HV:=aa (dT (l:=⟨7,id,b,pl,sh,f,d,c,a⟩) rfl r s (fun q=>by obtain⟨m,a2,a3,a4,a5,n⟩:=u.1 q;(try dsimp only at m a2 a3 a4 a5 n);have:=y.out;have:=z.out;have:=x.out;omega))
    go_wp2_with fail
    go_ret;exact⟨by rw[HV.out];rfl,k⟩
   by_cases am:f=0
   rotate_left
   ·have aZ:(f==0)=false:=by rw[beq_eq_false_iff_ne];exact am
    have HV:=aa (dT (l:=⟨7,id,b,pl,sh,f,d,c,a⟩) rfl r s (fun q=>by obtain⟨m,a2,a3,a4,a5,n⟩:=u.1 q;(try dsimp only at m a2 a3 a4 a5 n);have:=y.out;have:=z.out;have:=x.out;omega))
    go_wp2_with fail
    go_ret;exact⟨by rw[HV.out];rfl,k⟩
   subst am;by_cases al:d=0
   rotate_left
   ·have aX:(d==0)=false:=by rw[beq_eq_false_iff_ne];exact al
    have HV:=aa (dT (l:=⟨7,id,b,pl,sh,0,d,c,a⟩) rfl r s (fun q=>by obtain⟨m,a2,a3,a4,a5,n⟩:=u.1 q;(try dsimp only at m a2 a3 a4 a5 n);have:=y.out;have:=z.out;have:=x.out;omega))
    go_wp2_with fail
    go_ret;exact⟨by rw[HV.out];rfl,k⟩
   subst al;have hf:eA ⟨7,id,b,pl,sh,0,0,c,a⟩=true:=by refine u.2 ⟨?_,?_,?_,?_,?_,?_⟩<;>(first | exact EV rfl | exact EV (EV rfl) | exact EV (Or.inr rfl) | exact EV trivial | exact EV (EV trivial) | exact EV (Or.inr trivial) | ((try dsimp only);have:=y.out;have:=z.out;have:=x.out;omega))
   have X:=aa hf;clear hf;have Y:=aa (g.load (P:=DE) DU rfl (by rw[i.out.2.2.2.2.2.2.2.2.2];kernel_rfl))
   go_wp2_with ((with_reducible refine ak ?_ Y.out ?_);rfl)
   refine(B _ k r s).mono ?_;rintro e wz ⟨vz,rfl,ao,ag⟩;obtain⟨pz,cz,aH,_,_⟩:=ao.form;subst aH;have U:=aa (k.trans ag);obtain⟨M,N⟩:=exq ((bL ⟨7,id,b,pl,sh,0,0,c,a⟩).length);rw[<-N];have W:=aa N;clear N ao ag Y;by_cases H:8000 < M
   ·have aF:(8000:Int) < (M:Int):=by omega
    have HV:=aa (rZ (l:=⟨7,id,b,pl,sh,0,0,c,a⟩) rfl r s X (by rw[<-W.out];exact H));clear H
    go_wp2_with fail
    go_ret;exact⟨by rw[HV.out];rfl,U⟩
   ·have aF:¬((8000:Int) < (M:Int)):=by omega
    have HV:=aa (r5 (l:=⟨7,id,b,pl,sh,0,0,c,a⟩) rfl r s X (by rw[<-W.out];exact H));clear H
    go_wp2_with fail
    go_ret;exact⟨by rw[HV.out];rfl,U⟩
theorem qq (v:DG) (l:Cp) (w:DF) (h:dH w v l) (V:l.kind=3):
  DN DE 40 #[v] w fun e w'=>e=.returned (.int .i64 (aW l:Nat))/\az w w':=by
 have HL:=aa h;obtain⟨bp,vp,vs,vb,L,rfl,C⟩:=h;obtain rfl:=C.eq;have N:Hid (∀y,az w y->bn l=true->bH l=true->DN DE 60 #[.agg (cL l vp vs vb).toArray] y fun e w'=>∃v',e=.returned v'/\Rd w' .u8 v' (bL l)/\az y w'):=aa fun y h2 hn hz=>ek _ l y (HL.ext h2) (by rw[V];decide) hn hz
 obtain⟨kd,id,f,pl,sh,n,m,g,j⟩:=l;obtain⟨p1,R,e1,aN,be⟩:=C.pl.form;obtain⟨p2,S,e2,bc,bg⟩:=C.sh.rd.form;obtain⟨X,T,e3,aO,bh⟩:=C.bl.form;have O:Hid (Rd w .i64 vp pl):=aa C.pl;have a7:=aa C.sh;have a8:Hid (L.map cf=sh):=aa C.sl;have aZ:Hid (bf w vb g):=aa C.bl;simp only at e1 e2 e3 V aN aO;subst V;subst e1 e2 e3;clear C HL;unfold DV at be bg bh;obtain⟨s,aw⟩:=exq pl.length;obtain⟨E,aj⟩:=exq L.length;obtain⟨nb,au⟩:=exq g.length;have t:=aa aw;have bo:=aa aj;have H:=aa au;have I:Hid (sh.length=E):=aa (by rw[<-a8.out,D2,aj]);rw[<-aw]at O aN N⊢;rw[<-aj]at a7 bc N⊢;rw[<-au]at aZ aO N⊢;clear aw aj au;obtain⟨qI,aA⟩:=exq (wi id 0 1099511627776);obtain⟨qO,aB⟩:=exq (wi f 0 1099511627776);have HN:Hid (bn ⟨3,id,f,pl,sh,n,m,g,j⟩=(qI&&qO&& !pl.any fP)):=aa (by rw[aA,aB];unfold bn lp;rfl);have u:Hid (bH ⟨3,id,f,pl,sh,n,m,g,j⟩=wi pl.length 1 12):=aa (by unfold bH;rfl);have G:=aa (gY ⟨3,id,f,pl,sh,n,m,g,j⟩);have a1:=aa aA;have a6:=aa aB;clear aA aB;obtain⟨W0,ai⟩:=exq (w.alloc (.cells #[.int .i64 3,.int .i64 id,.int .i64 f,.slice p1 s R,.slice p2 E S,.int .i64 n,.int .i64 m,.slice X nb T,.int .i64 j] 43));have aC:Hid (az w W0):=aa (by rw[ai];exact ae _ _);obtain⟨r,ah⟩:=exq (cL ⟨3,id,f,pl,sh,n,m,g,j⟩ (.slice p1 s R) (.slice p2 E S) (.slice X nb T));rw[<-ah]at N;have c:Hid (av W0 w.heap.size r):=aa (by rw[ai,ah];exact av.box w 43 (cs:=(cL ⟨3,id,f,pl,sh,n,m,g,j⟩ (.slice p1 s R) (.slice p2 E S) (.slice X nb T))) (fun h=>by cases h));have a:Hid (r[0]? =some (.int .i64 3)/\r[1]? =some (.int .i64 id)/\r[2]? =some (.int .i64 f)/\r[3]? =some (.slice p1 s R)/\r[4]? =some (.slice p2 E S)/\r[5]? =some (.int .i64 n)/\r[6]? =some (.int .i64 m)/\r[7]? =some (.slice X nb T)/\r[8]? =some (.int .i64 j)/\r.length=9):=aa (by rw[ah];exact⟨rfl,rfl,rfl,rfl,rfl,rfl,rfl,rfl,rfl,rfl⟩);show DN DE 40 #[.agg #[.int .i64 3,.int .i64 id,.int .i64 f,.slice p1 s R,.slice p2 E S,.int .i64 n,.int .i64 m,.slice X nb T,.int .i64 j]] w _;clear ah;go_enter HU,G1
 go_wp2_with fail
 rw[<-ai];clear ai;refine(aY _ _ _ _).mono ?_;rintro e y ⟨rfl,hw⟩;subst hw;have J:=c.cell a.1;have F:=c.cell a.2.1;have K:=c.cell a.2.2.1;rw[show(!wi 3 1 7)=false from rfl]
 go_wp2_with fail
 refine(aY _ _ _ _).mono ?_;rintro e y ⟨rfl,hw⟩;subst hw;rw[<-a1.out];clear F;cases qI
 ·rw[ET];have J:=c.cell a.1;have F:=c.cell a.2.1;have K:=c.cell a.2.2.1;have Y:=c.cell a.2.2.2.1;have Z:=c.cell a.2.2.2.2.1;have q5:=c.cell a.2.2.2.2.2.1;have q6:=c.cell a.2.2.2.2.2.2.1;have q7:=c.cell a.2.2.2.2.2.2.2.1;have q8:=c.cell a.2.2.2.2.2.2.2.2.1
  go_wp2_with fail
  clear J F K Y Z q5 q6 q7 q8;go_loopw [3,29] (fun o i wr=>∃(k:Nat) (b:Bool),k<=s/\i=.int .i64 k/\o=.bool b/\Hid (b=true)/\Hid (av wr w.heap.size r)/\Hid (az w wr)) (fun _ i _=>s - (Ef i).toNat);case atStart=>exact⟨0,_,DZ _,rfl,rfl,aa (rfl),c,aC⟩
  case round=>
   obtain⟨k,b,V,rfl,rfl,D,d,p⟩:=hrel;by_cases ar:k < s
   ·have W:k < pl.length:=by rw[<-t.out];exact ar
    obtain⟨b1,o1,ba,ax,_,_,_,_,U⟩:=Rd.pos (k:=.i64) (l:=pl) (by rw[t.out]at O;exact O.ext p) (by omega);injection ax with an ao ap;subst an;have aq:=U k W;have Q:=aa (eL fP pl 0 W);obtain⟨x,hx⟩:=exq (pl.getD k 0);rw[<-hx]at aq Q;clear U ao ap hx;obtain rfl:b=true:=D.out
    go_wp2_with fail
    go_roundw;case rel=>exact⟨k+1,true,by omega,by go_num,rfl,aa rfl,d,p⟩
    case measure=>simp[Ef];omega
   ·obtain rfl:k=s:=by omega
    have J:=d.cell a.1;have F:=d.cell a.2.1;have K:=d.cell a.2.2.1;have Y:=d.cell a.2.2.2.1;have Z:=d.cell a.2.2.2.2.1;have q5:=d.cell a.2.2.2.2.2.1;have q6:=d.cell a.2.2.2.2.2.2.1;have q7:=d.cell a.2.2.2.2.2.2.2.1;have q8:=d.cell a.2.2.2.2.2.2.2.2.1;obtain rfl:b=true:=D.out;have HV:=aa (ij (l:=⟨3,id,f,pl,sh,n,m,g,j⟩) rfl (by rw[HN.out];rfl))
    go_wp2_with fail
    go_ret;exact⟨by rw[HV.out];rfl,p⟩
 ·rw[Ep]
  go_wp2_with fail
  refine(aY _ _ _ _).mono ?_;rintro e y ⟨rfl,hw⟩;subst hw;rw[<-a6.out];have J:=c.cell a.1;have F:=c.cell a.2.1;have K:=c.cell a.2.2.1;have Y:=c.cell a.2.2.2.1;have Z:=c.cell a.2.2.2.2.1;have q5:=c.cell a.2.2.2.2.2.1;have q6:=c.cell a.2.2.2.2.2.2.1;have q7:=c.cell a.2.2.2.2.2.2.2.1;have q8:=c.cell a.2.2.2.2.2.2.2.2.1
  go_wp2_with fail
  clear J F K Y Z q5 q6 q7 q8;go_loopw [3,29] (fun o i wr=>∃(k:Nat) (b:Bool),k<=s/\i=.int .i64 k/\o=.bool b/\Hid (b=(!qO||(pl.take k).any fP))/\Hid (av wr w.heap.size r)/\Hid (az w wr)) (fun _ i _=>s - (Ef i).toNat);case atStart=>exact⟨0,_,DZ _,rfl,rfl,aa (by rw[E4];simp),c,aC⟩
  case round=>
   obtain⟨k,b,V,rfl,rfl,D,d,p⟩:=hrel;by_cases ar:k < s
   ·have W:k < pl.length:=by rw[<-t.out];exact ar
    obtain⟨b1,o1,ba,ax,_,_,_,_,U⟩:=Rd.pos (k:=.i64) (l:=pl) (by rw[t.out]at O;exact O.ext p) (by omega);injection ax with an ao ap;subst an;have aq:=U k W;have Q:=aa (eL fP pl 0 W);obtain⟨x,hx⟩:=exq (pl.getD k 0);rw[<-hx]at aq Q;clear U ao ap hx;cases b
    ·go_wp2_with fail
     refine(aY _ _ _ _).mono ?_;rintro e y ⟨rfl,hw⟩;subst hw
     go_wp2_with fail
     go_roundw;case rel=>exact⟨k+1,_,by omega,by go_num,rfl,aa (by rw[Q.out,<-FD,<-D.out];rfl),d,p⟩
     case measure=>simp[Ef];omega
    ·go_wp2_with fail
     go_roundw;case rel=>exact⟨k+1,true,by omega,by go_num,rfl,aa (by rw[Q.out,<-FD,<-D.out];rfl),d,p⟩
     case measure=>simp[Ef];omega
   ·obtain rfl:k=s:=by omega
    have J:=d.cell a.1;have F:=d.cell a.2.1;have K:=d.cell a.2.2.1;have Y:=d.cell a.2.2.2.1;have Z:=d.cell a.2.2.2.2.1;have q5:=d.cell a.2.2.2.2.2.1;have q6:=d.cell a.2.2.2.2.2.2.1;have q7:=d.cell a.2.2.2.2.2.2.2.1;have q8:=d.cell a.2.2.2.2.2.2.2.2.1;rw[DW (by rw[<-t.out];exact DH _)]at D;cases b
    rotate_left
    ·have HV:=aa (ij (l:=⟨3,id,f,pl,sh,n,m,g,j⟩) rfl (by rw[HN.out];exact AR D))
     go_wp2_with fail
     go_ret;exact⟨by rw[HV.out];rfl,p⟩
    have z:Hid (bn ⟨3,id,f,pl,sh,n,m,g,j⟩=true):=aa (by rw[HN.out];obtain⟨z1,z2⟩:=xm D;rw[z1,z2];rfl);obtain⟨qB,ay⟩:=exq (wi (k:Int) 1 12);rw[<-t.out,<-ay]at u;have a0:=aa ay;clear ay
    go_wp2_with fail
    refine(aY _ _ _ _).mono ?_;rintro e y ⟨rfl,hw⟩;subst hw;rw[<-a0.out];cases qB
    ·rw[ET];have HV:=aa (yu (l:=⟨3,id,f,pl,sh,n,m,g,j⟩) rfl z (u))
     go_wp2_with fail
     go_ret;exact⟨by rw[HV.out];rfl,p⟩
    rw[Ep];iterate 17 (try (first | go_values | go_skip | go_guarded | go_step | go_upon | go_back | (simp only[]at*;go_simp) | (go_values<;>(try go_simp))))
    rw[mA];by_cases br:(0:Int) < (nb:Int)
    ·have HV:=aa (dT (l:=⟨3,id,f,pl,sh,n,m,g,j⟩) rfl z u (fun q=>by obtain⟨A,a2,a3,a4,a5,B⟩:=G.1 q;(try dsimp only at A a2 a3 a4 a5 B);have:=t.out;have:=I.out;have:=H.out;omega))
     go_wp2_with fail
     go_ret;exact⟨by rw[HV.out];rfl,p⟩
    by_cases bs:(0:Int) < (E:Int)
    ·have HV:=aa (dT (l:=⟨3,id,f,pl,sh,n,m,g,j⟩) rfl z u (fun q=>by obtain⟨A,a2,a3,a4,a5,B⟩:=G.1 q;(try dsimp only at A a2 a3 a4 a5 B);have:=t.out;have:=I.out;have:=H.out;omega))
     go_wp2_with fail
     go_ret;exact⟨by rw[HV.out];rfl,p⟩
    by_cases aS:n=0
    rotate_left
    ·have bv:(n==0)=false:=by rw[beq_eq_false_iff_ne];exact aS
     have HV:=aa (dT (l:=⟨3,id,f,pl,sh,n,m,g,j⟩) rfl z u (fun q=>by obtain⟨A,a2,a3,a4,a5,B⟩:=G.1 q;(try dsimp only at A a2 a3 a4 a5 B);have:=t.out;have:=I.out;have:=H.out;omega))
     go_wp2_with fail
     go_ret;exact⟨by rw[HV.out];rfl,p⟩
    subst aS;by_cases aR:m=0
    rotate_left
    ·have bu:(m==0)=false:=by rw[beq_eq_false_iff_ne];exact aR
     have HV:=aa (dT (l:=⟨3,id,f,pl,sh,0,m,g,j⟩) rfl z u (fun q=>by obtain⟨A,a2,a3,a4,a5,B⟩:=G.1 q;(try dsimp only at A a2 a3 a4 a5 B);have:=t.out;have:=I.out;have:=H.out;omega))
     go_wp2_with fail
     go_ret;exact⟨by rw[HV.out];rfl,p⟩
    subst aR;by_cases aQ:j=0
    rotate_left
    ·have bt:(j==0)=false:=by rw[beq_eq_false_iff_ne];exact aQ
     have HV:=aa (dT (l:=⟨3,id,f,pl,sh,0,0,g,j⟩) rfl z u (fun q=>by obtain⟨A,a2,a3,a4,a5,B⟩:=G.1 q;(try dsimp only at A a2 a3 a4 a5 B);have:=t.out;have:=I.out;have:=H.out;omega))
     go_wp2_with fail
     go_ret;exact⟨by rw[HV.out];rfl,p⟩
    subst aQ;have hf:eA ⟨3,id,f,pl,sh,0,0,g,0⟩=true:=by refine G.2 ⟨?_,?_,?_,?_,?_,?_⟩<;>(first | exact EV rfl | exact EV (EV rfl) | exact EV (Or.inr rfl) | exact EV trivial | exact EV (EV trivial) | exact EV (Or.inr trivial) | ((try dsimp only);have:=t.out;have:=I.out;have:=H.out;omega))
    have Hf:=aa hf;clear hf;have Hl:=aa (d.load (P:=DE) DU rfl (by rw[a.out.2.2.2.2.2.2.2.2.2];kernel_rfl))
    go_wp2_with ((with_reducible refine ak ?_ Hl.out ?_);rfl)
    refine(N _ p z u).mono ?_;rintro e wz ⟨vz,rfl,aT,aM⟩;obtain⟨pz,cz,bd,_,_⟩:=aT.form;subst bd;have aD:=aa (p.trans aM);obtain⟨M,hM⟩:=exq ((bL ⟨3,id,f,pl,sh,0,0,g,0⟩).length);rw[<-hM];have HM:=aa hM;clear hM aT aM Hl;by_cases h8:8000 < M
    ·have bb:(8000:Int) < (M:Int):=by omega
     have HV:=aa (rZ (l:=⟨3,id,f,pl,sh,0,0,g,0⟩) rfl z u Hf (by rw[<-HM.out];exact h8));clear h8
     go_wp2_with fail
     go_ret;exact⟨by rw[HV.out];rfl,aD⟩
    ·have bb:¬((8000:Int) < (M:Int)):=by omega
     have HV:=aa (r5 (l:=⟨3,id,f,pl,sh,0,0,g,0⟩) rfl z u Hf (by rw[<-HM.out];exact h8));clear h8
     go_wp2_with fail
     go_ret;exact⟨by rw[HV.out];rfl,aD⟩
end Go.Proofs.Bl
