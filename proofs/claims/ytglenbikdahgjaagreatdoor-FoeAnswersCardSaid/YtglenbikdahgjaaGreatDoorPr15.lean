/- Texts that stood apart, in one: WNs1, WNs2. -/
import Derived.Test.YtglenbikdahgjaaGreatDoorPr14
import Derived.Test.YtglenbikdahgjaaGreatDoorPr13
set_option maxRecDepth 100000
set_option maxHeartbeats 16000000
open And renaming intro->DT
open Go renaming Calls->DN,Value->DG,World->DF,bodyPost_ret->DK
open Go.Instr renaming lookup->GG
open Go.Region renaming wanted->DP
open Go.RowKit.Below renaming refl->DI
open Go.Value renaming slice->FE
open Go.World renaming size_alloc->DO
open Int renaming eq_ofNat_of_zero_le->En,toNat_natCast->Eo
open Nat renaming le_refl->DH,lt_of_lt_of_le->D9
open Option.some renaming inj->Fk
namespace Go.Proofs.Bl
open Go Go.RowKit Go.Proofs
open Go.Proofs.Tryz renaming prog->DE,underlying26->DQ,underlying3->FR,underlying84->Ga
variable {b m sb:Nat}
theorem pY (x:Int) (w:DF):DN DE 125 #[.int .i64 x] w fun e w'=>e=.returned (.bool (wi x 0 1099511627776))/\w=w':=by
 by_cases h1:0<=x
 ·by_cases h2:x<=1099511627776
  ·have a:Hid (wi x 0 1099511627776=true):=aa (bJ.2 ⟨h1,h2⟩);go_enter Tryz.func125,Tryz.ntmps125
   go_wp2
   go_ret;exact⟨by rw[a.out];rfl,rfl⟩
  ·have a:Hid (wi x 0 1099511627776=false):=aa (iK.2 (by omega));go_enter Tryz.func125,Tryz.ntmps125
   go_wp2
   go_ret;exact⟨by rw[a.out];rfl,rfl⟩
 ·have a:Hid (wi x 0 1099511627776=false):=aa (iK.2 (by omega));go_enter Tryz.func125,Tryz.ntmps125
  go_wp2
  go_ret;exact⟨by rw[a.out];rfl,rfl⟩
theorem pZ (j:Nat) (any:Bool) (g:Int) (c:Nat) (ids:List Int) (x:Int) (w:DF) (d:av w j [.bool any,.int .i64 g,.int .u64 (c:Nat)]) (h:cC any g c ids):
  DN DE 126 #[.pointer (some ⟨j,0,none⟩),.int .i64 x] w fun e w'=>e=.returned (.bool (gU ids x))/\w=w':=by
 have k:=d.cell (i:=0) rfl;have l:=d.cell (i:=1) rfl;obtain⟨m,n⟩:=h.Dk;obtain⟨V,f⟩:=exq (gU ids x);have a:=f;rw[h.old]at a;rw[<-f];clear d h f;cases any
 ·have b:Hid (V=false):=aa (by rw[a];rfl);clear a;go_enter Tryz.func126,Tryz.ntmps126
  go_wp2
  go_ret;exact⟨by rw[b.out];rfl,rfl⟩
 ·by_cases hx:x<=g - 64
  ·have b:Hid (V=true):=aa (by rw[a];simp[hx]);clear a;go_enter Tryz.func126,Tryz.ntmps126
   go_wp2
   go_ret;exact⟨by rw[b.out];simp,rfl⟩
  ·have b:Hid (V=false):=aa (by rw[a];simp[hx]);clear a;go_enter Tryz.func126,Tryz.ntmps126
   go_wp2
   go_ret;exact⟨by rw[b.out];simp,rfl⟩
theorem xe (z:Nat) (any:Bool) (g:Int) (c:Nat) (ids:List Int) (x:Int) (w:DF) (o:av w z [.bool any,.int .i64 g,.int .u64 (c:Nat)]) (h:cC any g c ids):
  DN DE 127 #[.pointer (some ⟨z,0,none⟩),.int .i64 x] w fun e w'=>e=.returned (.bool (jB ids x))/\az w w':=by
 have Y:=o.cell (i:=0) rfl;have G:=o.cell (i:=1) rfl;have H:=o.cell (i:=2) rfl;have B:=o.lt;obtain⟨ad,ae⟩:=h.Dk;have j:=aa (pY x w);have l:=aa (pZ z any g c ids x w o h);have a:=aa (fun U=>h.De (x:=x) U);have f:=aa (fun W K P=>h.has (x:=x) W K P);have E:=aa h.lt;obtain⟨V,s⟩:=exq (jB ids x);obtain⟨O,p⟩:=exq (gU ids x);obtain⟨M,r⟩:=exq (wi x 0 1099511627776);have n:Hid (M=true->0<=x/\x<=1099511627776):=aa (fun q=>bJ.1 (by rw[<-r];exact q))
 have m:Hid (any=true->O=false->g - 64 < x):=aa (fun X q=>by
  have:=h.old x;rw[<-p,q,X]at this;have:¬x<=g - 64:=by simpa using this.symm
  omega)
 rw[<-s,<-p,<-r]at a;rw[<-s,<-p]at f;rw[<-p]at l;rw[<-r]at j;rw[<-s];clear o h s p r;cases any
 ·have b:Hid (V=false):=aa (a (.inl rfl));clear j l a f n m;go_enter Tryz.func127,Tryz.ntmps127
  go_wp2_with fail
  go_ret;exact⟨by rw[b.out];rfl,DI _ _⟩
 ·cases M
  ·have b:Hid (V=false):=aa (a (.inr (.inl rfl)));clear l a f n m;go_enter Tryz.func127,Tryz.ntmps127
   go_wp2_with fail
   refine j.mono ?_;rintro e d ⟨rfl,hw⟩;subst hw
   go_wp2_with fail
   go_ret;exact⟨by rw[b.out];rfl,DI _ _⟩
  ·obtain⟨ah,ai⟩:=n rfl;cases O
   ·have aj:=m rfl rfl;by_cases Q:g < x
    ·have b:Hid (V=false):=aa (a (.inr (.inr (.inr Q))));clear a f n m;go_enter Tryz.func127,Tryz.ntmps127
     go_wp2_with fail
     refine j.mono ?_;rintro e d ⟨rfl,hw⟩;subst hw
     go_wp2_with fail
     refine l.mono ?_;rintro e d ⟨rfl,hw⟩;subst hw
     go_wp2_with fail
     go_ret;exact⟨by rw[b.out];rfl,DI _ _⟩
    ·have b:Hid (V=c.testBit (g - x).toNat):=aa (f rfl rfl (by omega));clear a f n m;obtain⟨k,R⟩:=En (show 0<=g - x by omega);obtain rfl:x=g - (k:Int):=by omega
     have T:k < 64:=by omega
     have S:g - (g - (k:Int))=(k:Int):=by omega
     have D:Hid ((g - (g - (k:Int))).toNat=k):=aa (by rw[S];exact Eo k);have L:=vZ c E k;have ac:decide (g < g - (k:Int))=false:=decide_eq_false (by omega);have ag:IntKind.i64.wrap (k:Int)=(k:Int):=by rw[IntKind.wrap_i64];omega
     have af:=xT c k T;rw[D.out]at b;obtain⟨Z,v⟩:∃Z:Int,Z=(if c.testBit k then 1 else 0):=⟨_,rfl⟩
     have F:Hid (V=decide (Z=1)):=aa (by
      rw[b.out,v]
      cases c.testBit k<;>rfl)
     rw[<-v]at L;clear R v;go_enter Tryz.func127,Tryz.ntmps127
     go_wp2_with fail
     refine j.mono ?_;rintro e d ⟨rfl,hw⟩;subst hw
     go_wp2_with fail
     refine l.mono ?_;rintro e d ⟨rfl,hw⟩;subst hw
     go_wp2_with fail
     apply aL 13 [28,29,30,31,32,33,34,35,36,37,38,39,40] [ar _,ar _,ar _,ar _,ar _,ar _,ar _,ar _,ar _,ar _,ar _,ar _,ar _] (by kernel_rfl) (by kernel_rfl) (by kernel_rfl) (by kernel_rfl);case hsteps=>
      refine⟨?_,?_,?_,?_,?_,?_,?_,?_,?_,?_,?_,?_,?_,trivial⟩;all_goals
       intro ev d t y N;have I:=y 0 (by decide);have J:=y 1 (by decide);clear y;simp only[sB]at I J;simp only[sD]at N;have A:=(aD t).1;have q1:=(A _ 1 B).trans G;have q2:=(A _ 2 B).trans H;simp only[dJ,DP,if_true];go_simp;first | exact⟨DI _ _,rfl⟩ | exact⟨DI _ _,rfl⟩
     case hmono=>exact mL
     case hend=>
      intro u d t hend;simp only[sE]at hend;simp only[sF,hend];have C:=aa t;clear t hend
      go_wp2_with fail
      go_ret;refine⟨?_,C⟩;rw[F.out];rfl
   ·have b:Hid (V=false):=aa (a (.inr (.inr (.inl rfl))));clear a f n m;go_enter Tryz.func127,Tryz.ntmps127
    go_wp2_with fail
    refine j.mono ?_;rintro e d ⟨rfl,hw⟩;subst hw
    go_wp2_with fail
    refine l.mono ?_;rintro e d ⟨rfl,hw⟩;subst hw
    go_wp2_with fail
    go_ret;exact⟨by rw[b.out];rfl,DI _ _⟩
def Bd (sb:Nat) (ids:List Int) (x:Int) (w':DF):Prop:=∃any g c,av w' sb [.bool any,.int .i64 g,.int .u64 (c:Nat)]/\cC any g c (if fa ids x=true then ids++[x]else ids)
def zT (sb:Nat) (ids:List Int) (x:Int) (w w':DF):Prop:=Bd sb ids x w'/\Kq (fun k=>k=sb) w w'
theorem mv (b:Nat) (any:Bool) (g:Int) (c:Nat) (ids:List Int) (x:Int) (w:DF) (hB:av w b [.bool any,.int .i64 g,.int .u64 (c:Nat)]) (h:cC any g c ids):
  DN DE 73 #[.pointer (some ⟨b,0,none⟩),.int .i64 x] w fun e w'=>e=.returned (.bool (fa ids x))/\zT b ids x w w':=by
 have C:=aa (pY x w);have D:=aa (pZ b any g c ids x w hB h);have B:=aa (xe b any g c ids x w hB h);have m:=aa hB;have v:=aa h;obtain⟨O,Y⟩:=exq (gU ids x);obtain⟨M,X⟩:=exq (wi x 0 1099511627776);obtain⟨H,W⟩:=exq (jB ids x);have ao:=aa (DT Y (DT X W));have ay:(M=false\/O=true\/H=true)->fa ids x=false:=fun q=>l7 (by rw[<-Y,<-X,<-W];exact q)
 have aC:M=true->O=false->H=false->fa ids x=true:=fun z t q3=>sN (by rw[<-X];exact z) (by rw[<-Y];exact t) (by rw[<-W];exact q3)
 have G:=aa ay;have S:=aa aC;rw[<-Y]at D;rw[<-X]at C;rw[<-W]at B;have I:Hid (fa ids x=false->∀a,az w a->zT b ids x w a):=aa (fun q a f=>⟨⟨any,g,c,m.ext f,by rw[if_neg (by rw[q];decide)];exact v⟩,Kq.AI f⟩);clear hB h Y X W ay aC;cases M
 ·have s:=G (.inl rfl);have R:=aa (I s);have o:=aa s;clear s D B G S I;go_enter Tryz.func73,Tryz.ntmps73
  go_wp2_with fail
  refine C.mono ?_;rintro e a ⟨rfl,hw⟩;subst hw
  go_wp2_with fail
  go_ret;exact⟨by rw[o.out];rfl,R _ (DI _ _)⟩
 cases O
 rotate_left
 ·have s:=G (.inr (.inl rfl));have R:=aa (I s);have o:=aa s;clear s B G S I;go_enter Tryz.func73,Tryz.ntmps73
  go_wp2_with fail
  refine C.mono ?_;rintro e a ⟨rfl,hw⟩;subst hw
  go_wp2_with fail
  refine D.mono ?_;rintro e a ⟨rfl,hw⟩;subst hw
  go_wp2_with fail
  go_ret;exact⟨by rw[o.out];rfl,R _ (DI _ _)⟩
 cases H
 rotate_left
 ·have s:=G (.inr (.inr rfl));have R:=aa (I s);have o:=aa s;clear s G S I;go_enter Tryz.func73,Tryz.ntmps73
  go_wp2_with fail
  refine C.mono ?_;rintro e a ⟨rfl,hw⟩;subst hw
  go_wp2_with fail
  refine D.mono ?_;rintro e a ⟨rfl,hw⟩;subst hw
  go_wp2_with fail
  refine B.mono ?_;rintro e a ⟨rfl,f⟩;have N:=aa f;clear f
  go_wp2_with fail
  go_ret;exact⟨by rw[o.out];rfl,R _ N⟩
 have o:=aa (S rfl rfl rfl);have Hx:=bJ.1 ao.2.1.symm;have an:=aa ao.1.symm;obtain⟨aS,aT⟩:=v.Dk;have aJ:=v.lt;obtain⟨aA,aB⟩:=Hx;clear G S I;by_cases L:any=false\/g < x
 ·have aw:0<=x - g:=by
   rcases L with q | q
   ·have:=v.C4 q;have:=v.gr;rw[v.out.C4 q]at this;have:g=0:=this;omega
   ·omega
  obtain⟨d,y⟩:∃d:Nat,d=min (x - g).toNat 64:=⟨_,rfl⟩;have E:=v.up ⟨aA,aB⟩ L y;obtain⟨T,ad⟩:∃T:Nat,T=(c*2^d) % 2^64:=⟨_,rfl⟩;obtain⟨n,J⟩:∃n:Nat,n=T||| 1:=⟨_,rfl⟩
  rw[<-ad,<-J]at E;have ag:=aa E;have au:(min (x - g) 64).toNat=d:=by rw[y];omega
  have aq:T < 2^64:=by rw[ad];exact Nat.mod_lt _ (by decide)
  have ae:bits .or .u64 (IntKind.u64.wrap ((c:Int)*2^(min (x - g) 64).toNat)) 1=(n:Int):=by rw[au,pK,<-ad,J];exact wu T 1 aq (by decide)
  have aW:IntKind.i64.wrap (x - g)=x - g:=by rw[IntKind.wrap_i64];omega
  have ak:=m.lt;have ah:Hid (∀a,az w a->a.cell? ⟨b,0,none⟩=some (.bool any)/\a.cell? ⟨b,1,none⟩=some (.int .i64 g)/\a.cell? ⟨b,2,none⟩=some (.int .u64 (c:Nat))):=aa fun a f=>⟨(m.ext f).cell rfl,(m.ext f).cell rfl,(m.ext f).cell rfl⟩
  have aK:(any=true->decide (g < x)=true):=fun q=>by
   rcases L with t | t
   ·rw[q]at t;cases t
   ·exact decide_eq_true t
  clear E y au ad J aq L;go_enter Tryz.func73,Tryz.ntmps73
  go_wp2_with fail
  refine C.mono ?_;rintro e a ⟨rfl,hw⟩;subst hw
  go_wp2_with fail
  refine D.mono ?_;rintro e a ⟨rfl,hw⟩;subst hw
  go_wp2_with fail
  refine B.mono ?_;rintro e a ⟨rfl,f⟩;obtain⟨q0,z,t⟩:=ah a f;have N:=aa f;have ab:Hid (∀A,av A b [.bool any,.int .i64 g,.int .u64 (c:Nat)]->az a A->zT b ids x w (((A.setCell ⟨b,2,none⟩ (.int .u64 (n:Nat))).setCell ⟨b,0,none⟩ (.bool true)).setCell ⟨b,1,none⟩ (.int .i64 x))):=aa fun A aj h4=>by
   refine⟨⟨true,x,n,?_,?_⟩,?_⟩
   ·exact((aj.put (i:=2) (show 2 < 3 by decide) (.int .u64 (n:Nat))).put (i:=0) (show 0 < 3 by decide) (.bool true)).put (i:=1) (show 1 < 3 by decide) (.int .i64 x)
   ·rw[if_pos o.out];exact ag
   ·exact(((Kq.AI (N.trans h4)).setCell (Q:=fun k=>k=b) ⟨b,2,none⟩ rfl _).setCell ⟨b,0,none⟩ rfl _).setCell ⟨b,1,none⟩ rfl _
  have K:=(m.ext f).lt;have Z:=aa (m.ext f);clear f ak C D B;cases any
  ·go_wp2_with fail
   apply aL 16 [33,34,35,36,37,38,39,40,41,42,43,44,45,46,47,48] [ar _,ar _,ar _,ar _,ar _,ar _,ar _,ar _,ar _,ar _,ar _,ar _,ar _,ar _,ar _,ar _] (by kernel_rfl) (by kernel_rfl) (by kernel_rfl) (by kernel_rfl);case hsteps=>
    refine⟨?_,?_,?_,?_,?_,?_,?_,?_,?_,?_,?_,?_,?_,?_,?_,?_,trivial⟩;all_goals
     intro ev a l r y;have U:=r 0 (by decide);have V:=r 1 (by decide);clear r;simp only[sB]at U V;simp only[sD]at y;have F:=(aD l).1;have r1:=(F _ 1 K).trans z;have r2:=(F _ 2 K).trans t;simp only[dJ,DP,if_true];go_simp;first | exact⟨DI _ _,rfl⟩ | exact⟨DI _ _,rfl⟩
   case hmono=>exact mL
   case hend=>
    intro u a l hend;simp only[sE]at hend;simp only[sF,hend];have j:=aa (Z.ext l);have P:=aa (ab a j l);have p0:=j.cell (i:=0) rfl;have p1:=j.cell (i:=1) rfl;have p2:=j.cell (i:=2) rfl;have f0:=j.fz (i:=0) (show 0 < 3 by decide);have f1:=j.fz (i:=1) (show 1 < 3 by decide);have f2:=j.fz (i:=2) (show 2 < 3 by decide);clear l hend q0 z ae
    go_wp2_with fail
    go_ret;exact⟨by rw[o.out];rfl,P⟩
  ·have aP:=aK rfl
   go_wp2_with fail
   apply aL 16 [33,34,35,36,37,38,39,40,41,42,43,44,45,46,47,48] [ar _,ar _,ar _,ar _,ar _,ar _,ar _,ar _,ar _,ar _,ar _,ar _,ar _,ar _,ar _,ar _] (by kernel_rfl) (by kernel_rfl) (by kernel_rfl) (by kernel_rfl);case hsteps=>
    refine⟨?_,?_,?_,?_,?_,?_,?_,?_,?_,?_,?_,?_,?_,?_,?_,?_,trivial⟩;all_goals
     intro ev a l r y;have U:=r 0 (by decide);have V:=r 1 (by decide);clear r;simp only[sB]at U V;simp only[sD]at y;have F:=(aD l).1;have r1:=(F _ 1 K).trans z;have r2:=(F _ 2 K).trans t;simp only[dJ,DP,if_true];go_simp;first | exact⟨DI _ _,rfl⟩ | exact⟨DI _ _,rfl⟩
   case hmono=>exact mL
   case hend=>
    intro u a l hend;simp only[sE]at hend;simp only[sF,hend];have j:=aa (Z.ext l);have P:=aa (ab a j l);have p0:=j.cell (i:=0) rfl;have p1:=j.cell (i:=1) rfl;have p2:=j.cell (i:=2) rfl;have f0:=j.fz (i:=0) (show 0 < 3 by decide);have f1:=j.fz (i:=1) (show 1 < 3 by decide);have f2:=j.fz (i:=2) (show 2 < 3 by decide);clear l hend q0 z ae
    go_wp2_with fail
    go_ret;exact⟨by rw[o.out];rfl,P⟩
 ·have aH:any=true:=by
   cases any
   ·exact absurd (.inl rfl) L
   ·rfl
  have aw:x<=g:=by
   rcases Int.lt_or_le g x with q | q
   ·exact absurd (.inr q) L
   ·exact q
  subst aH;have ho:=v.old x;rw[an.out]at ho;have aR:¬x<=g - 64:=by simpa using ho.symm
  have E:=v.add ⟨aA,aB⟩ rfl an aw;obtain⟨k,hk⟩:=En (show 0<=g - x by omega);rw[hk,Eo]at E;obtain⟨p,hp⟩:∃p:Nat,p=2^k:=⟨_,rfl⟩;obtain⟨n,J⟩:∃n:Nat,n=c||| p:=⟨_,rfl⟩
  rw[<-hp,<-J]at E;have ag:=aa E;have aI:k < 64:=by omega
  have am:p < 2^64:=by rw[hp];exact Nat.pow_lt_pow_right (by decide) aI
  have aV:IntKind.u64.wrap (2^k)=(p:Int):=by
   have h:=pK 1 k;have e:((1:Nat):Int)*2^k=2^k:=by simp
   rw[e,Nat.one_mul,<-hp,Nat.mod_eq_of_lt am]at h;exact h
  have ae:bits .or .u64 (c:Int) (p:Int)=(n:Int):=by rw[J];exact wu c p aJ am
  have aU:IntKind.i64.wrap (k:Int)=(k:Int):=by rw[IntKind.wrap_i64];omega
  obtain rfl:x=g - (k:Int):=by omega
  have aQ:g - (g - (k:Int))=(k:Int):=by omega
  have aO:decide (g < g - (k:Int))=false:=decide_eq_false (by omega);have ak:=m.lt;have ah:Hid (∀a,az w a->a.cell? ⟨b,0,none⟩=some (.bool true)/\a.cell? ⟨b,1,none⟩=some (.int .i64 g)/\a.cell? ⟨b,2,none⟩=some (.int .u64 (c:Nat))):=aa fun a f=>⟨(m.ext f).cell rfl,(m.ext f).cell rfl,(m.ext f).cell rfl⟩
  clear E J hp am ho hk;go_enter Tryz.func73,Tryz.ntmps73
  go_wp2_with fail
  refine C.mono ?_;rintro e a ⟨rfl,hw⟩;subst hw
  go_wp2_with fail
  refine D.mono ?_;rintro e a ⟨rfl,hw⟩;subst hw
  go_wp2_with fail
  refine B.mono ?_;rintro e a ⟨rfl,f⟩;obtain⟨q0,z,t⟩:=ah a f;have N:=aa f;have ab:Hid (∀A,av A b [.bool true,.int .i64 g,.int .u64 (c:Nat)]->az a A->zT b ids (g - (k:Int)) w (A.setCell ⟨b,2,none⟩ (.int .u64 (n:Nat)))):=aa fun A aj h4=>by
   refine⟨⟨true,g,n,aj.put (i:=2) (show 2 < 3 by decide) (.int .u64 (n:Nat)),?_⟩,?_⟩
   ·rw[if_pos o.out];exact ag
   ·exact(Kq.AI (N.trans h4)).setCell (Q:=fun k=>k=b) ⟨b,2,none⟩ rfl _
  have K:=(m.ext f).lt;have Z:=aa (m.ext f);clear f ak C D B
  go_wp2_with fail
  apply aL 14 [56,57,58,59,60,61,62,63,64,65,66,67,68,69] [ar _,ar _,ar _,ar _,ar _,ar _,ar _,ar _,ar _,ar _,ar _,ar _,ar _,ar _] (by kernel_rfl) (by kernel_rfl) (by kernel_rfl) (by kernel_rfl);case hsteps=>
   refine⟨?_,?_,?_,?_,?_,?_,?_,?_,?_,?_,?_,?_,?_,?_,trivial⟩;all_goals
    intro ev a l r y;have U:=r 0 (by decide);have V:=r 1 (by decide);clear r;simp only[sB]at U V;simp only[sD]at y;have F:=(aD l).1;have r1:=(F _ 1 K).trans z;have r2:=(F _ 2 K).trans t;simp only[dJ,DP,if_true];go_simp;first | exact⟨DI _ _,rfl⟩ | exact⟨DI _ _,rfl⟩
  case hmono=>exact mL
  case hend=>
   intro u a l hend;simp only[sE]at hend;simp only[sF,hend];have j:=aa (Z.ext l);have P:=aa (ab a j l);have p2:=j.cell (i:=2) rfl;have f2:=j.fz (i:=2) (show 2 < 3 by decide);clear l hend q0 z ae
   go_wp2_with fail
   go_ret;exact⟨by rw[o.out];rfl,P⟩
theorem j8.wide {N Q:Nat->Prop} {w:DF} {mp:List (Int × DG)} {s:eb} (h:j8 N Q w b m sb mp s):j8 (fun i=>N i\/w.heap.size<=i) Q w b m sb mp s:=
 h.kept (Q2:=fun _=>False) (Kq.refl w) (fun _ q=>q.elim) fun _ q=>q
theorem j8.fin {N Q:Nat->Prop} {w a w':DF} {mp:List (Int × DG)} {s:eb} {X:Nat} (h:j8 (fun i=>N i\/w.heap.size<=i) Q a b m sb mp s) (e:∀i,Q i->N i) (f:∀i,N i->i < w.heap.size) (g:Kq Q w a) (k:Kq (fun i=>i=X) a w') (j:w.heap.size<=X) (d:∀i,(Q i\/i=b)->i < w.heap.size):lq N Q w w' b s:=by
 have c:Kq Q w w':=by
  have h1:Kq (fun i=>Q i\/i=X) w w':=(g.mono fun i _ q=>.inl q).trans (k.mono fun i _ q=>.inr q);exact h1.mono fun i l q=>by
   rcases q with q | q
   ·exact q
   ·omega
 exact⟨c,N,Q,⟨m,sb,mp,h.kept k (fun i q=>⟨.inr (by omega),fun r=>by have:=d i (.inl r);omega,fun r=>by have:=d i (.inr r);omega⟩) fun i q=>.inl (.inl q)⟩,fun i q=>.inl q,fun i q=>q,fun i q=>q,e,fun i q=>.inl q,fun i q=>D9 (f i q) c.size⟩
def Az (ps:List (List Int)) (B:Nat) (v:DG) (w':DF):Prop:=∃(g:Nat) (M:List Bv),v=.slice (some ⟨g,0,none⟩) ps.length ps.length/\B<=g/\Pk w' g 1 v M.length (aw cB M)/\(∀y∈M,iI (fun k=>g < k) w' y)/\M.map (·.2)=ps/\g < w'.heap.size
def xf (N:Nat->Prop) (w:DF) (v:DG) (l:Cp):Prop:=∃vp vs vb L,v=.agg (cL l vp vs vb).toArray/\bZ (fun k=>¬N k) w l vp vs vb L
theorem xf.Dz {N:Nat->Prop} {w:DF} {v:DG} {l:Cp} (h:xf N w v l):dH w v l:=by
 obtain⟨vp,vs,vb,L,rfl,a⟩:=h;exact⟨_,vp,vs,vb,L,rfl,a.Cr⟩
theorem xf.kept {N a:Nat->Prop} {w w':DF} {v:DG} {l:Cp} (h:xf N w v l) (c:∀k,¬N k->k < w.heap.size->¬a k/\w'.heap[k]? =w.heap[k]?):xf a w' v l:=by
 obtain⟨vp,vs,vb,L,rfl,b⟩:=h;exact⟨vp,vs,vb,L,rfl,b.kept c⟩
theorem uw (b:Nat) (N Q:Nat->Prop) (s:eb) (v:DG) (l:Cp) (w:DF) (hS:lE N Q w b s) (a2:∀i,Q i->N i) (bD:∀i,N i->i < w.heap.size) (hL:xf N w v l) (hc:aW l=0) (hk:l.kind=1) (st:List (List Int)) (M:dv s l.obj=some st):
  DN DE 37 #[.pointer (some ⟨b,0,none⟩),v] w fun e w'=>e=.returned (.agg (cL (eH s l) ah ah ah).toArray)/\lq N Q w w' b (fX s l):=by
 obtain⟨vp,vs,vb,L,rfl,a1⟩:=hL;have a6:=a1.Cr;obtain⟨m,j,mp,bE⟩:=hS;have hR:=bE.wide;have a5:=a6.bl;have a4:=a6.Ct;obtain⟨t,p,b9,_,_⟩:=bf.form a5;subst b9;obtain⟨E,H⟩:=exq ((w.alloc (.cells (cL l vp vs (.slice t l.blocks.length p)).toArray 26)).alloc (.cells zL 26));have bB:=ae w (.cells (cL l vp vs (.slice t l.blocks.length p)).toArray 26);have aY:=bB.trans (ae (w.alloc (.cells (cL l vp vs (.slice t l.blocks.length p)).toArray 26)) (.cells zL 26));have aV:av E w.heap.size (cL l vp vs (.slice t l.blocks.length p)):=by rw[H];exact(av.box w 26 (cg _ _ _ _)).ext (ae _ _)
 have am:av E (w.heap.size+1) zL.toList:=by rw[H];exact gy w _ zL.toList _ _ (fun h=>by cases h)
 rw[<-H]at aY;obtain⟨al,Z⟩:=av.fresh (cs:=cL (fo l) ah ah ah) E 26 zL rfl (cg _ _ _ _);have aR:=aa (aI (P:=DE) (cs:=cL (fo l) ah ah ah) E 26 zL rfl (bk ⟨_,_,_,rfl⟩ ⟨_,_,_,rfl⟩ ⟨_,_,_,rfl⟩) (ty:=26) (by kernel_rfl));obtain⟨W,ao⟩:=exq ((E.alloc (.cells zL 26)).setCells E.heap.size 0 (cL (fo l) ah ah ah));rw[<-ao]at al Z;have bO:E.heap.size=w.heap.size+1+1:=by rw[H,DO,DO]
 obtain⟨A0,aU⟩:=exq (w.heap.size+1+1);rw[bO,<-aU]at ao al aR;have bL:=am.lt;obtain⟨n,hR0⟩:=exq (w.heap.size+1);obtain⟨P0,a3⟩:=exq w.heap.size;rw[<-hR0]at am bL;rw[<-a3]at aV;have aB:Hid (az w W):=aa (aY.trans Z);have bm:=aa al;have R:=aa (aV.ext Z);have bn:=aa (am.ext Z);have o:=aa (hR.ext aB);have bR:=aa aU;have z:Hid (P0=w.heap.size/\n=w.heap.size+1/\n < A0/\w.heap.size<=A0):=aa ⟨a3,hR0,by omega,by omega⟩;have V:Hid (∀i,(Q i\/i=b)->i < w.heap.size):=aa fun i hi=>by
  rcases hi with q | q
  ·exact hR.sz i q
  ·rw[q];exact hR.bx.lt
 have aJ:=aa a2;have aK:=aa bD;have br:Hid (∀i,Q i->(N i\/w.heap.size<=i)):=aa fun i q=>.inl (a2 i q)
 have bW:Hid (bZ (fun k=>¬(N k\/w.heap.size<=k)) W l vp vs (.slice t l.blocks.length p) L):=aa (a1.kept fun b A hl=>⟨fun q=>by
  rcases q with q | q
  ·exact A q
  ·omega,aB.block b hl⟩)
 have ce:=aa (DT a5 a4);have cf:=aa (rq hc hk a4);obtain⟨v0,a8,bK⟩:=hR.some M;obtain⟨p0,Y,b8,_,_⟩:=bf.form bK.CB;subst b8;have bu:Hid (∀f,j8 (fun i=>N i\/w.heap.size<=i) Q f b m j mp ⟨s.BY,fJ s l⟩->bf f (.slice p0 st.length Y) st/\∀x∈st,bA x):=aa fun f h2=>by
  obtain⟨bQ,h3,h4⟩:=h2.row a8;have:bQ=st:=by have h5:dv s l.obj=some bQ:=h3;rw[M]at h5;exact(Fk h5).symm
  subst this;exact⟨h4.CB,h4.C9⟩
 have aO:Hid (fX s l=⟨s.BY,fJ s l⟩):=aa (by unfold fX;rw[M]);have bt:Hid ((fa s.ids l.id=false\/st=l.blocks)->eH s l=fo l):=aa fun q=>by unfold eH;rw[M];simp only;rw[if_pos q]
 have b0:Hid (fa s.ids l.id=true->¬st=l.blocks->eH s l=dO l 10):=aa fun q1 q2=>by unfold eH;rw[M];simp only;rw[if_neg (by rw[q1];simp[q2])];rfl
 have bH:=o.bx.cell (i:=0) (v:=.map (some m)) rfl;have bI:=o.bx.lt;have be:=R.cell (i:=2) (v:=.int .i64 l.obj) rfl;have bP:=R.lt;have aM:Hid (∀f,az W f->(GG 84 (.map (some m)) (.int .i64 l.obj) true).run DE f=.ok (.tuple #[.slice p0 st.length Y,.bool true]) f):=aa fun f h2=>by
  have hz:(zeroValue 22).run DE f=.ok (.slice none 0 0) f:=by first | rfl | kernel_rfl | (simp[go_sem];done)
  have h:=(o.mt.ext h2).lookup (P:=DE) Ga FR hz l.obj;rw[a8]at h;exact h
 have bv:=aa o.sn;obtain⟨any,g,c,bM,bd⟩:=bv.out;have b1:=aa (DT bM bd);have aP:Hid (∀f,Kq (fun k=>k=j) W f->f.cell? ⟨b,1,none⟩=some (.pointer (some ⟨j,0,none⟩))/\f.cell? ⟨P0,1,none⟩=some (.int .i64 l.id)):=aa fun f hK=>by have h1:=hK.box (X:=b) (fun q=>o.qb (q▸o.out.qs)) o.bx;have h2:=hK.box (X:=P0) (fun q=>by have:=V j (.inl o.qs);have:=z.out;omega) R;exact⟨h1.cell (i:=1) rfl,h2.cell (i:=1) rfl⟩
 obtain⟨F,hF⟩:=exq (fa s.ids l.id);have HF:=aa hF;have aF:Hid (∀f,av f j [.bool any,.int .i64 g,.int .u64 (c:Nat)]->DN DE 73 #[.pointer (some ⟨j,0,none⟩),.int .i64 l.id] f fun e w'=>e=.returned (.bool F)/\zT j s.ids l.id f w'):=aa fun f h2=>by have h:=mv j any g c s.ids l.id f h2 bd;rw[<-hF]at h;exact h
 obtain⟨oj,bc⟩:=exq l.obj;obtain⟨li,bb⟩:=exq l.id;have bY:=aa (DT bc bb);rw[<-bb]at aF aP;rw[<-bc]at aM be;unfold cL at H;clear a6 a1 bE a5 a4 bB aY aV am al Z bL aU bO hR0 a3 hR a2 bD hc hk bM bd hF bv bc bb a8 M bK;show DN DE 37 #[.pointer (some ⟨b,0,none⟩),.agg #[.int .i64 l.kind,.int .i64 l.id,.int .i64 l.obj,vp,vs,.int .i64 l.Cq,.int .i64 l.Cs,.slice t l.blocks.length p,.int .i64 l.code]] w _;go_enter Tryz.func37,Tryz.ntmps37
 go_wp2_with (with_reducible refine aC (ty:=26) ?_)
 rw[<-H];rw[show w.heap.size+1+1=A0 from bR.out.symm,show w.heap.size+1=n from z.out.2.1.symm,show w.heap.size=P0 from z.out.1.symm];refine au ?_;refine ag rfl rfl aR ?_;rw[<-ao];clear H ao aR
 go_wp2_with fail
 apply ay (az) (fun _ _ _=>True) 12 [15,16,17,18,19,20,21,14,22,23,6,7] [ar _,ar _,ar _,ar _,ar _,ar _,ar _,ar _,ar _,ar _,ar _,ar _] (fun w=>DI _ w) (fun a b c h k=>az.trans h k) (by kernel_rfl) (by kernel_rfl) (by kernel_rfl) (by kernel_rfl);case hsteps=>
  refine⟨?_,?_,?_,?_,?_,?_,?_,?_,?_,?_,?_,?_,trivial⟩;all_goals
   intro d ev y r B T U O A hd;replace T:=aa T;replace B:=aa B;replace U:=aa U;replace O:=aa O;have e0:=A 0 (by decide);have e3:=A 3 (by decide);clear A;simp only[sB]at e0 e3;simp only[sG]at hd;have hc:=(aD r).1;have Y:=(hc _ 0 bI).trans bH;have c2:=(hc _ 2 bP).trans be;have lk:=aM _ r;simp only[DP,if_true];go_simp;first | exact⟨DI _ _,rfl,trivial⟩ | exact⟨DI _ _,rfl⟩ | exact DI _ _
 case hmono=>exact mR
 case hR0=>exact(DI _ _).drew
 case hend=>
  intro u y r hJ hend;simp only[sE]at hend;simp only[sF,hend];have ai:=aa r;have bN:=b1.1.ext r;have aL:=aa bN;obtain⟨W3,bF⟩:=exq y;rw[<-bF]at ai aL⊢;clear r hend hJ bH bI be bP aM bN bF
  go_wp2_with fail
  apply ay (Kq (fun k=>k=j)) (HJ 6 (fun w'=>av w' j [.bool any,.int .i64 g,.int .u64 (c:Nat)]) (fun w'=>Bd j s.ids li w')) 7 [24,25,26,27,28,29,30] [ar _,ar _,ar _,ar _,ar _,ar _,ar _] (fun w=>Kq.refl w) (fun a b c h k=>Kq.trans h k) (by kernel_rfl) (by kernel_rfl) (by kernel_rfl) (by kernel_rfl);case hsteps=>
   refine⟨?_,?_,?_,?_,?_,?_,?_,trivial⟩;all_goals
    intro d ev y r B T U O A hd;replace T:=aa T;replace B:=aa B;replace U:=aa U;replace O:=aa O;have e0:=A 0 (by decide);have e3:=A 3 (by decide);clear A;simp only[sB]at e0 e3;simp only[sG]at hd;have q3:=aP _ ((Kq.AI ai).trans r);have Y:=q3.1;have c1:=q3.2;clear q3;rw[if_pos (rfl:DP _ _=true)];go_simp;first | exact⟨Kq.refl _,rfl,HJ.same (by decide) B⟩ | (go_at_call 73;(with_reducible refine(aF.out y (HJ.get B.out O.out)).mono ?_);rintro e f ⟨rfl,k1⟩;exact⟨_,rfl,k1.2,rfl,HJ.set k1.1⟩) | exact⟨DI _ _,rfl,HJ.same (by decide) B⟩
  case hmono=>exact mR
  case hR0=>exact Kq.drew _
  case hend=>
   intro u y r hJ hend;simp only[sE]at hend;simp only[sF,hend];have b5:=HJ.CE hJ rfl;have C:Hid (Kq (fun k=>k=j) W y):=aa ((Kq.AI ai).trans r);obtain⟨ci,g',c',k1,k2⟩:=b5;rw[bY.out.2]at k2;have S:Hid (j8 (fun i=>N i\/w.heap.size<=i) Q y b m j mp ⟨s.BY,fJ s l⟩):=aa (o.ids br C k1 k2);have aE:Hid (Kq Q w y):=aa ((Kq.AI aB).trans (C.mono fun i _ q=>q▸o.out.qs));have ap:∀X,w.heap.size<=X->X≠j:=fun X hX q=>by have:=V j (.inl o.qs);omega
   have aq:=aa (C.box (ap A0 z.2.2.2) bm);have ax:=aa (C.box (ap P0 (by rw[z.out.1];exact DH _)) R);have aA:=aa (C.box (ap n (by rw[z.out.2.1];omega)) bn);have af:Hid (kA y (cL l vp vs (.slice t l.blocks.length p)) l vp vs (.slice t l.blocks.length p) L):=aa (bZ.Cr (bW.kept (F':=fun _=>True) fun i hi hl=>⟨trivial,C.block i hl fun q=>hi (br i (q▸o.out.qs))⟩));obtain⟨W4,bG⟩:=exq y;rw[<-bG]at S aE aq ax aA af⊢;clear r hend hJ ap k1 k2 aL ai C bm R bn aP aF bG;cases F
   ·have aw:=aq;have I:=aA;have aN:=aa (aw.load (P:=DE) DQ rfl (by kernel_rfl));have aQ:=aa (I.store (P:=DE) (cs':=cL (fo l) ah ah ah) rfl (bk ⟨_,_,_,rfl⟩ ⟨_,_,_,rfl⟩ ⟨_,_,_,rfl⟩) (ty:=26) (by kernel_rfl));have J:=aa (I.set (cs':=cL (fo l) ah ah ah) rfl);have aH:Hid (Kq (fun k=>k=n) W4 (W4.setCells n 0 (cL (fo l) ah ah ah))):=aa ((Kq.refl W4).setCells (Q:=fun k=>k=n) rfl 0 _)
    go_wp2_with first | refine ak rfl aN ?_ | refine ag rfl rfl aQ ?_
    refine DK (v:=.agg (cL (fo l) ah ah ah).toArray) (aG rfl rfl (J.loadVar (P:=DE) DQ rfl (by kernel_rfl))) rfl ⟨?_,?_⟩
    ·rw[bt.out (.inl HF.out.symm)]
    ·rw[aO.out];exact S.fin aJ aK aE aH (by rw[z.out.2.1];omega) V
   ·have q7:=ax.cell (i:=7) (v:=.slice t l.blocks.length p) rfl
    go_wp2_with fail
    refine(pX (.slice p0 st.length Y) (.slice t l.blocks.length p) st l.blocks W4 (bu _ S).1 af.bl (bu _ S).2 af.Ct).mono ?_;rintro e K ⟨rfl,G⟩;obtain⟨D,hD⟩:=exq (decide (st=l.blocks));have HD:=aa hD;rw[<-hD];have aw:=aa (aq.ext G);have bS:=aa (ax.ext G);have I:=aa (aA.ext G);have bs:=aa (S.ext G);have bo:Hid (Kq Q w K):=aa (aE.trans (Kq.AI G));have bV:Hid (dH K (.agg (cL l vp vs (.slice t l.blocks.length p)).toArray) l):=aa ⟨_,vp,vs,_,L,rfl,af.ext G⟩;clear G hD q7;cases D
    ·have bX:=aa (bS.load (P:=DE) DQ rfl (by kernel_rfl))
     go_wp2_with refine ak rfl bX ?_
     refine(dP _ l 10 K bV).mono ?_;rintro e w6 ⟨rfl,aZ⟩;have bp:=aa aZ;have J:=aa (I.ext aZ);clear aZ;have b2:=aa (J.store (P:=DE) (cs':=cL (dO l 10) ah ah ah) rfl (bk ⟨_,_,_,rfl⟩ ⟨_,_,_,rfl⟩ ⟨_,_,_,rfl⟩) (ty:=26) (by kernel_rfl));have bT:=aa (J.set (cs':=cL (dO l 10) ah ah ah) rfl);have bU:Hid (Kq (fun k=>k=n) w6 (w6.setCells n 0 (cL (dO l 10) ah ah ah))):=aa ((Kq.refl w6).setCells (Q:=fun k=>k=n) rfl 0 _)
     go_wp2_with refine ag rfl rfl b2 ?_
     refine DK (v:=.agg (cL (dO l 10) ah ah ah).toArray) (aG rfl rfl (bT.loadVar (P:=DE) DQ rfl (by kernel_rfl))) rfl ⟨?_,?_⟩
     ·rw[b0.out HF.out.symm (of_decide_eq_false HD.out.symm)]
     ·rw[aO.out];exact(bs.ext bp).fin aJ aK (bo.trans (Kq.AI bp)) bU (by rw[z.out.2.1];omega) V
    ·have aN:=aa (aw.load (P:=DE) DQ rfl (by kernel_rfl));have aQ:=aa (I.store (P:=DE) (cs':=cL (fo l) ah ah ah) rfl (bk ⟨_,_,_,rfl⟩ ⟨_,_,_,rfl⟩ ⟨_,_,_,rfl⟩) (ty:=26) (by kernel_rfl));have J:=aa (I.set (cs':=cL (fo l) ah ah ah) rfl);have aH:Hid (Kq (fun k=>k=n) K (K.setCells n 0 (cL (fo l) ah ah ah))):=aa ((Kq.refl K).setCells (Q:=fun k=>k=n) rfl 0 _)
     go_wp2_with first | refine ak rfl aN ?_ | refine ag rfl rfl aQ ?_
     refine DK (v:=.agg (cL (fo l) ah ah ah).toArray) (aG rfl rfl (J.loadVar (P:=DE) DQ rfl (by kernel_rfl))) rfl ⟨?_,?_⟩
     ·rw[bt.out (.inr (of_decide_eq_true HD.out.symm))]
     ·rw[aO.out];exact bs.fin aJ aK bo aH (by rw[z.out.2.1];omega) V
  case hJ0=>exact HJ.start (aL.ext (DI _ _).drew)
 case hJ0=>trivial
theorem ux (b:Nat) (N Q:Nat->Prop) (s:eb) (v:DG) (l:Cp) (w:DF) (hS:lE N Q w b s) (bj:∀i,Q i->N i) (bV:∀i,N i->i < w.heap.size) (hL:xf N w v l) (hc:aW l=0) (J:l.kind=1) (hg:dv s l.obj=none):
  DN DE 37 #[.pointer (some ⟨b,0,none⟩),v] w fun e w'=>e=.returned (.agg (cL (eH s l) ah ah ah).toArray)/\lq N Q w w' b (fX s l):=by
 obtain⟨vp,vs,vb,L,rfl,bi⟩:=hL;have aX:=bi.Cr;obtain⟨m,n,mp,bW⟩:=hS;have Z:=bW.wide;have bo:=aX.bl;have bn:=aX.Ct;obtain⟨z,t,cB,_,_⟩:=bf.form bo;subst cB;obtain⟨V,ab⟩:=exq ((w.alloc (.cells (cL l vp vs (.slice z l.blocks.length t)).toArray 26)).alloc (.cells zL 26));have bS:=ae w (.cells (cL l vp vs (.slice z l.blocks.length t)).toArray 26);have be:=bS.trans (ae (w.alloc (.cells (cL l vp vs (.slice z l.blocks.length t)).toArray 26)) (.cells zL 26));have bd:av V w.heap.size (cL l vp vs (.slice z l.blocks.length t)):=by rw[ab];exact(av.box w 26 (cg _ _ _ _)).ext (ae _ _)
 have aT:av V (w.heap.size+1) zL.toList:=by rw[ab];exact gy w _ zL.toList _ _ (fun h=>by cases h)
 rw[<-ab]at be;obtain⟨aS,aA⟩:=av.fresh (cs:=cL (fo l) ah ah ah) V 26 zL rfl (cg _ _ _ _);have bb:=aa (aI (P:=DE) (cs:=cL (fo l) ah ah ah) V 26 zL rfl (bk ⟨_,_,_,rfl⟩ ⟨_,_,_,rfl⟩ ⟨_,_,_,rfl⟩) (ty:=26) (by kernel_rfl));obtain⟨W2,aU⟩:=exq ((V.alloc (.cells zL 26)).setCells V.heap.size 0 (cL (fo l) ah ah ah));rw[<-aU]at aS aA;have b5:V.heap.size=w.heap.size+1+1:=by rw[ab,DO,DO]
 obtain⟨A0,bc⟩:=exq (w.heap.size+1+1);rw[b5,<-bc]at aU aS bb;have b2:=aT.lt;obtain⟨j,hR0⟩:=exq (w.heap.size+1);obtain⟨P0,bm⟩:=exq w.heap.size;rw[<-hR0]at aT b2;rw[<-bm]at bd;have a2:Hid (az w W2):=aa (be.trans aA);have bC:=aa aS;have al:=aa (bd.ext aA);have bE:=aa (aT.ext aA);have E:=aa (Z.ext a2);have b8:=aa bc;have A:Hid (P0=w.heap.size/\j=w.heap.size+1/\j < A0/\w.heap.size<=A0):=aa ⟨bm,hR0,by omega,by omega⟩;have af:Hid (∀i,(Q i\/i=b)->i < w.heap.size):=aa fun i hi=>by
  rcases hi with q | q
  ·exact Z.sz i q
  ·rw[q];exact Z.bx.lt
 have a6:=aa bj;have a7:=aa bV;have bH:Hid (∀i,Q i->(N i\/w.heap.size<=i)):=aa fun i q=>.inl (bj i q)
 have ch:Hid (bZ (fun k=>¬(N k\/w.heap.size<=k)) W2 l vp vs (.slice z l.blocks.length t) L):=aa (bi.kept fun b C hl=>⟨fun q=>by
  rcases q with q | q
  ·exact C q
  ·omega,a2.block b hl⟩)
 have cE:=aa (DT bo bn);have bJ:=aa (rq hc J bn);have bq:=Z.none hg;have bM:Hid (4<=mp.length->fX s l=⟨s.BY,fJ s l⟩/\eH s l=dO l 12):=aa fun q=>by
  have q2:4<=s.BY.length:=by rw[<-Z.ln];exact q
  unfold fX eH;rw[hg];simp only;rw[if_pos q2,if_pos q2];exact⟨rfl,rfl⟩
 have bN:Hid (¬4<=mp.length->fX s l=⟨s.BY++[(l.obj,l.blocks)],fJ s l⟩/\eH s l=fo l):=aa fun q=>by
  have q2:¬4<=s.BY.length:=by rw[<-Z.ln];exact q
  unfold fX eH;rw[hg];simp only;rw[if_neg q2,if_neg q2];exact⟨rfl,rfl⟩
 have bL:Hid (dv s l.obj=none/\eZ mp l.obj=none):=aa ⟨hg,bq⟩;have cy:=aX.bl;have b9:Hid (∀f,kA f (cL l vp vs (.slice z l.blocks.length t)) l vp vs (.slice z l.blocks.length t) L->DN DE 48 #[.slice z l.blocks.length t] f fun e w'=>Ax l.blocks f e w'):=aa fun f h2=>mh _ l.blocks f h2.bl h2.Ct (by have:=bJ.2.1;omega) (fun x hx=>by have:=(bJ.2.2 x hx).1;omega)
 clear cy;have aB:=E.bx.cell (i:=0) (v:=.map (some m)) rfl;have aV:=E.bx.lt;have aj:=al.cell (i:=2) (v:=.int .i64 l.obj) rfl;have a0:=al.lt;have a9:Hid (∀f,az W2 f->(GG 84 (.map (some m)) (.int .i64 l.obj) true).run DE f=.ok (.tuple #[.slice none 0 0,.bool false]) f):=aa fun f h2=>by
  have hz:(zeroValue 22).run DE f=.ok (.slice none 0 0) f:=by first | rfl | kernel_rfl | (simp[go_sem];done)
  have h:=(E.mt.ext h2).lookup (P:=DE) Ga FR hz l.obj;rw[bq]at h;exact h
 have bO:=aa E.sn;obtain⟨any,g,c,b3,bz⟩:=bO.out;have cn:=aa (DT b3 bz);have ba:Hid (∀f,Kq (fun k=>k=n) W2 f->f.cell? ⟨b,1,none⟩=some (.pointer (some ⟨n,0,none⟩))/\f.cell? ⟨P0,1,none⟩=some (.int .i64 l.id)):=aa fun f hK=>by have h1:=hK.box (X:=b) (fun q=>E.qb (q▸E.out.qs)) E.bx;have h2:=hK.box (X:=P0) (fun q=>by have:=af n (.inl E.qs);have:=A.out;omega) al;exact⟨h1.cell (i:=1) rfl,h2.cell (i:=1) rfl⟩
 obtain⟨F,hF⟩:=exq (fa s.ids l.id);have HF:=aa hF;have a3:Hid (∀f,av f n [.bool any,.int .i64 g,.int .u64 (c:Nat)]->DN DE 73 #[.pointer (some ⟨n,0,none⟩),.int .i64 l.id] f fun e w'=>e=.returned (.bool F)/\zT n s.ids l.id f w'):=aa fun f h2=>by have h:=mv n any g c s.ids l.id f h2 bz;rw[<-hF]at h;exact h
 obtain⟨oj,bw⟩:=exq l.obj;obtain⟨li,bu⟩:=exq l.id;have cl:=aa (DT bw bu);rw[<-bu]at a3 ba;rw[<-bw]at a9 aj;unfold cL at ab;clear aX bi bW bo bn bS be bd aT aS aA b2 bc b5 hR0 bm Z bj bV hc J b3 bz hF bO bw bu bq hg;show DN DE 37 #[.pointer (some ⟨b,0,none⟩),.agg #[.int .i64 l.kind,.int .i64 l.id,.int .i64 l.obj,vp,vs,.int .i64 l.Cq,.int .i64 l.Cs,.slice z l.blocks.length t,.int .i64 l.code]] w _;go_enter Tryz.func37,Tryz.ntmps37
 go_wp2_with (with_reducible refine aC (ty:=26) ?_)
 rw[<-ab];rw[show w.heap.size+1+1=A0 from b8.out.symm,show w.heap.size+1=j from A.out.2.1.symm,show w.heap.size=P0 from A.out.1.symm];refine au ?_;refine ag rfl rfl bb ?_;rw[<-aU];clear ab aU bb
 go_wp2_with fail
 apply ay (az) (fun _ _ _=>True) 12 [15,16,17,18,19,20,21,14,22,23,6,7] [ar _,ar _,ar _,ar _,ar _,ar _,ar _,ar _,ar _,ar _,ar _,ar _] (fun w=>DI _ w) (fun a b c h k=>az.trans h k) (by kernel_rfl) (by kernel_rfl) (by kernel_rfl) (by kernel_rfl);case hsteps=>
  refine⟨?_,?_,?_,?_,?_,?_,?_,?_,?_,?_,?_,?_,trivial⟩;all_goals
   intro d ev o p B R S O C hd;replace R:=aa R;replace B:=aa B;replace S:=aa S;replace O:=aa O;have e0:=C 0 (by decide);have e3:=C 3 (by decide);clear C;simp only[sB]at e0 e3;simp only[sG]at hd;have hc:=(aD p).1;have c0:=(hc _ 0 aV).trans aB;have c2:=(hc _ 2 a0).trans aj;have lk:=a9 _ p;simp only[DP,if_true];go_simp;first | exact⟨DI _ _,rfl,trivial⟩ | exact⟨DI _ _,rfl⟩ | exact DI _ _
 case hmono=>exact mR
 case hR0=>exact(DI _ _).drew
 case hend=>
  intro u o p W hend;simp only[sE]at hend;simp only[sF,hend];have aQ:=aa p;have b4:=cn.1.ext p;have a8:=aa b4;obtain⟨W3,bX⟩:=exq o;rw[<-bX]at aQ a8⊢;clear p hend W aB aV aj a0 a9 b4 bX
  go_wp2_with fail
  apply ay (Kq (fun k=>k=n)) (HJ 6 (fun w'=>av w' n [.bool any,.int .i64 g,.int .u64 (c:Nat)]) (fun w'=>Bd n s.ids li w')) 7 [24,25,26,27,28,29,30] [ar _,ar _,ar _,ar _,ar _,ar _,ar _] (fun w=>Kq.refl w) (fun a b c h k=>Kq.trans h k) (by kernel_rfl) (by kernel_rfl) (by kernel_rfl) (by kernel_rfl);case hsteps=>
   refine⟨?_,?_,?_,?_,?_,?_,?_,trivial⟩;all_goals
    intro d ev o p B R S O C hd;replace R:=aa R;replace B:=aa B;replace S:=aa S;replace O:=aa O;have e0:=C 0 (by decide);have e3:=C 3 (by decide);clear C;simp only[sB]at e0 e3;simp only[sG]at hd;have T:=ba _ ((Kq.AI aQ).trans p);have c0:=T.1;have c1:=T.2;clear T;rw[if_pos (rfl:DP _ _=true)];go_simp;first | exact⟨Kq.refl _,rfl,HJ.same (by decide) B⟩ | (go_at_call 73;(with_reducible refine(a3.out o (HJ.get B.out O.out)).mono ?_);rintro e f ⟨rfl,D⟩;exact⟨_,rfl,D.2,rfl,HJ.set D.1⟩) | exact⟨DI _ _,rfl,HJ.same (by decide) B⟩
  case hmono=>exact mR
  case hR0=>exact Kq.drew _
  case hend=>
   intro u o p W hend;simp only[sE]at hend;simp only[sF,hend];have ct:=HJ.CE W rfl;have U:Hid (Kq (fun k=>k=n) W2 o):=aa ((Kq.AI aQ).trans p);obtain⟨cG,g',c',D,I⟩:=ct;rw[cl.out.2]at I;have ac:Hid (j8 (fun i=>N i\/w.heap.size<=i) Q o b m n mp ⟨s.BY,fJ s l⟩):=aa (E.ids bH U D I);have aO:Hid (Kq Q w o):=aa ((Kq.AI a2).trans (U.mono fun i _ q=>q▸E.out.qs));have aZ:∀X,w.heap.size<=X->X≠n:=fun X hX q=>by have:=af n (.inl E.qs);omega
   have bD:=aa (U.box (aZ A0 A.2.2.2) bC);have am:=aa (U.box (aZ P0 (by rw[A.out.1];exact DH _)) al);have an:=aa (U.box (aZ j (by rw[A.out.2.1];omega)) bE);have a5:Hid (kA o (cL l vp vs (.slice z l.blocks.length t)) l vp vs (.slice z l.blocks.length t) L):=aa (bZ.Cr (ch.kept (F':=fun _=>True) fun i hi hl=>⟨trivial,U.block i hl fun q=>hi (bH i (q▸E.out.qs))⟩));obtain⟨G,bY⟩:=exq o;rw[<-bY]at ac aO bD am an a5⊢;clear p hend W aZ D I a8 aQ U bC al bE ba a3 bY;have aB:=ac.bx.cell (i:=0) (v:=.map (some m)) rfl;obtain⟨K,hK⟩:=exq mp.length;have cA:∀ty,(Builtin.len_ #[84] ty #[.map (some m)]).run DE G=.ok (.int .i64 (K:Nat)) G:=fun ty=>by rw[hK];exact ac.mt.len Ga
   have HK:=aa hK;clear hK;by_cases h4:4<=K
   ·have cr:(4:Int)<=(K:Int):=by omega
    have cf:Hid (dH G (.agg (cL l vp vs (.slice z l.blocks.length t)).toArray) l):=aa ⟨_,vp,vs,_,L,rfl,a5⟩;have cc:=am;have aM:=an;have ck:=aa (cc.load (P:=DE) DQ rfl (by kernel_rfl))
    go_wp2_with refine ak rfl ck ?_
    refine(dP _ l 12 G cf).mono ?_;rintro e w6 ⟨rfl,bg⟩;have bG:=aa bg;have aN:=aa (aM.ext bg);clear bg;have cp:=aa (aN.store (P:=DE) (cs':=cL (dO l 12) ah ah ah) rfl (bk ⟨_,_,_,rfl⟩ ⟨_,_,_,rfl⟩ ⟨_,_,_,rfl⟩) (ty:=26) (by kernel_rfl));have cd:=aa (aN.set (cs':=cL (dO l 12) ah ah ah) rfl);have ce:Hid (Kq (fun k=>k=j) w6 (w6.setCells j 0 (cL (dO l 12) ah ah ah))):=aa ((Kq.refl w6).setCells (Q:=fun k=>k=j) rfl 0 _)
    go_wp2_with refine ag rfl rfl cp ?_
    refine DK (v:=.agg (cL (dO l 12) ah ah ah).toArray) (aG rfl rfl (cd.loadVar (P:=DE) DQ rfl (by kernel_rfl))) rfl ⟨?_,?_⟩
    ·rw[(bM.out (by rw[<-HK.out];exact h4)).2]
    ·rw[(bM.out (by rw[<-HK.out];exact h4)).1];exact(ac.ext bG).fin a6 a7 (aO.trans (Kq.AI bG)) ce (by rw[A.out.2.1];omega) af
   ·have cr:¬(4:Int)<=(K:Int):=by omega
    have aV:=ac.bx.lt;have aj:=am.cell (i:=2) (v:=.int .i64 l.obj) rfl;have b6:=am.cell (i:=7) (v:=.slice z l.blocks.length t) rfl;have a0:=am.lt;have cm:Hid (∀f,Kq (fun _=>False) G f->f.cell? ⟨b,0,none⟩=some (.map (some m))/\f.cell? ⟨P0,2,none⟩=some (.int .i64 l.obj)/\f.cell? ⟨P0,7,none⟩=some (.slice z l.blocks.length t)):=aa fun f J=>⟨J.cell (fun q=>q) aB,J.cell (fun q=>q) aj,J.cell (fun q=>q) b6⟩
    have ca:Hid (∀f,Kq (fun _=>False) G f->DN DE 48 #[.slice z l.blocks.length t] f fun e w'=>∃v',e=.returned v'/\Az l.blocks G.heap.size v' w'/\az f w'):=aa fun f J=>by have hE:=J.ext (fun _ q=>q.elim);refine(b9 f (a5.ext hE)).mono ?_;rintro e w' ⟨M,rfl,D,I,k3,k4⟩;exact⟨_,rfl,⟨f.heap.size,M,rfl,hE.size,D,I,k3,(D.block _ rfl).2⟩,k4⟩
    clear aj b6 a0 aV
    go_wp2_with fail
    clear cA aB;apply ay (Kq (fun _=>False)) (eT (fun _=>True) [(8,65,Az l.blocks G.heap.size)]) 9 [57,58,59,60,61,62,63,64,65] [ar _,ar _,ar _,ar _,ar _,ar _,ar _,ar _,bK] (fun w=>Kq.refl w) (fun a b c h k=>Kq.trans h k) (by kernel_rfl) (by kernel_rfl) (by kernel_rfl) (by kernel_rfl);case hsteps=>
     refine⟨?_,?_,?_,?_,?_,?_,?_,?_,?_,trivial⟩;all_goals
      intro d ev o p B R S O C hd;replace R:=aa R;replace B:=aa B;replace S:=aa S;replace O:=aa O;have e0:=C 0 (by decide);have e3:=C 3 (by decide);clear C;simp only[sB]at e0 e3;simp only[sG]at hd;have T:=cm _ p;have c0:=T.1;have c2:=T.2.1;have c7:=T.2.2;clear T;rw[if_pos (rfl:DP _ _=true)];go_simp;first | exact⟨Kq.refl _,rfl,B.same rfl⟩ | (go_at_call 48;(with_reducible refine(ca.out o p).mono ?_);rintro e f ⟨v9,rfl,D,I⟩;exact⟨_,rfl,Kq.AI I,trivial,eT.set (a:=[]) (b:=[]) trivial rfl D trivial rfl⟩) | exact⟨DI _ _,rfl,HJ.same (by decide) B⟩
    case hmono=>exact mR
    case hR0=>exact Kq.drew _
    case hend=>
     intro u o p W hend;simp only[sE]at hend;simp only[sF,hend];obtain⟨g9,M,bA,bp,D,I,k3,k4⟩:=W.2 rfl;have ao:Hid (az G o):=aa (p.ext (fun _ q=>q.elim));have bI:=aa (ac.ext ao);obtain⟨H,cN,bU,Y⟩:=dG.put (P:=DE) Ga FR bI.mt l.obj (.slice (some ⟨g9,0,none⟩) l.blocks.length l.blocks.length) bL.2;have b0:w.heap.size<=g9:=Nat.le_trans aO.size bp;have cv:j < G.heap.size:=an.lt
     have b1:ig (fun i=>N i\/i=g9\/i=j) o (.slice (some ⟨g9,0,none⟩) l.blocks.length l.blocks.length) l.blocks:=⟨M,by rw[<-bA];exact D.mono (Nat.zero_le _),fun y hy=>br _ _ _ _ _ (I y hy) fun k J _=>⟨fun q=>by
      rcases q with q | q | q
      ·have:=a7 k q;omega
      ·omega
      ·omega,rfl⟩,k3⟩
     have ad:j8 (fun i=>N i\/i=g9\/i=j) Q o b m n mp ⟨s.BY,fJ s l⟩:=bI.kept (Q2:=fun _=>False) (Kq.refl o) (fun _ q=>q.elim) fun i q=>by
      rcases q with q | q | q
      ·exact .inl (.inl q)
      ·exact .inl (.inr (by omega))
      ·exact .inl (.inr (by have:=A.out;omega))
     have aJ:=af.out
     have ci:Hid (j8 (fun i=>N i\/i=g9\/i=j) (fun i=>Q i\/(FE (some ⟨g9,0,none⟩) l.blocks.length l.blocks.length).ownBlock=some i) H b m n (mp++[(l.obj,.slice (some ⟨g9,0,none⟩) l.blocks.length l.blocks.length)]) ⟨s.BY++[(l.obj,l.blocks)],fJ s l⟩):=aa (ad.put (fun i q=>.inl (a6 i q)) bL.1 bU Y b1 fun i q=>by
      have e:g9=i:=Fk q;subst e;have h1:=aJ m (.inl ad.qm);have h2:=aJ n (.inl ad.qs);have h3:=aJ b (.inr rfl)
      exact⟨k4,by omega,by omega,by omega⟩)
     have bT:Kq Q o H:=Y.mono fun i _ q=>q▸ad.qm
     have bF:Hid (Kq Q w H):=aa (aO.trans ((Kq.AI ao).trans bT));have bv:∀X,w.heap.size<=X->X≠m:=fun X hX q=>by have:=aJ m (.inl ad.qm);omega
     have cb:=aa (Y.box (bv A0 A.2.2.2) (bD.ext ao));have aM:=aa (Y.box (bv j (by rw[A.out.2.1];omega)) (an.ext ao));have ap:Hid (g9 < H.heap.size/\w.heap.size<=g9/\j < H.heap.size/\G.heap.size<=g9):=aa ⟨D9 k4 Y.size,b0,by have:=Y.size;have:=ao.size;omega,bp⟩;simp only[bA];clear p hend W bA D I k3 k4 bU Y b1 ad bT bv aJ bp b0 cv;have cj:=aa (cb.load (P:=DE) DQ rfl (by kernel_rfl));have co:=aa (aM.store (P:=DE) (cs':=cL (fo l) ah ah ah) rfl (bk ⟨_,_,_,rfl⟩ ⟨_,_,_,rfl⟩ ⟨_,_,_,rfl⟩) (ty:=26) (by kernel_rfl));have aN:=aa (aM.set (cs':=cL (fo l) ah ah ah) rfl);have a4:Hid (Kq (fun k=>k=j) H (H.setCells j 0 (cL (fo l) ah ah ah))):=aa ((Kq.refl H).setCells (Q:=fun k=>k=j) rfl 0 _)
     go_wp2_with first | refine ak rfl cj ?_ | refine ag rfl rfl co ?_
     refine DK (v:=.agg (cL (fo l) ah ah ah).toArray) (aG rfl rfl (aN.loadVar (P:=DE) DQ rfl (by kernel_rfl))) rfl ⟨?_,?_⟩
     ·rw[(bN.out (by rw[<-HK.out];exact h4)).2]
     ·rw[(bN.out (by rw[<-HK.out];exact h4)).1];have cz:Kq Q w (H.setCells j 0 (cL (fo l) ah ah ah)):=by
       have h1:Kq (fun i=>Q i\/i=j) w (H.setCells j 0 (cL (fo l) ah ah ah)):=(bF.mono fun i _ q=>.inl q).trans (a4.mono fun i _ q=>.inr q);exact h1.mono fun i hi q=>by
        rcases q with q | q
        ·exact q
        ·have:=A.out;omega
      have bs:∀i,(FE (some ⟨g9,0,none⟩) l.blocks.length l.blocks.length).ownBlock=some i->i=g9:=fun i q=>(Fk q).symm
      refine⟨cz,_,_,⟨m,n,_,ci.kept a4 (fun i q=>⟨.inr (.inr q),fun r=> ?_,fun r=> ?_⟩) (fun i q=>.inl q)⟩,fun i q=> ?_,fun i q=>.inl q,fun i q=>.inl q,fun i q=> ?_,fun i q=> ?_,fun i q=> ?_⟩
      ·rcases r with r | r
       ·have:=af i (.inl r);have:=A.out;omega
       ·have:=bs i r;have:=ap.out;have:=an.lt;omega
      ·have:=af i (.inr r);have:=A.out;omega
      ·rcases q with q | q | q
       ·exact .inl q
       ·exact .inr (by have:=ap.out;omega)
       ·exact .inr (by have:=A.out;omega)
      ·rcases q with q | q
       ·exact .inl (a6 i q)
       ·exact .inr (.inl (bs i q))
      ·rcases q with q | q
       ·exact .inl q
       ·exact .inr (by have:=bs i q;have:=ap.out;omega)
      ·refine D9 ?_ a4.size;rcases q with q | q | q
       ·exact D9 (a7 i q) bF.size
       ·have:=ap.out;omega
       ·have:=ap.out;omega
    case hJ0=>exact eT.start trivial
  case hJ0=>exact HJ.start (a8.ext (DI _ _).drew)
 case hJ0=>trivial
theorem xg (b:Nat) (N Q:Nat->Prop) (s:eb) (v:DG) (l:Cp) (w:DF) (f:lE N Q w b s) (c:∀i,Q i->N i) (d:∀i,N i->i < w.heap.size) (a:xf N w v l) (g:aW l=0) (h:l.kind=1):
  DN DE 37 #[.pointer (some ⟨b,0,none⟩),v] w fun e w'=>e=.returned (.agg (cL (eH s l) ah ah ah).toArray)/\lq N Q w w' b (fX s l):=by
 cases hg:dv s l.obj with
 | some st=>exact uw b N Q s v l w f c d a g h st hg
 | none=>exact ux b N Q s v l w f c d a g h hg
theorem lE.C6 {N:Nat->Prop} {w:DF} (d:av w b [.map (some m),.pointer (some ⟨sb,0,none⟩)]) (hm:dG w m []) (a:av w sb [.bool false,.int .i64 0,.int .u64 0]) (h1:b≠m) (h2:b≠sb) (c:m≠sb):lE N (fun i=>i=m\/i=sb) w b uM:=
 ⟨m,sb,[],d,hm,⟨false,0,0,a,cC.zero⟩,rfl,fun _=>trivial,fun q=>q.elim h1 h2,.inl rfl,.inr rfl,c,fun p hp=>(by cases hp),fun k e=>by
  rcases e with rfl | rfl
  ·exact hm.lt
  ·exact a.lt⟩
theorem fb.C6 {F:Nat->Prop} {w:DF} (a:av w b [.slice none 0 0,.slice none 0 0]) (c:¬F b):fb F w b uM:=
 ⟨_,_,[],a,aS.nil _,fun x hx=>(by cases hx),rfl,aS.nil _,fun x hx=>(by cases hx),c⟩
theorem fb.cells {F:Nat->Prop} {w:DF} {s:eb} (h:fb F w b s):(∀x,w.cell? ⟨b,0,none⟩≠some (.int .u8 x))/\∀x,w.cell? ⟨b,1,none⟩≠some (.int .u8 x):=by
 obtain⟨g,f,D,h⟩:=h;obtain⟨p,c,a,_,_⟩:=h.ro.AT.form;obtain⟨q,d,e,_,_⟩:=h.ra.AT.form;refine⟨fun x hx=> ?_,fun x hx=> ?_⟩
 ·rw[h.bx.cell (i:=0) (v:=g) rfl,a]at hx;cases hx
 ·rw[h.bx.cell (i:=1) (v:=f) rfl,e]at hx;cases hx
theorem kA.Dp {N:Nat->Prop} {w w':DF} {cs:List DG} {l:Cp} {vp vs vb:DG} {L:List Sv} (h:kA w cs l vp vs vb L) (a:az w w') (b:∀i,N i->w.heap.size<=i):xf N w' (.agg (cL l vp vs vb).toArray) l:=
 ⟨vp,vs,vb,L,rfl,(bZ.CV h).kept fun k c _=>⟨fun q=>by have:=b k q;omega,a.block k c⟩⟩
def zU (Q:Nat->Prop) (pr:List Int × Bool) (w:DF) (e:Ending) (w':DF):Prop:=∃p n c,e=.returned (.tuple #[.slice p n c,.bool pr.2])/\(pr.2=true->Rd w' .u8 (.slice p n c) pr.1)/\Kq Q w w'
def zV (b:Nat) (pr:List Int × Bool) (w:DF) (e:Ending) (w':DF):Prop:=∃p n c,e=.returned (.tuple #[.slice p n c,.bool pr.2])/\(pr.2=true->Rd w' .u8 (.slice p n c) pr.1)/\Kq (fun i=>i=b) w w'/\ka b w w'
end Go.Proofs.Bl
