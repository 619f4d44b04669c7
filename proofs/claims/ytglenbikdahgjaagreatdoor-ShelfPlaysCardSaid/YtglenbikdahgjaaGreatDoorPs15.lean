/- Texts that stood apart, in one: WNs1, WNs2. -/
import Derived.Test.YtglenbikdahgjaaGreatDoorPs14
set_option maxRecDepth 100000
set_option maxHeartbeats 16000000
open And renaming intro->Dj
open Go renaming Calls->CZ,Value->CQ,World->CP,bodyPost_ret->De,wpList->Ew
open Go.Instr renaming lookup->ER
open Go.Region renaming wanted->C8
open Go.Result renaming andThen->Ff
open Go.RowKit.Below renaming refl->CT
open Go.Value renaming slice->EG
open Go.World renaming size_alloc->C4
open Int renaming eq_ofNat_of_zero_le->DK,toNat_natCast->Dy
open List renaming length_map->CY,mem_cons->DA,mem_map->DM,mem_map_of_mem->DX
open List.Nodup renaming length_le_of_subset->FU
open Nat renaming le_refl->CU,lt_of_lt_of_le->Dd,zero_le->C9
open Option.some renaming inj->Ei
namespace Go.Proofs.Bl
open Go Go.RowKit Go.Proofs
open Go.Proofs.Tryz renaming prog->CO,underlying26->C5,underlying3->DP,underlying84->D7
variable {b m sb:Nat}
theorem oT (x:Int) (w:CP):CZ CO 125 #[.int .i64 x] w fun e w'=>e=.returned (.bool (wi x 0 1099511627776))/\w=w':=by
 by_cases h1:0<=x
 ·by_cases h2:x<=1099511627776
  ·have a:Hid (wi x 0 1099511627776=true):=aa (bj.2 ⟨h1,h2⟩);go_enter Tryz.func125,Tryz.ntmps125
   go_wp2
   go_ret;exact⟨by rw[a.out];rfl,rfl⟩
  ·have a:Hid (wi x 0 1099511627776=false):=aa (jM.2 (by omega));go_enter Tryz.func125,Tryz.ntmps125
   go_wp2
   go_ret;exact⟨by rw[a.out];rfl,rfl⟩
 ·have a:Hid (wi x 0 1099511627776=false):=aa (jM.2 (by omega));go_enter Tryz.func125,Tryz.ntmps125
  go_wp2
  go_ret;exact⟨by rw[a.out];rfl,rfl⟩
theorem oU (j:Nat) (any:Bool) (g:Int) (c:Nat) (ids:List Int) (x:Int) (w:CP) (d:aw w j [.bool any,.int .i64 g,.int .u64 (c:Nat)]) (h:bV any g c ids):
  CZ CO 126 #[.pointer (some ⟨j,0,none⟩),.int .i64 x] w fun e w'=>e=.returned (.bool (gT ids x))/\w=w':=by
 have k:=d.cell (i:=0) rfl;have l:=d.cell (i:=1) rfl;obtain⟨m,n⟩:=h.Cw;obtain⟨V,f⟩:=exq (gT ids x);have a:=f;rw[h.old]at a;rw[<-f];clear d h f;cases any
 ·have b:Hid (V=false):=aa (by rw[a];rfl);clear a;go_enter Tryz.func126,Tryz.ntmps126
  go_wp2
  go_ret;exact⟨by rw[b.out];rfl,rfl⟩
 ·by_cases hx:x<=g - 64
  ·have b:Hid (V=true):=aa (by rw[a];simp[hx]);clear a;go_enter Tryz.func126,Tryz.ntmps126
   go_wp2
   go_ret;exact⟨by rw[b.out];simp,rfl⟩
  ·have b:Hid (V=false):=aa (by rw[a];simp[hx]);clear a;go_enter Tryz.func126,Tryz.ntmps126
   go_wp2
   go_ret;exact⟨by rw[b.out];simp,rfl⟩
theorem vn (z:Nat) (any:Bool) (g:Int) (c:Nat) (ids:List Int) (x:Int) (w:CP) (o:aw w z [.bool any,.int .i64 g,.int .u64 (c:Nat)]) (h:bV any g c ids):
  CZ CO 127 #[.pointer (some ⟨z,0,none⟩),.int .i64 x] w fun e w'=>e=.returned (.bool (jl ids x))/\au w w':=by
 have Y:=o.cell (i:=0) rfl;have G:=o.cell (i:=1) rfl;have H:=o.cell (i:=2) rfl;have B:=o.lt;obtain⟨ad,ae⟩:=h.Cw;have j:=aa (oT x w);have l:=aa (oU z any g c ids x w o h);have a:=aa (fun U=>h.Cu (x:=x) U);have f:=aa (fun W K P=>h.has (x:=x) W K P);have E:=aa h.lt;obtain⟨V,s⟩:=exq (jl ids x);obtain⟨O,p⟩:=exq (gT ids x);obtain⟨M,r⟩:=exq (wi x 0 1099511627776);have n:Hid (M=true->0<=x/\x<=1099511627776):=aa (fun q=>bj.1 (by rw[<-r];exact q))
 have m:Hid (any=true->O=false->g - 64 < x):=aa (fun X q=>by
  have:=h.old x;rw[<-p,q,X]at this;have:¬x<=g - 64:=by simpa using this.symm
  omega)
 rw[<-s,<-p,<-r]at a;rw[<-s,<-p]at f;rw[<-p]at l;rw[<-r]at j;rw[<-s];clear o h s p r;cases any
 ·have b:Hid (V=false):=aa (a (.inl rfl));clear j l a f n m;go_enter Tryz.func127,Tryz.ntmps127
  go_wp2_with fail
  go_ret;exact⟨by rw[b.out];rfl,CT _ _⟩
 ·cases M
  ·have b:Hid (V=false):=aa (a (.inr (.inl rfl)));clear l a f n m;go_enter Tryz.func127,Tryz.ntmps127
   go_wp2_with fail
   refine j.mono ?_;rintro e d ⟨rfl,hw⟩;subst hw
   go_wp2_with fail
   go_ret;exact⟨by rw[b.out];rfl,CT _ _⟩
  ·obtain⟨ah,ai⟩:=n rfl;cases O
   ·have aj:=m rfl rfl;by_cases Q:g < x
    ·have b:Hid (V=false):=aa (a (.inr (.inr (.inr Q))));clear a f n m;go_enter Tryz.func127,Tryz.ntmps127
     go_wp2_with fail
     refine j.mono ?_;rintro e d ⟨rfl,hw⟩;subst hw
     go_wp2_with fail
     refine l.mono ?_;rintro e d ⟨rfl,hw⟩;subst hw
     go_wp2_with fail
     go_ret;exact⟨by rw[b.out];rfl,CT _ _⟩
    ·have b:Hid (V=c.testBit (g - x).toNat):=aa (f rfl rfl (by omega));clear a f n m;obtain⟨k,R⟩:=DK (show 0<=g - x by omega);obtain rfl:x=g - (k:Int):=by omega
     have T:k < 64:=by omega
     have S:g - (g - (k:Int))=(k:Int):=by omega
     have D:Hid ((g - (g - (k:Int))).toNat=k):=aa (by rw[S];exact Dy k);have L:=uR c E k;have ac:decide (g < g - (k:Int))=false:=decide_eq_false (by omega);have ag:IntKind.i64.wrap (k:Int)=(k:Int):=by rw[IntKind.wrap_i64];omega
     have af:=wQ c k T;rw[D.out]at b;obtain⟨Z,v⟩:∃Z:Int,Z=(if c.testBit k then 1 else 0):=⟨_,rfl⟩
     have F:Hid (V=decide (Z=1)):=aa (by
      rw[b.out,v]
      cases c.testBit k<;>rfl)
     rw[<-v]at L;clear R v;go_enter Tryz.func127,Tryz.ntmps127
     go_wp2_with fail
     refine j.mono ?_;rintro e d ⟨rfl,hw⟩;subst hw
     go_wp2_with fail
     refine l.mono ?_;rintro e d ⟨rfl,hw⟩;subst hw
     go_wp2_with fail
     apply aG 13 [28,29,30,31,32,33,34,35,36,37,38,39,40] [ar _,ar _,ar _,ar _,ar _,ar _,ar _,ar _,ar _,ar _,ar _,ar _,ar _] (by kernel_rfl) (by kernel_rfl) (by kernel_rfl) (by kernel_rfl);case hsteps=>
      refine⟨?_,?_,?_,?_,?_,?_,?_,?_,?_,?_,?_,?_,?_,trivial⟩;all_goals
       intro ev d t y N;have I:=y 0 (by decide);have J:=y 1 (by decide);clear y;simp only[sB]at I J;simp only[sD]at N;have A:=(ay t).1;have q1:=(A _ 1 B).trans G;have q2:=(A _ 2 B).trans H;simp only[dw,C8,if_true];go_simp;first | exact⟨CT _ _,rfl⟩ | exact⟨CT _ _,rfl⟩
     case hmono=>exact mL
     case hend=>
      intro u d t hend;simp only[sE]at hend;simp only[sF,hend];have C:=aa t;clear t hend
      go_wp2_with fail
      go_ret;refine⟨?_,C⟩;rw[F.out];rfl
   ·have b:Hid (V=false):=aa (a (.inr (.inr (.inl rfl))));clear a f n m;go_enter Tryz.func127,Tryz.ntmps127
    go_wp2_with fail
    refine j.mono ?_;rintro e d ⟨rfl,hw⟩;subst hw
    go_wp2_with fail
    refine l.mono ?_;rintro e d ⟨rfl,hw⟩;subst hw
    go_wp2_with fail
    go_ret;exact⟨by rw[b.out];rfl,CT _ _⟩
def zE (sb:Nat) (ids:List Int) (x:Int) (w':CP):Prop:=∃any g c,aw w' sb [.bool any,.int .i64 g,.int .u64 (c:Nat)]/\bV any g c (if eT ids x=true then ids++[x]else ids)
def yB (sb:Nat) (ids:List Int) (x:Int) (w w':CP):Prop:=zE sb ids x w'/\Kq (fun k=>k=sb) w w'
theorem lX (b:Nat) (any:Bool) (g:Int) (c:Nat) (ids:List Int) (x:Int) (w:CP) (hB:aw w b [.bool any,.int .i64 g,.int .u64 (c:Nat)]) (h:bV any g c ids):
  CZ CO 73 #[.pointer (some ⟨b,0,none⟩),.int .i64 x] w fun e w'=>e=.returned (.bool (eT ids x))/\yB b ids x w w':=by
 have C:=aa (oT x w);have D:=aa (oU b any g c ids x w hB h);have B:=aa (vn b any g c ids x w hB h);have m:=aa hB;have v:=aa h;obtain⟨O,Y⟩:=exq (gT ids x);obtain⟨M,X⟩:=exq (wi x 0 1099511627776);obtain⟨H,W⟩:=exq (jl ids x);have ao:=aa (Dj Y (Dj X W));have aA:(M=false\/O=true\/H=true)->eT ids x=false:=fun q=>lL (by rw[<-Y,<-X,<-W];exact q)
 have aD:M=true->O=false->H=false->eT ids x=true:=fun z t q3=>ry (by rw[<-X];exact z) (by rw[<-Y];exact t) (by rw[<-W];exact q3)
 have G:=aa aA;have S:=aa aD;rw[<-Y]at D;rw[<-X]at C;rw[<-W]at B;have I:Hid (eT ids x=false->∀a,au w a->yB b ids x w a):=aa (fun q a f=>⟨⟨any,g,c,m.ext f,by rw[if_neg (by rw[q];decide)];exact v⟩,Kq.AI f⟩);clear hB h Y X W aA aD;cases M
 ·have s:=G (.inl rfl);have R:=aa (I s);have o:=aa s;clear s D B G S I;go_enter Tryz.func73,Tryz.ntmps73
  go_wp2_with fail
  refine C.mono ?_;rintro e a ⟨rfl,hw⟩;subst hw
  go_wp2_with fail
  go_ret;exact⟨by rw[o.out];rfl,R _ (CT _ _)⟩
 cases O
 rotate_left
 ·have s:=G (.inr (.inl rfl));have R:=aa (I s);have o:=aa s;clear s B G S I;go_enter Tryz.func73,Tryz.ntmps73
  go_wp2_with fail
  refine C.mono ?_;rintro e a ⟨rfl,hw⟩;subst hw
  go_wp2_with fail
  refine D.mono ?_;rintro e a ⟨rfl,hw⟩;subst hw
  go_wp2_with fail
  go_ret;exact⟨by rw[o.out];rfl,R _ (CT _ _)⟩
 cases H
 rotate_left
 ·have s:=G (.inr (.inr rfl));have R:=aa (I s);have o:=aa s;clear s G S I;go_enter Tryz.func73,Tryz.ntmps73
  go_wp2_with fail
  refine C.mono ?_;rintro e a ⟨rfl,hw⟩;subst hw
  go_wp2_with fail
  refine D.mono ?_;rintro e a ⟨rfl,hw⟩;subst hw
  go_wp2_with fail
  refine B.mono ?_;rintro e a ⟨rfl,f⟩;have N:=aa f;clear f
  go_wp2_with fail
  go_ret;exact⟨by rw[o.out];rfl,R _ N⟩
 have o:=aa (S rfl rfl rfl);have Hx:=bj.1 ao.2.1.symm;have an:=aa ao.1.symm;obtain⟨aS,aT⟩:=v.Cw;have aK:=v.lt;obtain⟨aB,aC⟩:=Hx;clear G S I;by_cases L:any=false\/g < x
 ·have ax:0<=x - g:=by
   rcases L with q | q
   ·have:=v.Cg q;have:=v.gr;rw[v.out.Cg q]at this;have:g=0:=this;omega
   ·omega
  obtain⟨d,y⟩:∃d:Nat,d=min (x - g).toNat 64:=⟨_,rfl⟩;have E:=v.up ⟨aB,aC⟩ L y;obtain⟨T,ad⟩:∃T:Nat,T=(c*2^d) % 2^64:=⟨_,rfl⟩;obtain⟨n,J⟩:∃n:Nat,n=T||| 1:=⟨_,rfl⟩
  rw[<-ad,<-J]at E;have ag:=aa E;have av:(min (x - g) 64).toNat=d:=by rw[y];omega
  have aq:T < 2^64:=by rw[ad];exact Nat.mod_lt _ (by decide)
  have ae:bits .or .u64 (IntKind.u64.wrap ((c:Int)*2^(min (x - g) 64).toNat)) 1=(n:Int):=by rw[av,oB,<-ad,J];exact uT T 1 aq (by decide)
  have aW:IntKind.i64.wrap (x - g)=x - g:=by rw[IntKind.wrap_i64];omega
  have ak:=m.lt;have ah:Hid (∀a,au w a->a.cell? ⟨b,0,none⟩=some (.bool any)/\a.cell? ⟨b,1,none⟩=some (.int .i64 g)/\a.cell? ⟨b,2,none⟩=some (.int .u64 (c:Nat))):=aa fun a f=>⟨(m.ext f).cell rfl,(m.ext f).cell rfl,(m.ext f).cell rfl⟩
  have aL:(any=true->decide (g < x)=true):=fun q=>by
   rcases L with t | t
   ·rw[q]at t;cases t
   ·exact decide_eq_true t
  clear E y av ad J aq L;go_enter Tryz.func73,Tryz.ntmps73
  go_wp2_with fail
  refine C.mono ?_;rintro e a ⟨rfl,hw⟩;subst hw
  go_wp2_with fail
  refine D.mono ?_;rintro e a ⟨rfl,hw⟩;subst hw
  go_wp2_with fail
  refine B.mono ?_;rintro e a ⟨rfl,f⟩;obtain⟨q0,z,t⟩:=ah a f;have N:=aa f;have ab:Hid (∀A,aw A b [.bool any,.int .i64 g,.int .u64 (c:Nat)]->au a A->yB b ids x w (((A.setCell ⟨b,2,none⟩ (.int .u64 (n:Nat))).setCell ⟨b,0,none⟩ (.bool true)).setCell ⟨b,1,none⟩ (.int .i64 x))):=aa fun A aj h4=>by
   refine⟨⟨true,x,n,?_,?_⟩,?_⟩
   ·exact((aj.put (i:=2) (show 2 < 3 by decide) (.int .u64 (n:Nat))).put (i:=0) (show 0 < 3 by decide) (.bool true)).put (i:=1) (show 1 < 3 by decide) (.int .i64 x)
   ·rw[if_pos o.out];exact ag
   ·exact(((Kq.AI (N.trans h4)).setCell (Q:=fun k=>k=b) ⟨b,2,none⟩ rfl _).setCell ⟨b,0,none⟩ rfl _).setCell ⟨b,1,none⟩ rfl _
  have K:=(m.ext f).lt;have Z:=aa (m.ext f);clear f ak C D B;cases any
  ·go_wp2_with fail
   apply aG 16 [33,34,35,36,37,38,39,40,41,42,43,44,45,46,47,48] [ar _,ar _,ar _,ar _,ar _,ar _,ar _,ar _,ar _,ar _,ar _,ar _,ar _,ar _,ar _,ar _] (by kernel_rfl) (by kernel_rfl) (by kernel_rfl) (by kernel_rfl);case hsteps=>
    refine⟨?_,?_,?_,?_,?_,?_,?_,?_,?_,?_,?_,?_,?_,?_,?_,?_,trivial⟩;all_goals
     intro ev a l r y;have U:=r 0 (by decide);have V:=r 1 (by decide);clear r;simp only[sB]at U V;simp only[sD]at y;have F:=(ay l).1;have r1:=(F _ 1 K).trans z;have r2:=(F _ 2 K).trans t;simp only[dw,C8,if_true];go_simp;first | exact⟨CT _ _,rfl⟩ | exact⟨CT _ _,rfl⟩
   case hmono=>exact mL
   case hend=>
    intro u a l hend;simp only[sE]at hend;simp only[sF,hend];have j:=aa (Z.ext l);have P:=aa (ab a j l);have p0:=j.cell (i:=0) rfl;have p1:=j.cell (i:=1) rfl;have p2:=j.cell (i:=2) rfl;have f0:=j.fz (i:=0) (show 0 < 3 by decide);have f1:=j.fz (i:=1) (show 1 < 3 by decide);have f2:=j.fz (i:=2) (show 2 < 3 by decide);clear l hend q0 z ae
    go_wp2_with fail
    go_ret;exact⟨by rw[o.out];rfl,P⟩
  ·have aP:=aL rfl
   go_wp2_with fail
   apply aG 16 [33,34,35,36,37,38,39,40,41,42,43,44,45,46,47,48] [ar _,ar _,ar _,ar _,ar _,ar _,ar _,ar _,ar _,ar _,ar _,ar _,ar _,ar _,ar _,ar _] (by kernel_rfl) (by kernel_rfl) (by kernel_rfl) (by kernel_rfl);case hsteps=>
    refine⟨?_,?_,?_,?_,?_,?_,?_,?_,?_,?_,?_,?_,?_,?_,?_,?_,trivial⟩;all_goals
     intro ev a l r y;have U:=r 0 (by decide);have V:=r 1 (by decide);clear r;simp only[sB]at U V;simp only[sD]at y;have F:=(ay l).1;have r1:=(F _ 1 K).trans z;have r2:=(F _ 2 K).trans t;simp only[dw,C8,if_true];go_simp;first | exact⟨CT _ _,rfl⟩ | exact⟨CT _ _,rfl⟩
   case hmono=>exact mL
   case hend=>
    intro u a l hend;simp only[sE]at hend;simp only[sF,hend];have j:=aa (Z.ext l);have P:=aa (ab a j l);have p0:=j.cell (i:=0) rfl;have p1:=j.cell (i:=1) rfl;have p2:=j.cell (i:=2) rfl;have f0:=j.fz (i:=0) (show 0 < 3 by decide);have f1:=j.fz (i:=1) (show 1 < 3 by decide);have f2:=j.fz (i:=2) (show 2 < 3 by decide);clear l hend q0 z ae
    go_wp2_with fail
    go_ret;exact⟨by rw[o.out];rfl,P⟩
 ·have aI:any=true:=by
   cases any
   ·exact absurd (.inl rfl) L
   ·rfl
  have ax:x<=g:=by
   rcases Int.lt_or_le g x with q | q
   ·exact absurd (.inr q) L
   ·exact q
  subst aI;have ho:=v.old x;rw[an.out]at ho;have aR:¬x<=g - 64:=by simpa using ho.symm
  have E:=v.add ⟨aB,aC⟩ rfl an ax;obtain⟨k,hk⟩:=DK (show 0<=g - x by omega);rw[hk,Dy]at E;obtain⟨p,hp⟩:∃p:Nat,p=2^k:=⟨_,rfl⟩;obtain⟨n,J⟩:∃n:Nat,n=c||| p:=⟨_,rfl⟩
  rw[<-hp,<-J]at E;have ag:=aa E;have aJ:k < 64:=by omega
  have am:p < 2^64:=by rw[hp];exact Nat.pow_lt_pow_right (by decide) aJ
  have aV:IntKind.u64.wrap (2^k)=(p:Int):=by
   have h:=oB 1 k;have e:((1:Nat):Int)*2^k=2^k:=by simp
   rw[e,Nat.one_mul,<-hp,Nat.mod_eq_of_lt am]at h;exact h
  have ae:bits .or .u64 (c:Int) (p:Int)=(n:Int):=by rw[J];exact uT c p aK am
  have aU:IntKind.i64.wrap (k:Int)=(k:Int):=by rw[IntKind.wrap_i64];omega
  obtain rfl:x=g - (k:Int):=by omega
  have aQ:g - (g - (k:Int))=(k:Int):=by omega
  have aO:decide (g < g - (k:Int))=false:=decide_eq_false (by omega);have ak:=m.lt;have ah:Hid (∀a,au w a->a.cell? ⟨b,0,none⟩=some (.bool true)/\a.cell? ⟨b,1,none⟩=some (.int .i64 g)/\a.cell? ⟨b,2,none⟩=some (.int .u64 (c:Nat))):=aa fun a f=>⟨(m.ext f).cell rfl,(m.ext f).cell rfl,(m.ext f).cell rfl⟩
  clear E J hp am ho hk;go_enter Tryz.func73,Tryz.ntmps73
  go_wp2_with fail
  refine C.mono ?_;rintro e a ⟨rfl,hw⟩;subst hw
  go_wp2_with fail
  refine D.mono ?_;rintro e a ⟨rfl,hw⟩;subst hw
  go_wp2_with fail
  refine B.mono ?_;rintro e a ⟨rfl,f⟩;obtain⟨q0,z,t⟩:=ah a f;have N:=aa f;have ab:Hid (∀A,aw A b [.bool true,.int .i64 g,.int .u64 (c:Nat)]->au a A->yB b ids (g - (k:Int)) w (A.setCell ⟨b,2,none⟩ (.int .u64 (n:Nat)))):=aa fun A aj h4=>by
   refine⟨⟨true,g,n,aj.put (i:=2) (show 2 < 3 by decide) (.int .u64 (n:Nat)),?_⟩,?_⟩
   ·rw[if_pos o.out];exact ag
   ·exact(Kq.AI (N.trans h4)).setCell (Q:=fun k=>k=b) ⟨b,2,none⟩ rfl _
  have K:=(m.ext f).lt;have Z:=aa (m.ext f);clear f ak C D B
  go_wp2_with fail
  apply aG 14 [56,57,58,59,60,61,62,63,64,65,66,67,68,69] [ar _,ar _,ar _,ar _,ar _,ar _,ar _,ar _,ar _,ar _,ar _,ar _,ar _,ar _] (by kernel_rfl) (by kernel_rfl) (by kernel_rfl) (by kernel_rfl);case hsteps=>
   refine⟨?_,?_,?_,?_,?_,?_,?_,?_,?_,?_,?_,?_,?_,?_,trivial⟩;all_goals
    intro ev a l r y;have U:=r 0 (by decide);have V:=r 1 (by decide);clear r;simp only[sB]at U V;simp only[sD]at y;have F:=(ay l).1;have r1:=(F _ 1 K).trans z;have r2:=(F _ 2 K).trans t;simp only[dw,C8,if_true];go_simp;first | exact⟨CT _ _,rfl⟩ | exact⟨CT _ _,rfl⟩
  case hmono=>exact mL
  case hend=>
   intro u a l hend;simp only[sE]at hend;simp only[sF,hend];have j:=aa (Z.ext l);have P:=aa (ab a j l);have p2:=j.cell (i:=2) rfl;have f2:=j.fz (i:=2) (show 2 < 3 by decide);clear l hend q0 z ae
   go_wp2_with fail
   go_ret;exact⟨by rw[o.out];rfl,P⟩
theorem eR.wide {N Q:Nat->Prop} {w:CP} {mp:List (Int × CQ)} {s:bL} (h:eR N Q w b m sb mp s):eR (fun i=>N i\/w.heap.size<=i) Q w b m sb mp s:=
 h.kept (Q2:=fun _=>False) (Kq.refl w) (fun _ q=>q.elim) fun _ q=>q
theorem eR.fin {N Q:Nat->Prop} {w a w':CP} {mp:List (Int × CQ)} {s:bL} {X:Nat} (h:eR (fun i=>N i\/w.heap.size<=i) Q a b m sb mp s) (e:∀i,Q i->N i) (f:∀i,N i->i < w.heap.size) (g:Kq Q w a) (k:Kq (fun i=>i=X) a w') (j:w.heap.size<=X) (d:∀i,(Q i\/i=b)->i < w.heap.size):iI N Q w w' b s:=by
 have c:Kq Q w w':=by
  have h1:Kq (fun i=>Q i\/i=X) w w':=(g.mono fun i _ q=>.inl q).trans (k.mono fun i _ q=>.inr q);exact h1.mono fun i l q=>by
   rcases q with q | q
   ·exact q
   ·omega
 exact⟨c,N,Q,⟨m,sb,mp,h.kept k (fun i q=>⟨.inr (by omega),fun r=>by have:=d i (.inl r);omega,fun r=>by have:=d i (.inr r);omega⟩) fun i q=>.inl (.inl q)⟩,fun i q=>.inl q,fun i q=>q,fun i q=>q,e,fun i q=>.inl q,fun i q=>Dd (f i q) c.size⟩
def vt (ps:List (List Int)) (B:Nat) (v:CQ) (w':CP):Prop:=∃(g:Nat) (M:List Bv),v=.slice (some ⟨g,0,none⟩) ps.length ps.length/\B<=g/\Pk w' g 1 v M.length (aD cB M)/\(∀y∈M,ju (fun k=>g < k) w' y)/\M.map (·.2)=ps/\g < w'.heap.size
def vv (N:Nat->Prop) (w:CP) (v:CQ) (l:BC):Prop:=∃vp vs vb L,v=.agg (cL l vp vs vb).toArray/\cn (fun k=>¬N k) w l vp vs vb L
theorem vv.CJ {N:Nat->Prop} {w:CP} {v:CQ} {l:BC} (h:vv N w v l):eg w v l:=by
 obtain⟨vp,vs,vb,L,rfl,a⟩:=h;exact⟨_,vp,vs,vb,L,rfl,a.BH⟩
theorem vv.kept {N a:Nat->Prop} {w w':CP} {v:CQ} {l:BC} (h:vv N w v l) (c:∀k,¬N k->k < w.heap.size->¬a k/\w'.heap[k]? =w.heap[k]?):vv a w' v l:=by
 obtain⟨vp,vs,vb,L,rfl,b⟩:=h;exact⟨vp,vs,vb,L,rfl,b.kept c⟩
theorem sT (b:Nat) (N Q:Nat->Prop) (s:bL) (v:CQ) (l:BC) (w:CP) (hS:gx N Q w b s) (a3:∀i,Q i->N i) (bD:∀i,N i->i < w.heap.size) (hL:vv N w v l) (hc:aR l=0) (hk:l.kind=1) (st:List (List Int)) (M:bn s l.obj=some st):
  CZ CO 37 #[.pointer (some ⟨b,0,none⟩),v] w fun e w'=>e=.returned (.agg (cL (eE s l) ag ag ag).toArray)/\iI N Q w w' b (fF s l):=by
 obtain⟨vp,vs,vb,L,rfl,a2⟩:=hL;have a7:=a2.BH;obtain⟨m,j,mp,bE⟩:=hS;have hR:=bE.wide;have a6:=a7.bl;have a5:=a7.BJ;obtain⟨t,p,cb,_,_⟩:=aU.form a6;subst cb;obtain⟨E,H⟩:=exq ((w.alloc (.cells (cL l vp vs (.slice t l.blocks.length p)).toArray 26)).alloc (.cells zL 26));have bB:=ae w (.cells (cL l vp vs (.slice t l.blocks.length p)).toArray 26);have aZ:=bB.trans (ae (w.alloc (.cells (cL l vp vs (.slice t l.blocks.length p)).toArray 26)) (.cells zL 26));have aX:aw E w.heap.size (cL l vp vs (.slice t l.blocks.length p)):=by rw[H];exact(aw.box w 26 (bR _ _ _ _)).ext (ae _ _)
 have al:aw E (w.heap.size+1) zL.toList:=by rw[H];exact fQ w _ zL.toList _ _ (fun h=>by cases h)
 rw[<-H]at aZ;obtain⟨aj,Z⟩:=aw.fresh (cs:=cL (fc l) ag ag ag) E 26 zL rfl (bR _ _ _ _);have aS:=aa (aH (P:=CO) (cs:=cL (fc l) ag ag ag) E 26 zL rfl (bk ⟨_,_,_,rfl⟩ ⟨_,_,_,rfl⟩ ⟨_,_,_,rfl⟩) (ty:=26) (by kernel_rfl));obtain⟨W,an⟩:=exq ((E.alloc (.cells zL 26)).setCells E.heap.size 0 (cL (fc l) ag ag ag));rw[<-an]at aj Z;have bQ:E.heap.size=w.heap.size+1+1:=by rw[H,C4,C4]
 obtain⟨A0,aW⟩:=exq (w.heap.size+1+1);rw[bQ,<-aW]at an aj aS;have bN:=al.lt;obtain⟨n,hR0⟩:=exq (w.heap.size+1);obtain⟨P0,a4⟩:=exq w.heap.size;rw[<-hR0]at al bN;rw[<-a4]at aX;have aE:Hid (au w W):=aa (aZ.trans Z);have bm:=aa aj;have R:=aa (aX.ext Z);have bo:=aa (al.ext Z);have o:=aa (hR.ext aE);have bU:=aa aW;have z:Hid (P0=w.heap.size/\n=w.heap.size+1/\n < A0/\w.heap.size<=A0):=aa ⟨a4,hR0,by omega,by omega⟩;have V:Hid (∀i,(Q i\/i=b)->i < w.heap.size):=aa fun i hi=>by
  rcases hi with q | q
  ·exact hR.sz i q
  ·rw[q];exact hR.bx.lt
 have aJ:=aa a3;have aK:=aa bD;have bs:Hid (∀i,Q i->(N i\/w.heap.size<=i)):=aa fun i q=>.inl (a3 i q)
 have bZ:Hid (cn (fun k=>¬(N k\/w.heap.size<=k)) W l vp vs (.slice t l.blocks.length p) L):=aa (a2.kept fun b A hl=>⟨fun q=>by
  rcases q with q | q
  ·exact A q
  ·omega,aE.block b hl⟩)
 have cg:=aa (Dj a6 a5);have ch:=aa (qu hc hk a5);obtain⟨v0,a9,bM⟩:=hR.some M;obtain⟨p0,Y,ca,_,_⟩:=aU.form bM.BF;subst ca;have bv:Hid (∀f,eR (fun i=>N i\/w.heap.size<=i) Q f b m j mp ⟨s.AT,fx s l⟩->aU f (.slice p0 st.length Y) st/\∀x∈st,bI x):=aa fun f h2=>by
  obtain⟨bT,h3,h4⟩:=h2.row a9;have:bT=st:=by have h5:bn s l.obj=some bT:=h3;rw[M]at h5;exact(Ei h5).symm
  subst this;exact⟨h4.BF,h4.Cp⟩
 have aO:Hid (fF s l=⟨s.AT,fx s l⟩):=aa (by unfold fF;rw[M]);have bu:Hid ((eT s.ids l.id=false\/st=l.blocks)->eE s l=fc l):=aa fun q=>by unfold eE;rw[M];simp only;rw[if_pos q]
 have b2:Hid (eT s.ids l.id=true->¬st=l.blocks->eE s l=dh l 10):=aa fun q1 q2=>by unfold eE;rw[M];simp only;rw[if_neg (by rw[q1];simp[q2])];rfl
 have bH:=o.bx.cell (i:=0) (v:=.map (some m)) rfl;have bJ:=o.bx.lt;have bf:=R.cell (i:=2) (v:=.int .i64 l.obj) rfl;have bS:=R.lt;have aM:Hid (∀f,au W f->(ER 84 (.map (some m)) (.int .i64 l.obj) true).run CO f=.ok (.tuple #[.slice p0 st.length Y,.bool true]) f):=aa fun f h2=>by
  have hz:(zeroValue 22).run CO f=.ok (.slice none 0 0) f:=by first | rfl | kernel_rfl | (simp[go_sem];done)
  have h:=(o.mt.ext h2).lookup (P:=CO) D7 DP hz l.obj;rw[a9]at h;exact h
 have bw:=aa o.sn;obtain⟨any,g,c,bO,be⟩:=bw.out;have b3:=aa (Dj bO be);have aP:Hid (∀f,Kq (fun k=>k=j) W f->f.cell? ⟨b,1,none⟩=some (.pointer (some ⟨j,0,none⟩))/\f.cell? ⟨P0,1,none⟩=some (.int .i64 l.id)):=aa fun f hK=>by have h1:=hK.box (X:=b) (fun q=>o.qb (q▸o.out.qs)) o.bx;have h2:=hK.box (X:=P0) (fun q=>by have:=V j (.inl o.qs);have:=z.out;omega) R;exact⟨h1.cell (i:=1) rfl,h2.cell (i:=1) rfl⟩
 obtain⟨F,hF⟩:=exq (eT s.ids l.id);have HF:=aa hF;have aG:Hid (∀f,aw f j [.bool any,.int .i64 g,.int .u64 (c:Nat)]->CZ CO 73 #[.pointer (some ⟨j,0,none⟩),.int .i64 l.id] f fun e w'=>e=.returned (.bool F)/\yB j s.ids l.id f w'):=aa fun f h2=>by have h:=lX j any g c s.ids l.id f h2 be;rw[<-hF]at h;exact h
 obtain⟨oj,bd⟩:=exq l.obj;obtain⟨li,bc⟩:=exq l.id;have b1:=aa (Dj bd bc);rw[<-bc]at aG aP;rw[<-bd]at aM bf;unfold cL at H;clear a7 a2 bE a6 a5 bB aZ aX al aj Z bN aW bQ hR0 a4 hR a3 bD hc hk bO be hF bw bd bc a9 M bM;show CZ CO 37 #[.pointer (some ⟨b,0,none⟩),.agg #[.int .i64 l.kind,.int .i64 l.id,.int .i64 l.obj,vp,vs,.int .i64 l.BE,.int .i64 l.BG,.slice t l.blocks.length p,.int .i64 l.code]] w _;go_enter Tryz.func37,Tryz.ntmps37
 go_wp2_with (with_reducible refine aC (ty:=26) ?_)
 rw[<-H];rw[show w.heap.size+1+1=A0 from bU.out.symm,show w.heap.size+1=n from z.out.2.1.symm,show w.heap.size=P0 from z.out.1.symm];refine ax ?_;refine ak rfl rfl aS ?_;rw[<-an];clear H an aS
 go_wp2_with fail
 apply az (au) (fun _ _ _=>True) 12 [15,16,17,18,19,20,21,14,22,23,6,7] [ar _,ar _,ar _,ar _,ar _,ar _,ar _,ar _,ar _,ar _,ar _,ar _] (fun w=>CT _ w) (fun a b c h k=>au.trans h k) (by kernel_rfl) (by kernel_rfl) (by kernel_rfl) (by kernel_rfl);case hsteps=>
  refine⟨?_,?_,?_,?_,?_,?_,?_,?_,?_,?_,?_,?_,trivial⟩;all_goals
   intro d ev y r B T U O A hd;replace T:=aa T;replace B:=aa B;replace U:=aa U;replace O:=aa O;have e0:=A 0 (by decide);have e3:=A 3 (by decide);clear A;simp only[sB]at e0 e3;simp only[sG]at hd;have hc:=(ay r).1;have Y:=(hc _ 0 bJ).trans bH;have c2:=(hc _ 2 bS).trans bf;have lk:=aM _ r;simp only[C8,if_true];go_simp;first | exact⟨CT _ _,rfl,trivial⟩ | exact⟨CT _ _,rfl⟩ | exact CT _ _
 case hmono=>exact mR
 case hR0=>exact(CT _ _).drew
 case hend=>
  intro u y r hJ hend;simp only[sE]at hend;simp only[sF,hend];have ah:=aa r;have bP:=b3.1.ext r;have aL:=aa bP;obtain⟨W3,bF⟩:=exq y;rw[<-bF]at ah aL⊢;clear r hend hJ bH bJ bf bS aM bP bF
  go_wp2_with fail
  apply az (Kq (fun k=>k=j)) (HJ 6 (fun w'=>aw w' j [.bool any,.int .i64 g,.int .u64 (c:Nat)]) (fun w'=>zE j s.ids li w')) 7 [24,25,26,27,28,29,30] [ar _,ar _,ar _,ar _,ar _,ar _,ar _] (fun w=>Kq.refl w) (fun a b c h k=>Kq.trans h k) (by kernel_rfl) (by kernel_rfl) (by kernel_rfl) (by kernel_rfl);case hsteps=>
   refine⟨?_,?_,?_,?_,?_,?_,?_,trivial⟩;all_goals
    intro d ev y r B T U O A hd;replace T:=aa T;replace B:=aa B;replace U:=aa U;replace O:=aa O;have e0:=A 0 (by decide);have e3:=A 3 (by decide);clear A;simp only[sB]at e0 e3;simp only[sG]at hd;have q3:=aP _ ((Kq.AI ah).trans r);have Y:=q3.1;have c1:=q3.2;clear q3;rw[if_pos (rfl:C8 _ _=true)];go_simp;first | exact⟨Kq.refl _,rfl,HJ.same (by decide) B⟩ | (go_at_call 73;(with_reducible refine(aG.out y (HJ.get B.out O.out)).mono ?_);rintro e f ⟨rfl,k1⟩;exact⟨_,rfl,k1.2,rfl,HJ.set k1.1⟩) | exact⟨CT _ _,rfl,HJ.same (by decide) B⟩
  case hmono=>exact mR
  case hR0=>exact Kq.drew _
  case hend=>
   intro u y r hJ hend;simp only[sE]at hend;simp only[sF,hend];have b7:=HJ.B5 hJ rfl;have C:Hid (Kq (fun k=>k=j) W y):=aa ((Kq.AI ah).trans r);obtain⟨cj,g',c',k1,k2⟩:=b7;rw[b1.out.2]at k2;have S:Hid (eR (fun i=>N i\/w.heap.size<=i) Q y b m j mp ⟨s.AT,fx s l⟩):=aa (o.ids bs C k1 k2);have aF:Hid (Kq Q w y):=aa ((Kq.AI aE).trans (C.mono fun i _ q=>q▸o.out.qs));have ap:∀X,w.heap.size<=X->X≠j:=fun X hX q=>by have:=V j (.inl o.qs);omega
   have aq:=aa (C.box (ap A0 z.2.2.2) bm);have aA:=aa (C.box (ap P0 (by rw[z.out.1];exact CU _)) R);have aD:=aa (C.box (ap n (by rw[z.out.2.1];omega)) bo);have af:Hid (iE y (cL l vp vs (.slice t l.blocks.length p)) l vp vs (.slice t l.blocks.length p) L):=aa (cn.BH (bZ.kept (F':=fun _=>True) fun i hi hl=>⟨trivial,C.block i hl fun q=>hi (bs i (q▸o.out.qs))⟩));obtain⟨W4,bG⟩:=exq y;rw[<-bG]at S aF aq aA aD af⊢;clear r hend hJ ap k1 k2 aL ah C bm R bo aP aG bG;cases F
   ·have av:=aq;have I:=aD;have aN:=aa (av.load (P:=CO) C5 rfl (by kernel_rfl));have aQ:=aa (I.store (P:=CO) (cs':=cL (fc l) ag ag ag) rfl (bk ⟨_,_,_,rfl⟩ ⟨_,_,_,rfl⟩ ⟨_,_,_,rfl⟩) (ty:=26) (by kernel_rfl));have J:=aa (I.set (cs':=cL (fc l) ag ag ag) rfl);have aI:Hid (Kq (fun k=>k=n) W4 (W4.setCells n 0 (cL (fc l) ag ag ag))):=aa ((Kq.refl W4).setCells (Q:=fun k=>k=n) rfl 0 _)
    go_wp2_with first | refine ao rfl aN ?_ | refine ak rfl rfl aQ ?_
    refine De (v:=.agg (cL (fc l) ag ag ag).toArray) (aB rfl rfl (J.loadVar (P:=CO) C5 rfl (by kernel_rfl))) rfl ⟨?_,?_⟩
    ·rw[bu.out (.inl HF.out.symm)]
    ·rw[aO.out];exact S.fin aJ aK aF aI (by rw[z.out.2.1];omega) V
   ·have q7:=aA.cell (i:=7) (v:=.slice t l.blocks.length p) rfl
    go_wp2_with fail
    refine(oN (.slice p0 st.length Y) (.slice t l.blocks.length p) st l.blocks W4 (bv _ S).1 af.bl (bv _ S).2 af.BJ).mono ?_;rintro e K ⟨rfl,G⟩;obtain⟨D,hD⟩:=exq (decide (st=l.blocks));have HD:=aa hD;rw[<-hD];have av:=aa (aq.ext G);have bV:=aa (aA.ext G);have I:=aa (aD.ext G);have bt:=aa (S.ext G);have bp:Hid (Kq Q w K):=aa (aF.trans (Kq.AI G));have bY:Hid (eg K (.agg (cL l vp vs (.slice t l.blocks.length p)).toArray) l):=aa ⟨_,vp,vs,_,L,rfl,af.ext G⟩;clear G hD q7;cases D
    ·have b0:=aa (bV.load (P:=CO) C5 rfl (by kernel_rfl))
     go_wp2_with refine ao rfl b0 ?_
     refine(dK _ l 10 K bY).mono ?_;rintro e w6 ⟨rfl,a0⟩;have bq:=aa a0;have J:=aa (I.ext a0);clear a0;have b4:=aa (J.store (P:=CO) (cs':=cL (dh l 10) ag ag ag) rfl (bk ⟨_,_,_,rfl⟩ ⟨_,_,_,rfl⟩ ⟨_,_,_,rfl⟩) (ty:=26) (by kernel_rfl));have bW:=aa (J.set (cs':=cL (dh l 10) ag ag ag) rfl);have bX:Hid (Kq (fun k=>k=n) w6 (w6.setCells n 0 (cL (dh l 10) ag ag ag))):=aa ((Kq.refl w6).setCells (Q:=fun k=>k=n) rfl 0 _)
     go_wp2_with refine ak rfl rfl b4 ?_
     refine De (v:=.agg (cL (dh l 10) ag ag ag).toArray) (aB rfl rfl (bW.loadVar (P:=CO) C5 rfl (by kernel_rfl))) rfl ⟨?_,?_⟩
     ·rw[b2.out HF.out.symm (of_decide_eq_false HD.out.symm)]
     ·rw[aO.out];exact(bt.ext bq).fin aJ aK (bp.trans (Kq.AI bq)) bX (by rw[z.out.2.1];omega) V
    ·have aN:=aa (av.load (P:=CO) C5 rfl (by kernel_rfl));have aQ:=aa (I.store (P:=CO) (cs':=cL (fc l) ag ag ag) rfl (bk ⟨_,_,_,rfl⟩ ⟨_,_,_,rfl⟩ ⟨_,_,_,rfl⟩) (ty:=26) (by kernel_rfl));have J:=aa (I.set (cs':=cL (fc l) ag ag ag) rfl);have aI:Hid (Kq (fun k=>k=n) K (K.setCells n 0 (cL (fc l) ag ag ag))):=aa ((Kq.refl K).setCells (Q:=fun k=>k=n) rfl 0 _)
     go_wp2_with first | refine ao rfl aN ?_ | refine ak rfl rfl aQ ?_
     refine De (v:=.agg (cL (fc l) ag ag ag).toArray) (aB rfl rfl (J.loadVar (P:=CO) C5 rfl (by kernel_rfl))) rfl ⟨?_,?_⟩
     ·rw[bu.out (.inr (of_decide_eq_true HD.out.symm))]
     ·rw[aO.out];exact bt.fin aJ aK bp aI (by rw[z.out.2.1];omega) V
  case hJ0=>exact HJ.start (aL.ext (CT _ _).drew)
 case hJ0=>trivial
theorem sU (b:Nat) (N Q:Nat->Prop) (s:bL) (v:CQ) (l:BC) (w:CP) (hS:gx N Q w b s) (bj:∀i,Q i->N i) (bY:∀i,N i->i < w.heap.size) (hL:vv N w v l) (hc:aR l=0) (J:l.kind=1) (hg:bn s l.obj=none):
  CZ CO 37 #[.pointer (some ⟨b,0,none⟩),v] w fun e w'=>e=.returned (.agg (cL (eE s l) ag ag ag).toArray)/\iI N Q w w' b (fF s l):=by
 obtain⟨vp,vs,vb,L,rfl,bi⟩:=hL;have aY:=bi.BH;obtain⟨m,n,mp,bZ⟩:=hS;have Z:=bZ.wide;have bp:=aY.bl;have bo:=aY.BJ;obtain⟨z,t,cD,_,_⟩:=aU.form bp;subst cD;obtain⟨V,ab⟩:=exq ((w.alloc (.cells (cL l vp vs (.slice z l.blocks.length t)).toArray 26)).alloc (.cells zL 26));have bV:=ae w (.cells (cL l vp vs (.slice z l.blocks.length t)).toArray 26);have bf:=bV.trans (ae (w.alloc (.cells (cL l vp vs (.slice z l.blocks.length t)).toArray 26)) (.cells zL 26));have be:aw V w.heap.size (cL l vp vs (.slice z l.blocks.length t)):=by rw[ab];exact(aw.box w 26 (bR _ _ _ _)).ext (ae _ _)
 have aV:aw V (w.heap.size+1) zL.toList:=by rw[ab];exact fQ w _ zL.toList _ _ (fun h=>by cases h)
 rw[<-ab]at bf;obtain⟨aT,aE⟩:=aw.fresh (cs:=cL (fc l) ag ag ag) V 26 zL rfl (bR _ _ _ _);have bc:=aa (aH (P:=CO) (cs:=cL (fc l) ag ag ag) V 26 zL rfl (bk ⟨_,_,_,rfl⟩ ⟨_,_,_,rfl⟩ ⟨_,_,_,rfl⟩) (ty:=26) (by kernel_rfl));obtain⟨W2,aW⟩:=exq ((V.alloc (.cells zL 26)).setCells V.heap.size 0 (cL (fc l) ag ag ag));rw[<-aW]at aT aE;have b7:V.heap.size=w.heap.size+1+1:=by rw[ab,C4,C4]
 obtain⟨A0,bd⟩:=exq (w.heap.size+1+1);rw[b7,<-bd]at aW aT bc;have b4:=aV.lt;obtain⟨j,hR0⟩:=exq (w.heap.size+1);obtain⟨P0,bm⟩:=exq w.heap.size;rw[<-hR0]at aV b4;rw[<-bm]at be;have a3:Hid (au w W2):=aa (bf.trans aE);have bC:=aa aT;have al:=aa (be.ext aE);have bE:=aa (aV.ext aE);have E:=aa (Z.ext a3);have ca:=aa bd;have A:Hid (P0=w.heap.size/\j=w.heap.size+1/\j < A0/\w.heap.size<=A0):=aa ⟨bm,hR0,by omega,by omega⟩;have af:Hid (∀i,(Q i\/i=b)->i < w.heap.size):=aa fun i hi=>by
  rcases hi with q | q
  ·exact Z.sz i q
  ·rw[q];exact Z.bx.lt
 have a7:=aa bj;have a8:=aa bY;have bH:Hid (∀i,Q i->(N i\/w.heap.size<=i)):=aa fun i q=>.inl (bj i q)
 have ci:Hid (cn (fun k=>¬(N k\/w.heap.size<=k)) W2 l vp vs (.slice z l.blocks.length t) L):=aa (bi.kept fun b C hl=>⟨fun q=>by
  rcases q with q | q
  ·exact C q
  ·omega,a3.block b hl⟩)
 have cG:=aa (Dj bp bo);have bK:=aa (qu hc J bo);have br:=Z.none hg;have bN:Hid (4<=mp.length->fF s l=⟨s.AT,fx s l⟩/\eE s l=dh l 12):=aa fun q=>by
  have q2:4<=s.AT.length:=by rw[<-Z.ln];exact q
  unfold fF eE;rw[hg];simp only;rw[if_pos q2,if_pos q2];exact⟨rfl,rfl⟩
 have bO:Hid (¬4<=mp.length->fF s l=⟨s.AT++[(l.obj,l.blocks)],fx s l⟩/\eE s l=fc l):=aa fun q=>by
  have q2:¬4<=s.AT.length:=by rw[<-Z.ln];exact q
  unfold fF eE;rw[hg];simp only;rw[if_neg q2,if_neg q2];exact⟨rfl,rfl⟩
 have bM:Hid (bn s l.obj=none/\dF mp l.obj=none):=aa ⟨hg,br⟩;have cA:=aY.bl;have cb:Hid (∀f,iE f (cL l vp vs (.slice z l.blocks.length t)) l vp vs (.slice z l.blocks.length t) L->CZ CO 48 #[.slice z l.blocks.length t] f fun e w'=>y9 l.blocks f e w'):=aa fun f h2=>gU _ l.blocks f h2.bl h2.BJ (by have:=bK.2.1;omega) (fun x hx=>by have:=(bK.2.2 x hx).1;omega)
 clear cA;have aF:=E.bx.cell (i:=0) (v:=.map (some m)) rfl;have aX:=E.bx.lt;have aj:=al.cell (i:=2) (v:=.int .i64 l.obj) rfl;have a1:=al.lt;have ba:Hid (∀f,au W2 f->(ER 84 (.map (some m)) (.int .i64 l.obj) true).run CO f=.ok (.tuple #[.slice none 0 0,.bool false]) f):=aa fun f h2=>by
  have hz:(zeroValue 22).run CO f=.ok (.slice none 0 0) f:=by first | rfl | kernel_rfl | (simp[go_sem];done)
  have h:=(E.mt.ext h2).lookup (P:=CO) D7 DP hz l.obj;rw[br]at h;exact h
 have bP:=aa E.sn;obtain⟨any,g,c,b5,bz⟩:=bP.out;have cp:=aa (Dj b5 bz);have bb:Hid (∀f,Kq (fun k=>k=n) W2 f->f.cell? ⟨b,1,none⟩=some (.pointer (some ⟨n,0,none⟩))/\f.cell? ⟨P0,1,none⟩=some (.int .i64 l.id)):=aa fun f hK=>by have h1:=hK.box (X:=b) (fun q=>E.qb (q▸E.out.qs)) E.bx;have h2:=hK.box (X:=P0) (fun q=>by have:=af n (.inl E.qs);have:=A.out;omega) al;exact⟨h1.cell (i:=1) rfl,h2.cell (i:=1) rfl⟩
 obtain⟨F,hF⟩:=exq (eT s.ids l.id);have HF:=aa hF;have a4:Hid (∀f,aw f n [.bool any,.int .i64 g,.int .u64 (c:Nat)]->CZ CO 73 #[.pointer (some ⟨n,0,none⟩),.int .i64 l.id] f fun e w'=>e=.returned (.bool F)/\yB n s.ids l.id f w'):=aa fun f h2=>by have h:=lX n any g c s.ids l.id f h2 bz;rw[<-hF]at h;exact h
 obtain⟨oj,bw⟩:=exq l.obj;obtain⟨li,bu⟩:=exq l.id;have cm:=aa (Dj bw bu);rw[<-bu]at a4 bb;rw[<-bw]at ba aj;unfold cL at ab;clear aY bi bZ bp bo bV bf be aV aT aE b4 bd b7 hR0 bm Z bj bY hc J b5 bz hF bP bw bu br hg;show CZ CO 37 #[.pointer (some ⟨b,0,none⟩),.agg #[.int .i64 l.kind,.int .i64 l.id,.int .i64 l.obj,vp,vs,.int .i64 l.BE,.int .i64 l.BG,.slice z l.blocks.length t,.int .i64 l.code]] w _;go_enter Tryz.func37,Tryz.ntmps37
 go_wp2_with (with_reducible refine aC (ty:=26) ?_)
 rw[<-ab];rw[show w.heap.size+1+1=A0 from ca.out.symm,show w.heap.size+1=j from A.out.2.1.symm,show w.heap.size=P0 from A.out.1.symm];refine ax ?_;refine ak rfl rfl bc ?_;rw[<-aW];clear ab aW bc
 go_wp2_with fail
 apply az (au) (fun _ _ _=>True) 12 [15,16,17,18,19,20,21,14,22,23,6,7] [ar _,ar _,ar _,ar _,ar _,ar _,ar _,ar _,ar _,ar _,ar _,ar _] (fun w=>CT _ w) (fun a b c h k=>au.trans h k) (by kernel_rfl) (by kernel_rfl) (by kernel_rfl) (by kernel_rfl);case hsteps=>
  refine⟨?_,?_,?_,?_,?_,?_,?_,?_,?_,?_,?_,?_,trivial⟩;all_goals
   intro d ev o p B R S O C hd;replace R:=aa R;replace B:=aa B;replace S:=aa S;replace O:=aa O;have e0:=C 0 (by decide);have e3:=C 3 (by decide);clear C;simp only[sB]at e0 e3;simp only[sG]at hd;have hc:=(ay p).1;have c0:=(hc _ 0 aX).trans aF;have c2:=(hc _ 2 a1).trans aj;have lk:=ba _ p;simp only[C8,if_true];go_simp;first | exact⟨CT _ _,rfl,trivial⟩ | exact⟨CT _ _,rfl⟩ | exact CT _ _
 case hmono=>exact mR
 case hR0=>exact(CT _ _).drew
 case hend=>
  intro u o p W hend;simp only[sE]at hend;simp only[sF,hend];have aQ:=aa p;have b6:=cp.1.ext p;have a9:=aa b6;obtain⟨W3,b0⟩:=exq o;rw[<-b0]at aQ a9⊢;clear p hend W aF aX aj a1 ba b6 b0
  go_wp2_with fail
  apply az (Kq (fun k=>k=n)) (HJ 6 (fun w'=>aw w' n [.bool any,.int .i64 g,.int .u64 (c:Nat)]) (fun w'=>zE n s.ids li w')) 7 [24,25,26,27,28,29,30] [ar _,ar _,ar _,ar _,ar _,ar _,ar _] (fun w=>Kq.refl w) (fun a b c h k=>Kq.trans h k) (by kernel_rfl) (by kernel_rfl) (by kernel_rfl) (by kernel_rfl);case hsteps=>
   refine⟨?_,?_,?_,?_,?_,?_,?_,trivial⟩;all_goals
    intro d ev o p B R S O C hd;replace R:=aa R;replace B:=aa B;replace S:=aa S;replace O:=aa O;have e0:=C 0 (by decide);have e3:=C 3 (by decide);clear C;simp only[sB]at e0 e3;simp only[sG]at hd;have T:=bb _ ((Kq.AI aQ).trans p);have c0:=T.1;have c1:=T.2;clear T;rw[if_pos (rfl:C8 _ _=true)];go_simp;first | exact⟨Kq.refl _,rfl,HJ.same (by decide) B⟩ | (go_at_call 73;(with_reducible refine(a4.out o (HJ.get B.out O.out)).mono ?_);rintro e f ⟨rfl,D⟩;exact⟨_,rfl,D.2,rfl,HJ.set D.1⟩) | exact⟨CT _ _,rfl,HJ.same (by decide) B⟩
  case hmono=>exact mR
  case hR0=>exact Kq.drew _
  case hend=>
   intro u o p W hend;simp only[sE]at hend;simp only[sF,hend];have cv:=HJ.B5 W rfl;have U:Hid (Kq (fun k=>k=n) W2 o):=aa ((Kq.AI aQ).trans p);obtain⟨cI,g',c',D,I⟩:=cv;rw[cm.out.2]at I;have ac:Hid (eR (fun i=>N i\/w.heap.size<=i) Q o b m n mp ⟨s.AT,fx s l⟩):=aa (E.ids bH U D I);have aO:Hid (Kq Q w o):=aa ((Kq.AI a3).trans (U.mono fun i _ q=>q▸E.out.qs));have a0:∀X,w.heap.size<=X->X≠n:=fun X hX q=>by have:=af n (.inl E.qs);omega
   have bD:=aa (U.box (a0 A0 A.2.2.2) bC);have am:=aa (U.box (a0 P0 (by rw[A.out.1];exact CU _)) al);have an:=aa (U.box (a0 j (by rw[A.out.2.1];omega)) bE);have a6:Hid (iE o (cL l vp vs (.slice z l.blocks.length t)) l vp vs (.slice z l.blocks.length t) L):=aa (cn.BH (ci.kept (F':=fun _=>True) fun i hi hl=>⟨trivial,U.block i hl fun q=>hi (bH i (q▸E.out.qs))⟩));obtain⟨G,b1⟩:=exq o;rw[<-b1]at ac aO bD am an a6⊢;clear p hend W a0 D I a9 aQ U bC al bE bb a4 b1;have aF:=ac.bx.cell (i:=0) (v:=.map (some m)) rfl;obtain⟨K,hK⟩:=exq mp.length;have cC:∀ty,(Builtin.len_ #[84] ty #[.map (some m)]).run CO G=.ok (.int .i64 (K:Nat)) G:=fun ty=>by rw[hK];exact ac.mt.len D7
   have HK:=aa hK;clear hK;by_cases h4:4<=K
   ·have cu:(4:Int)<=(K:Int):=by omega
    have ch:Hid (eg G (.agg (cL l vp vs (.slice z l.blocks.length t)).toArray) l):=aa ⟨_,vp,vs,_,L,rfl,a6⟩;have ce:=am;have aM:=an;have cl:=aa (ce.load (P:=CO) C5 rfl (by kernel_rfl))
    go_wp2_with refine ao rfl cl ?_
    refine(dK _ l 12 G ch).mono ?_;rintro e w6 ⟨rfl,bg⟩;have bG:=aa bg;have aN:=aa (aM.ext bg);clear bg;have cr:=aa (aN.store (P:=CO) (cs':=cL (dh l 12) ag ag ag) rfl (bk ⟨_,_,_,rfl⟩ ⟨_,_,_,rfl⟩ ⟨_,_,_,rfl⟩) (ty:=26) (by kernel_rfl));have cf:=aa (aN.set (cs':=cL (dh l 12) ag ag ag) rfl);have cg:Hid (Kq (fun k=>k=j) w6 (w6.setCells j 0 (cL (dh l 12) ag ag ag))):=aa ((Kq.refl w6).setCells (Q:=fun k=>k=j) rfl 0 _)
    go_wp2_with refine ak rfl rfl cr ?_
    refine De (v:=.agg (cL (dh l 12) ag ag ag).toArray) (aB rfl rfl (cf.loadVar (P:=CO) C5 rfl (by kernel_rfl))) rfl ⟨?_,?_⟩
    ·rw[(bN.out (by rw[<-HK.out];exact h4)).2]
    ·rw[(bN.out (by rw[<-HK.out];exact h4)).1];exact(ac.ext bG).fin a7 a8 (aO.trans (Kq.AI bG)) cg (by rw[A.out.2.1];omega) af
   ·have cu:¬(4:Int)<=(K:Int):=by omega
    have aX:=ac.bx.lt;have aj:=am.cell (i:=2) (v:=.int .i64 l.obj) rfl;have b8:=am.cell (i:=7) (v:=.slice z l.blocks.length t) rfl;have a1:=am.lt;have co:Hid (∀f,Kq (fun _=>False) G f->f.cell? ⟨b,0,none⟩=some (.map (some m))/\f.cell? ⟨P0,2,none⟩=some (.int .i64 l.obj)/\f.cell? ⟨P0,7,none⟩=some (.slice z l.blocks.length t)):=aa fun f J=>⟨J.cell (fun q=>q) aF,J.cell (fun q=>q) aj,J.cell (fun q=>q) b8⟩
    have cc:Hid (∀f,Kq (fun _=>False) G f->CZ CO 48 #[.slice z l.blocks.length t] f fun e w'=>∃v',e=.returned v'/\vt l.blocks G.heap.size v' w'/\au f w'):=aa fun f J=>by have hE:=J.ext (fun _ q=>q.elim);refine(cb f (a6.ext hE)).mono ?_;rintro e w' ⟨M,rfl,D,I,k3,k4⟩;exact⟨_,rfl,⟨f.heap.size,M,rfl,hE.size,D,I,k3,(D.block _ rfl).2⟩,k4⟩
    clear aj b8 a1 aX
    go_wp2_with fail
    clear cC aF;apply az (Kq (fun _=>False)) (ew (fun _=>True) [(8,65,vt l.blocks G.heap.size)]) 9 [57,58,59,60,61,62,63,64,65] [ar _,ar _,ar _,ar _,ar _,ar _,ar _,ar _,cR] (fun w=>Kq.refl w) (fun a b c h k=>Kq.trans h k) (by kernel_rfl) (by kernel_rfl) (by kernel_rfl) (by kernel_rfl);case hsteps=>
     refine⟨?_,?_,?_,?_,?_,?_,?_,?_,?_,trivial⟩;all_goals
      intro d ev o p B R S O C hd;replace R:=aa R;replace B:=aa B;replace S:=aa S;replace O:=aa O;have e0:=C 0 (by decide);have e3:=C 3 (by decide);clear C;simp only[sB]at e0 e3;simp only[sG]at hd;have T:=co _ p;have c0:=T.1;have c2:=T.2.1;have c7:=T.2.2;clear T;rw[if_pos (rfl:C8 _ _=true)];go_simp;first | exact⟨Kq.refl _,rfl,B.same rfl⟩ | (go_at_call 48;(with_reducible refine(cc.out o p).mono ?_);rintro e f ⟨v9,rfl,D,I⟩;exact⟨_,rfl,Kq.AI I,trivial,ew.set (a:=[]) (b:=[]) trivial rfl D trivial rfl⟩) | exact⟨CT _ _,rfl,HJ.same (by decide) B⟩
    case hmono=>exact mR
    case hR0=>exact Kq.drew _
    case hend=>
     intro u o p W hend;simp only[sE]at hend;simp only[sF,hend];obtain⟨g9,M,bA,bq,D,I,k3,k4⟩:=W.2 rfl;have ap:Hid (au G o):=aa (p.ext (fun _ q=>q.elim));have bI:=aa (ac.ext ap);obtain⟨H,cP,bX,Y⟩:=bJ.put (P:=CO) D7 DP bI.mt l.obj (.slice (some ⟨g9,0,none⟩) l.blocks.length l.blocks.length) bM.2;have b2:w.heap.size<=g9:=Nat.le_trans aO.size bq;have cx:j < G.heap.size:=an.lt
     have b3:fS (fun i=>N i\/i=g9\/i=j) o (.slice (some ⟨g9,0,none⟩) l.blocks.length l.blocks.length) l.blocks:=⟨M,by rw[<-bA];exact D.mono (C9 _),fun y hy=>bQ _ _ _ _ _ (I y hy) fun k J _=>⟨fun q=>by
      rcases q with q | q | q
      ·have:=a8 k q;omega
      ·omega
      ·omega,rfl⟩,k3⟩
     have ad:eR (fun i=>N i\/i=g9\/i=j) Q o b m n mp ⟨s.AT,fx s l⟩:=bI.kept (Q2:=fun _=>False) (Kq.refl o) (fun _ q=>q.elim) fun i q=>by
      rcases q with q | q | q
      ·exact .inl (.inl q)
      ·exact .inl (.inr (by omega))
      ·exact .inl (.inr (by have:=A.out;omega))
     have ai:=af.out
     have cj:Hid (eR (fun i=>N i\/i=g9\/i=j) (fun i=>Q i\/(EG (some ⟨g9,0,none⟩) l.blocks.length l.blocks.length).ownBlock=some i) H b m n (mp++[(l.obj,.slice (some ⟨g9,0,none⟩) l.blocks.length l.blocks.length)]) ⟨s.AT++[(l.obj,l.blocks)],fx s l⟩):=aa (ad.put (fun i q=>.inl (a7 i q)) bM.1 bX Y b3 fun i q=>by
      have e:g9=i:=Ei q;subst e;have h1:=ai m (.inl ad.qm);have h2:=ai n (.inl ad.qs);have h3:=ai b (.inr rfl)
      exact⟨k4,by omega,by omega,by omega,fun q=>by have:=ai g9 (.inl q);omega⟩)
     have bW:Kq Q o H:=Y.mono fun i _ q=>q▸ad.qm
     have bF:Hid (Kq Q w H):=aa (aO.trans ((Kq.AI ap).trans bW));have bv:∀X,w.heap.size<=X->X≠m:=fun X hX q=>by have:=ai m (.inl ad.qm);omega
     have cd:=aa (Y.box (bv A0 A.2.2.2) (bD.ext ap));have aM:=aa (Y.box (bv j (by rw[A.out.2.1];omega)) (an.ext ap));have aq:Hid (g9 < H.heap.size/\w.heap.size<=g9/\j < H.heap.size/\G.heap.size<=g9):=aa ⟨Dd k4 Y.size,b2,by have:=Y.size;have:=ap.size;omega,bq⟩;simp only[bA];clear p hend W bA D I k3 k4 bX Y b3 ad bW bv ai bq b2 cx;have ck:=aa (cd.load (P:=CO) C5 rfl (by kernel_rfl));have cq:=aa (aM.store (P:=CO) (cs':=cL (fc l) ag ag ag) rfl (bk ⟨_,_,_,rfl⟩ ⟨_,_,_,rfl⟩ ⟨_,_,_,rfl⟩) (ty:=26) (by kernel_rfl));have aN:=aa (aM.set (cs':=cL (fc l) ag ag ag) rfl);have a5:Hid (Kq (fun k=>k=j) H (H.setCells j 0 (cL (fc l) ag ag ag))):=aa ((Kq.refl H).setCells (Q:=fun k=>k=j) rfl 0 _)
     go_wp2_with first | refine ao rfl ck ?_ | refine ak rfl rfl cq ?_
     refine De (v:=.agg (cL (fc l) ag ag ag).toArray) (aB rfl rfl (aN.loadVar (P:=CO) C5 rfl (by kernel_rfl))) rfl ⟨?_,?_⟩
     ·rw[(bO.out (by rw[<-HK.out];exact h4)).2]
     ·rw[(bO.out (by rw[<-HK.out];exact h4)).1];have cB:Kq Q w (H.setCells j 0 (cL (fc l) ag ag ag)):=by
       have h1:Kq (fun i=>Q i\/i=j) w (H.setCells j 0 (cL (fc l) ag ag ag)):=(bF.mono fun i _ q=>.inl q).trans (a5.mono fun i _ q=>.inr q);exact h1.mono fun i hi q=>by
        rcases q with q | q
        ·exact q
        ·have:=A.out;omega
      have bs:∀i,(EG (some ⟨g9,0,none⟩) l.blocks.length l.blocks.length).ownBlock=some i->i=g9:=fun i q=>(Ei q).symm
      refine⟨cB,_,_,⟨m,n,_,cj.kept a5 (fun i q=>⟨.inr (.inr q),fun r=> ?_,fun r=> ?_⟩) (fun i q=>.inl q)⟩,fun i q=> ?_,fun i q=>.inl q,fun i q=>.inl q,fun i q=> ?_,fun i q=> ?_,fun i q=> ?_⟩
      ·rcases r with r | r
       ·have:=af i (.inl r);have:=A.out;omega
       ·have:=bs i r;have:=aq.out;have:=an.lt;omega
      ·have:=af i (.inr r);have:=A.out;omega
      ·rcases q with q | q | q
       ·exact .inl q
       ·exact .inr (by have:=aq.out;omega)
       ·exact .inr (by have:=A.out;omega)
      ·rcases q with q | q
       ·exact .inl (a7 i q)
       ·exact .inr (.inl (bs i q))
      ·rcases q with q | q
       ·exact .inl q
       ·exact .inr (by have:=bs i q;have:=aq.out;omega)
      ·refine Dd ?_ a5.size;rcases q with q | q | q
       ·exact Dd (a8 i q) bF.size
       ·have:=aq.out;omega
       ·have:=aq.out;omega
    case hJ0=>exact ew.start trivial
  case hJ0=>exact HJ.start (a9.ext (CT _ _).drew)
 case hJ0=>trivial
theorem vA (b:Nat) (N Q:Nat->Prop) (s:bL) (v:CQ) (l:BC) (w:CP) (f:gx N Q w b s) (c:∀i,Q i->N i) (d:∀i,N i->i < w.heap.size) (a:vv N w v l) (g:aR l=0) (h:l.kind=1):
  CZ CO 37 #[.pointer (some ⟨b,0,none⟩),v] w fun e w'=>e=.returned (.agg (cL (eE s l) ag ag ag).toArray)/\iI N Q w w' b (fF s l):=by
 cases hg:bn s l.obj with
 | some st=>exact sT b N Q s v l w f c d a g h st hg
 | none=>exact sU b N Q s v l w f c d a g h hg
section
variable {P:Program} {ops:Array Oper} {rest:List Oper} {a:Act} {w w':CP} {Q:Exit->Act->CP->Prop} {d:Option Tmp} {tt ty:TypeId} {pp:String} {af:Array Edge} {x:Operand} {v u:CQ}
theorem qP (h:kx (Ew P ops Q (⟨d,.range ty x,tt,pp,af,none⟩ :: rest) a w)):Ew P ops Q (⟨d,.range ty x,tt,pp,af,none⟩ :: rest) a w:=h
theorem sV {s:Bool} (h:kx (Ew P ops Q (⟨d,.next x s,tt,pp,af,none⟩ :: rest) a w)):Ew P ops Q (⟨d,.next x s,tt,pp,af,none⟩ :: rest) a w:=h
theorem sW (hx:a.eval x=v) (c:(Instr.range ty v).run P w=.ok u w') (h:Ew P ops Q rest (a.put d u) w'):Ew P ops Q (⟨d,.range ty x,tt,pp,af,none⟩ :: rest) a w:=
 wpList_plain rfl fun K b=>by
  unfold Oper.wp;simp[execOp,hx,c,Ff];exact b _ _ h
theorem oV (hx:a.eval x=v) (c:(Instr.next v false tt).run P w=.ok u w') (h:Ew P ops Q rest (a.put d u) w'):Ew P ops Q (⟨d,.next x false,tt,pp,af,none⟩ :: rest) a w:=
 wpList_plain rfl fun K b=>by
  unfold Oper.wp;simp[execOp,hx,c,Ff];exact b _ _ h
end
def oW (w:CP) (r:Nat):Nat:=match w.heap[r]? with
 | some (.mapIter _ _ seen _)=>seen.size
 | _=>0
section
variable {w w':CP} {m r:Nat} {mp D:List (Int × CQ)}
theorem eF.seen (h:eF w m r mp D):oW w r=D.length:=by
 obtain⟨es,c,s,a,b,_,_,_,a4,_,_,_,_,a9,_⟩:=h;have:=congrArg List.length a9;rw[CY,CY]at this;unfold oW;rw[a4];simpa using this
theorem eF.sub (h:eF w m r mp D):∀q∈D,q∈mp:=by
 obtain⟨es,c,s,n,o,_,a2,_,_,_,_,_,i,a9,_⟩:=h;intro q l;have h1:(Value.int .i64 q.1,q.2)∈D.map fun x=>(Value.int .i64 x.1,x.2):=DX (f:=fun x:Int × Value=>(Value.int .i64 x.1,x.2)) l
 rw[<-a9]at h1;obtain⟨d,k,b⟩:=DM.1 h1;obtain⟨p,hp,a,j⟩:=bJ.key a2 (i d k);have e:=congrArg Prod.fst b;have g:=congrArg Prod.snd b;simp only at e g;rw[e]at a;injection a with _ a;have:q=p:=Prod.ext a (g.symm.trans j);rw[this];exact hp
theorem eF.le (h:eF w m r mp D):D.length<=mp.length:=by
 have d:=h.sub;obtain⟨es,c,s,g,i,_,_,_,_,_,_,_,_,_,a⟩:=h;have e:=FU a (l₂:=mp.map (·.1)) fun x hx=>by obtain⟨q,b,rfl⟩:=DM.1 hx;exact DX (f:=fun x:Int × Value=>x.1) (d q b)
 rwa[CY,CY]at e
end
def fN (s:bL) (D:List (Int × CQ)):bL:=⟨D.map fun p=>(p.1,(bn s p.1).getD []),s.ids⟩
theorem kr (s:bL) (n:Int):∀D:List (Int × CQ),bn (fN s D) n=if n∈D.map (·.1)then some ((bn s n).getD [])else none
 | []=>rfl
 | p :: D=>by
  have a:=kr s n D;unfold bn fN at a⊢;simp only[List.map_cons,List.find?_cons]at a⊢;by_cases h:p.1=n
  ·subst h;simp;rfl
  ·have h2:¬n=p.1:=fun q=>h q.symm
   simp only[h,decide_false,DA,h2,false_or];exact a
theorem qQ (s:bL) (D:List (Int × CQ)) (p:Int × CQ) {st:List (List Int)} (h:bn s p.1=some st):fN s (D++[p])=⟨(fN s D).AT++[(p.1,st)],(fN s D).ids⟩:=by
 unfold fN;simp[h]
theorem nH (s:bL) {n:Int} {D:List (Int × CQ)} (h:n ∉ D.map (·.1)):bn (fN s D) n=none:=by
 rw[kr,if_neg h]
theorem eR.perm {N Q:Nat->Prop} {w:CP} {mp:List (Int × CQ)} {s a:bL} (h:eR N Q w b m sb mp s) (c:∀n,bn a n=bn s n) (d:a.ids=s.ids) (e:a.AT.length=s.AT.length):eR N Q w b m sb mp a:=
 ⟨h.bx,h.mt,by rw[d];exact h.sn,h.ln.trans e.symm,fun n=>by rw[c];exact h.ob n,h.qb,h.qm,h.qs,h.ms,h.rw,h.sz,h.dj⟩
section
variable {N Q Qc:Nat->Prop} {B b m sb r b' m' sb':Nat} {mp mpc D:List (Int × CQ)} {s s':bL} {w w1 wr w2:CP}
theorem ye {any:Bool} {g:Int} {c:Nat} (d:aw w b' [.map (some m'),.pointer (some ⟨sb',0,none⟩)]) (hm:bJ w m' []) (a:aw w sb' [.bool any,.int .i64 g,.int .u64 (c:Nat)]) (f:bV any g c s.ids) (h1:b'≠m') (h2:b'≠sb') (b:m'≠sb'):
  eR (fun i=>(i=m'\/i=sb')\/i < B\/i=r) (fun i=>i=m'\/i=sb') w b' m' sb' [] (fN s []):=
 ⟨d,hm,⟨any,g,c,a,f⟩,rfl,fun n=>trivial,fun q=>q.elim h1 h2,.inl rfl,.inr rfl,b,fun p hp=>(by cases hp),fun k q=>q.elim (fun e=>e▸hm.lt) (fun e=>e▸a.lt),fun p hp=>(by cases hp)⟩
theorem xc (h:eR (fun i=>Qc i\/i < B\/i=r) Qc wr b' m' sb' mpc s') (b:∀i,Qc i->i≠r) (a:b'≠r) (k:Kq (fun i=>i=r) wr w2):eR (fun i=>Qc i\/i < B\/i=r) Qc w2 b' m' sb' mpc s':=
 h.kept k (fun i q=>⟨.inr (.inr q),fun c=>b i c q,fun e=>a (e.symm.trans q)⟩) fun _ q=>.inl q
theorem yf {P:Program} {t k e:TypeId} (u:P.underlying t=some (.map k e)) (j:P.underlying k=some (.int .i64)) (h:eR (fun i=>Qc i\/i < B\/i=r) Qc w2 b' m' sb' mpc s') (b:∀i,Qc i->B<=i/\i < w2.heap.size/\i≠r) (d:au w2 w1) (J:r < w2.heap.size) (G:B<=w2.heap.size) {st:List (List Int)} {v:CQ} (n:vt st w2.heap.size v w1) {x:Int} (l:bn s' x=none):
  ∃a,(Instr.mapUpdate t (.map (some m')) (.int .i64 x) v).run P w1=.ok () a/\Kq (fun i=>i=m') w1 a/\∃(c:Nat->Prop) (D:List (Int × CQ)),eR (fun i=>c i\/i < B\/i=r) c a b' m' sb' D ⟨s'.AT++[(x,st)],s'.ids⟩/\∀i,c i->B<=i/\i < a.heap.size/\i≠r:=by
 obtain⟨g9,M,rfl,I,w,z,A,C⟩:=n;have h1:=h.ext d;have H:=h.bx.lt;obtain⟨a,p,o,f⟩:=bJ.put (P:=P) u j h1.mt x (.slice (some ⟨g9,0,none⟩) st.length st.length) (h1.none l)
 have s:fS (fun i=>Qc i\/i < B\/i=r\/i=g9) w1 (.slice (some ⟨g9,0,none⟩) st.length st.length) st:=⟨M,w.mono (C9 _),fun y hy=>bQ _ _ _ _ _ (z y hy) fun k j _=>⟨fun q=>by
  rcases q with q | q | q | q
  ·have:=b k q;omega
  ·omega
  ·omega
  ·omega,rfl⟩,A⟩
 have h2:eR (fun i=>Qc i\/i < B\/i=r\/i=g9) Qc w1 b' m' sb' mpc s':=h.kept (Q2:=fun _=>False) (Kq.AI d) (fun _ q=>q.elim) fun i q=>by
  rcases q with q | q | q | q
  ·exact .inl (.inl q)
  ·exact .inl (.inr (.inl q))
  ·exact .inl (.inr (.inr q))
  ·exact .inr (by omega)
 have g:∀i,(EG (some ⟨g9,0,none⟩) st.length st.length).ownBlock=some i->g9=i:=fun i q=>Ei q
 have m:=h2.put (fun i q=>.inl q) l o f s fun i q=>by obtain rfl:=g i q;have E:=b m' h.qm;have F:=b sb' h.qs;exact⟨C,by omega,by omega,by omega,fun q=>by have:=b g9 q;omega⟩
 refine⟨a,p,f,fun i=>Qc i\/(EG (some ⟨g9,0,none⟩) st.length st.length).ownBlock=some i,_,m.kept (Q2:=fun _=>False) (Kq.refl a) (fun _ q=>q.elim) (fun i q=> ?_),fun i q=> ?_⟩
 ·rcases q with (q | q) | q | q
  ·exact .inl (.inl q)
  ·exact .inl (.inr (.inr (.inr (g i q).symm)))
  ·exact .inl (.inr (.inl q))
  ·exact .inl (.inr (.inr (.inl q)))
 ·have K:=f.size;have L:=d.size;rcases q with q | q
  ·have:=b i q;exact⟨this.1,by omega,this.2.2⟩
  ·obtain rfl:=g i q;exact⟨by omega,by omega,by omega⟩
theorem yg (a:eR N Q w b m sb mp s) (i:eF wr m r mp D) (d:∀p∈mp,p∈D) (e:D.length=mp.length) {c Q':Nat->Prop} (h:eR c Q' wr b' m' sb' mpc (fN s D)):eR c Q' wr b' m' sb' mpc s:=by
 refine h.perm (fun n=> ?_) rfl (by unfold fN;simp only[CY];rw[e,a.ln]);rw[kr];split
 ·next hn=>
  obtain⟨q,g,rfl⟩:=DM.1 hn;obtain⟨st,h1,_⟩:=a.row (eO a.mt.nd (i.sub q g));rw[h1];rfl
 ·next hn=>
  cases hg:bn s n with
  | none=>rfl
  | some st=>obtain⟨v,h1,_⟩:=a.some hg;exact absurd (DX (f:=fun x:Int × Value=>x.1) (d _ (dt h1))) hn
end
section
variable {P:Program} {ops:Array Oper} {rest:List Oper} {a:Act} {w:CP} {Q:Exit->Act->CP->Prop} {d:Option Tmp} {tt:TypeId} {pp:String} {af:Array Edge} {x:Operand} {m r:Nat} {mp D:List (Int × CQ)}
theorem sX (h:eF w m r mp D) (hx:a.eval x=.pointer (some ⟨r,0,none⟩)) (h1:(∀p∈mp,p∈D)->D.length=mp.length->Ew P ops Q rest (a.put d (.tuple #[.bool false])) w)
  (h2:∀p w',p∈mp->p.1 ∉ D.map (·.1)->eF w' m r mp (D++[p])->Kq (fun k=>k=r) w w'->w'.heap.size=w.heap.size->(Instr.entry (.pointer (some ⟨r,0,none⟩))).run P w'=.ok (.tuple #[.int .i64 p.1,p.2]) w'->Ew P ops Q rest (a.put d (.tuple #[.bool true,.int .i64 p.1,p.2])) w'):
  Ew P ops Q (⟨d,.next x false,tt,pp,af,none⟩ :: rest) a w:=by
 rcases h.next (P:=P) tt with ⟨b,c,e⟩ | ⟨p,w',b,c,e,f,g,i,j⟩
 ·exact oV hx e (h1 b c)
 ·exact oV hx e (h2 p w' b c f g i j)
end
theorem qR (f:Nat) (any:Bool) (g:Int) (c:Nat) (w:CP) (b:aw w f [.bool any,.int .i64 g,.int .u64 (c:Nat)]):
  CZ CO 58 #[.pointer (some ⟨f,0,none⟩)] w fun e w'=>∃X,e=.returned (.pointer (some ⟨X,0,none⟩))/\w.heap.size<=X/\aw w' X [.bool any,.int .i64 g,.int .u64 (c:Nat)]/\au w w':=by
 have h:=aa (b.load (P:=CO) Tryz.underlying134 rfl (by kernel_rfl))
 have i:=aa (aH (P:=CO) (cs:=[.bool any,.int .i64 g,.int .u64 (c:Nat)]) w 134 #[.bool false,.int .i64 0,.int .u64 0] rfl (fun v d=>by
  simp only[DA,List.not_mem_nil,or_false]at d
  rcases d with rfl | rfl | rfl<;>rfl) (ty:=134) (by kernel_rfl))
 have a:=aa (aw.fresh (cs:=[.bool any,.int .i64 g,.int .u64 (c:Nat)]) w 134 #[.bool false,.int .i64 0,.int .u64 0] rfl (fun q=>by cases q));clear b;go_enter Tryz.func58,Tryz.ntmps58
 go_wp2_with first | refine ao rfl h ?_ | refine ak rfl rfl i ?_
 go_ret;exact⟨_,rfl,CU _,a.1,a.2⟩
end Go.Proofs.Bl
