/- Texts that stood apart, in one: LW6, LetP, LetB, LW7, LW8, LW9. -/
import Derived.Test.YtglenbikdahgjaaGreatDoorPr04
set_option maxRecDepth 100000
set_option maxHeartbeats 16000000
open And renaming intro->DT
open Bool renaming and_eq_true->Ek
open Go renaming Calls->DN,Value->DG,World->DF,bodyPost_ret->DK,maxLen->DV,run_loadAt_mid->EX
open Go.Region renaming wanted->DP
open Go.RowKit renaming intOf->Ef
open Go.RowKit.Below renaming refl->DI,trans->Ei
open List renaming append_nil->Ew,getD_eq_getElem?_getD->DJ,getElem?_eq_getElem->DL,length_append->DS,length_cons->Eu,length_map->D2,length_nil->EK,mem_cons_of_mem->FM,take_of_length_le->DW,take_zero->E4
open Nat renaming le_refl->DH,le_succ->FW,le_trans->D0,lt_succ_iff_lt_or_eq->Gj,mul_one->Fi,not_lt_zero->Gr,not_succ_le_self->FN,zero_le->DZ
namespace Go.Proofs.Bl
open Go Go.RowKit Go.Proofs
open Go.Proofs.Tryz renaming ntmps69->Ib,ntmps70->Ic,ntmps72->Ie,prog->DE,underlying26->DQ,underlying57->Fz
variable {l:List Int} {n a b:Int} {k B:Nat}
def wi (n a b:Int):Bool:=decide (a<=n)&&decide (n<=b)
theorem bJ:wi n a b=true↔a<=n/\n<=b:=by unfold wi;simp
theorem iK:wi n a b=false↔n < a\/b < n:=by
 rw[<-Bool.not_eq_true,bJ];omega
theorem eN {α :Type} {p: α ->Bool} {l:List α} (h:∀q x,q < k->l[q]? =some x->p x=false) (b:l.length<=k):l.any p=false:=by
 rw[List.any_eq_false];intro x hx;obtain⟨q,a,rfl⟩:=List.getElem_of_mem hx;rw[h q _ (by omega) (DL a)];decide
theorem om {α :Type} {p: α ->Bool} {l:List α} (d: α) (a:k < l.length) (h:p (l.getD k d)=true):l.any p=true:=List.any_eq_true.2 ⟨_,aH d a,h⟩
theorem bg (n a b:Int) (w:DF):DN DE 68 #[.int .i64 n,.int .i64 a,.int .i64 b] w fun e w'=>e=.returned (.bool (wi n a b))/\w=w':=by
 by_cases h1:a<=n
 ·by_cases h2:n<=b
  ·have c:Hid (wi n a b=true):=aa (bJ.2 ⟨h1,h2⟩);go_enter Tryz.func68,Tryz.ntmps68
   go_wp2
   go_ret;exact⟨by rw[c.out];rfl,rfl⟩
  ·have c:Hid (wi n a b=false):=aa (iK.2 (by omega));go_enter Tryz.func68,Tryz.ntmps68
   go_wp2
   go_ret;exact⟨by rw[c.out];rfl,rfl⟩
 ·have c:Hid (wi n a b=false):=aa (iK.2 (by omega));go_enter Tryz.func68,Tryz.ntmps68
  go_wp2
  go_ret;exact⟨by rw[c.out];rfl,rfl⟩
theorem aY (n a b:Int) (w:DF):DN DE 75 #[.int .i64 n,.int .i64 a,.int .i64 b] w fun e w'=>e=.returned (.bool (!wi n a b))/\w=w':=by
 by_cases h1:n < a
 ·have c:Hid (wi n a b=false):=aa (iK.2 (by omega));go_enter Tryz.func75,Tryz.ntmps75
  go_wp2
  go_ret;exact⟨by rw[c.out];rfl,rfl⟩
 ·by_cases h2:b < n
  ·have c:Hid (wi n a b=false):=aa (iK.2 (by omega));go_enter Tryz.func75,Tryz.ntmps75
   go_wp2
   go_ret;exact⟨by rw[c.out];rfl,rfl⟩
  ·have c:Hid (wi n a b=true):=aa (bJ.2 (by omega));go_enter Tryz.func75,Tryz.ntmps75
   go_wp2
   go_ret;exact⟨by rw[c.out];rfl,rfl⟩
theorem gR (n:Int) (w:DF):DN DE 115 #[.int .i64 n] w fun e w'=>e=.returned (.bool (wi n 0 511))/\w=w':=by
 go_enter Tryz.func115,Tryz.ntmps115
 go_wp2_with fail
 refine(bg _ _ _ _).mono ?_;rintro e w' ⟨rfl,hw⟩;subst hw
 go_wp2_with fail
 go_ret;exact⟨rfl,rfl⟩
theorem pj (n:Int) (w:DF):DN DE 114 #[.int .i64 n] w fun e w'=>e=.returned (.bool (!wi n 0 511))/\w=w':=by
 go_enter Tryz.func114,Tryz.ntmps114
 go_wp2_with fail
 refine(gR _ _).mono ?_;rintro e w' ⟨rfl,hw⟩;subst hw;obtain⟨q,a⟩:=exq (wi n 0 511);rw[<-a];have b:=aa a;clear a;cases q
 ·go_wp2_with fail
  go_ret;exact⟨by rw[<-b.out];rfl,rfl⟩
 ·go_wp2_with fail
  go_ret;exact⟨by rw[<-b.out];rfl,rfl⟩
theorem oq (x:Sv) (w:DF):DN DE 118 #[.agg (cS x).toArray] w fun e w'=>e=.returned (.bool (!wi x.1 0 511))/\az w w':=by
 obtain⟨n,⟨v,l⟩,u,d⟩:=x;have b:=aa (ae w (.cells #[.int .i64 n,v,u] 57));show DN DE 118 #[.agg #[.int .i64 n,v,u]] w _;go_enter Tryz.func118,Tryz.ntmps118
 go_wp2_with fail
 refine(gR _ _).mono ?_;rintro e w' ⟨rfl,hw⟩;subst hw;obtain⟨q,a⟩:=exq (wi n 0 511);rw[<-a];have c:=aa a;clear a;cases q
 ·go_wp2_with fail
  go_ret;exact⟨by rw[<-c.out];rfl,b⟩
 ·go_wp2_with fail
  go_ret;exact⟨by rw[<-c.out];rfl,b⟩
theorem rb (p:Option Addr) (n c:Nat) (w:DF):DN DE 119 #[.slice p n c] w fun e w'=>e=.returned (.bool (!decide (n=16)))/\w=w':=by
 by_cases h:n=16
 ·subst h;go_enter Tryz.func119,Tryz.ntmps119
  go_wp2
  go_ret;exact⟨rfl,rfl⟩
 ·have h2:((n:Int)==16)=false:=by rw[beq_eq_false_iff_ne];omega
  have a:Hid (decide (n=16)=false):=aa (decide_eq_false h);clear h;go_enter Tryz.func119,Tryz.ntmps119
  go_wp2
  go_ret;refine⟨?_,rfl⟩;rw[a.out];show Ending.returned (.bool (!((n:Int)==16)))=_;rw[h2];try rfl
theorem re (x:Sv) (w:DF) (hx:uL w x):DN DE 121 #[.agg (cS x).toArray] w fun e w'=>e=.returned (.bool (!decide (x.2.1.2.length=16)|| !decide (x.2.2.2.length<=10)))/\az w w':=by
 obtain⟨n,⟨v,l⟩,u,d⟩:=x;obtain⟨p1,f,h,_,_⟩:=hx.st.form;obtain⟨p2,g,i,_,_⟩:=hx.pa.form;simp only at h i;subst h i;clear hx;show DN DE 121 #[.agg #[.int .i64 n,.slice p1 l.length f,.slice p2 d.length g]] w fun e w'=>e=.returned (.bool (!decide (l.length=16)|| !decide (d.length<=10)))/\az w w'
 generalize l.length=m;generalize d.length=k;have b:=aa (ae w (.cells #[.int .i64 n,.slice p1 m f,.slice p2 k g] 57));by_cases h1:m=16
 ·subst h1;by_cases h2:k<=10
  ·have c:¬((10:Int) < (k:Int)):=by omega
   have a:Hid (decide (k<=10)=true):=aa (decide_eq_true h2);clear h2;go_enter Tryz.func121,Tryz.ntmps121
   go_wp2_with fail
   go_ret;first
   | exact⟨by rw[a.out];rfl,b⟩
   | (refine⟨?_,b⟩;rw[a.out];simp[c])
  ·have c:(10:Int) < (k:Int):=by omega
   have a:Hid (decide (k<=10)=false):=aa (decide_eq_false h2);clear h2;go_enter Tryz.func121,Tryz.ntmps121
   go_wp2_with fail
   go_ret;first
   | exact⟨by rw[a.out];rfl,b⟩
   | (refine⟨?_,b⟩;rw[a.out];simp[c])
 ·have j:((m:Int) != 16)=true:=by rw[bne_iff_ne];omega
  have h2:((m:Int)==16)=false:=by rw[beq_eq_false_iff_ne];omega
  have a:Hid (decide (m=16)=false):=aa (decide_eq_false h1);clear h1;go_enter Tryz.func121,Tryz.ntmps121
  go_wp2_with fail
  go_ret;exact⟨by rw[a.out];rfl,b⟩
theorem vJ (v:DG) (l:List Int) (w:DF) (h:Rd w .i64 v l):
  DN DE 146 #[v,.func (.func 114) #[] #[]] w fun e w'=>(∃z:Int,e=.returned (.int .i64 z)/\decide (0<=z)=l.any (fun x=> !wi x 0 511))/\az w w':=by
 obtain⟨p,c,O,P,N⟩:=h.form;subst O;unfold DV at N;have H:=aa h;obtain⟨n,j⟩:=exq l.length;have r:=aa j;rw[<-j]at P⊢;skip;clear h j;go_enter Tryz.func146,Tryz.ntmps146
 go_wp2_with fail
 go_loopw [8] (fun i wr=>∃k:Nat,k<=n/\i=.int .i64 k/\az w wr/\Hid (∀q x,q < k->l[q]? =some x->(fun x=> !wi x 0 511) x=false)) (fun i _=>n - (Ef i).toNat);case atStart=>exact⟨0,DZ _,rfl,DI _ _,aa fun q x h=>absurd h (Gr _)⟩
 case round=>
  obtain⟨k,T,rfl,u,s⟩:=hrel;have d:=aa u;clear u;by_cases G:k < n
  ·have f:k < l.length:=by rw[<-r.out];exact G
   have C:=aa f;obtain⟨R,U,S,L,_,_,_,_,A⟩:=Rd.pos (H.ext d) (by omega);injection L with I J K;subst I;have F:=A k f;obtain⟨x,hx⟩:=exq (l.getD k 0);rw[<-hx]at F;have t:=aa hx;clear A J K hx f
   go_wp2_with fail
   refine(pj x wr).mono ?_;rintro e V ⟨rfl,Q⟩;subst Q;have m:=d;have D:Hid (∀b,(fun x=> !wi x 0 511) x=b->∀y,l[k]? =some y->(fun x=> !wi x 0 511) y=b):=aa fun b a y hy=>by rw[<-a,t.out,DJ,hy];rfl
   have B:Hid ((fun x=> !wi x 0 511) x=true->l.any (fun x=> !wi x 0 511)=true):=aa fun h=>om 0 C (by rw[<-t.out];exact h)
   obtain⟨b,a⟩:=exq ((!wi x 0 511));rw[<-a];have o:=aa a;clear a;cases b
   ·go_wp2_with fail
    go_roundw
    case rel=>exact⟨k+1,by omega,by go_num,m,aa fun q y M hy=>by
     rcases Gj.1 M with g | g
     ·exact s q y g hy
     ·subst g;exact D false o.symm y hy⟩
    case measure=>simp[Ef];omega
   ·go_wp2_with fail
    go_ret;exact⟨⟨k,rfl,by rw[B.out o.out.symm];simp⟩,m⟩
  ·obtain rfl:k=n:=by omega
   have E:Hid (l.any (fun x=> !wi x 0 511)=false):=aa (eN s (by rw[<-r.out];exact DH _))
   go_wp2_with fail
   go_ret;exact⟨⟨-1,rfl,by rw[E.out];rfl⟩,d⟩
theorem vK (v:DG) (l:List Int) (w:DF) (h:Rd w .i64 v l):
  DN DE 116 #[v,.func (.func 114) #[] #[]] w fun e w'=>e=.returned (.bool (l.any (fun x=> !wi x 0 511)))/\az w w':=by
 have a:=aa (vJ v l w h);obtain⟨q,g⟩:=exq (l.any (fun x=> !wi x 0 511));rw[<-g]at a⊢;clear h;go_enter Tryz.func116,Tryz.ntmps116
 go_wp2_with fail
 refine a.mono ?_;rintro e i ⟨⟨z,rfl,c⟩,b⟩;have d:=aa b;clear b;have f:=aa c;clear c
 go_wp2_with fail
 go_ret;exact⟨by rw[<-f.out];rfl,d⟩
theorem tG (v:DG) (l:List Sv) (w:DF) (h:oe w v l):
  DN DE 147 #[v,.func (.func 118) #[] #[]] w fun e w'=>(∃z:Int,e=.returned (.int .i64 z)/\decide (0<=z)=l.any (fun x=> !wi x.1 0 511))/\az w w':=by
 obtain⟨p,c,T,U,S⟩:=h.rd.form;subst T;unfold DV at S;have H:=aa h;obtain⟨n,j⟩:=exq l.length;have t:=aa j;rw[<-j]at U⊢;rw[<-j]at H;clear h j;go_enter Tryz.func147,Tryz.ntmps147
 go_wp2_with fail
 go_loopw [8] (fun i wr=>∃k:Nat,k<=n/\i=.int .i64 k/\az w wr/\Hid (∀q x,q < k->l[q]? =some x->(fun x=> !wi x.1 0 511) x=false)) (fun i _=>n - (Ef i).toNat);case atStart=>exact⟨0,DZ _,rfl,DI _ _,aa fun q x h=>absurd h (Gr _)⟩
 case round=>
  obtain⟨k,Y,rfl,B,u⟩:=hrel;have d:=aa B;clear B;by_cases L:k < n
  ·have f:k < l.length:=by rw[<-t.out];exact L
   have F:=aa f;obtain⟨K,V,X,Q,_,_,_,D⟩:=(H.ext d).pos (by omega);injection Q with M N O;subst M;have o:=D k f;have m:=(H.ext d).ok _ (aH s0 f);obtain⟨x,hx⟩:=exq (l.getD k s0);rw[<-hx]at o m;have A:=aa hx;have W:=aa m;have G:=aa (EX (P:=DE) wr K (V+k*3) 57 _ _ o Fz rfl (by rw[bz];kernel_rfl));clear D N O hx f o m;have Z:(0:Int)<=(k:Int):=by omega
   have ab:(k:Int) < (n:Int):=by omega
   go_wp2_with refine ak rfl G ?_
   refine(oq x wr).mono ?_;rintro e w1 ⟨rfl,C⟩;have r:=aa (d.trans C);clear C;have I:Hid (∀b,(fun x=> !wi x.1 0 511) x=b->∀y,l[k]? =some y->(fun x=> !wi x.1 0 511) y=b):=aa fun b a y hy=>by rw[<-a,A.out,DJ,hy];rfl
   have E:Hid ((fun x=> !wi x.1 0 511) x=true->l.any (fun x=> !wi x.1 0 511)=true):=aa fun h=>om s0 F (by rw[<-A.out];exact h)
   obtain⟨b,a⟩:=exq ((!wi x.1 0 511));rw[<-a];have s:=aa a;clear a;cases b
   ·go_wp2_with fail
    go_roundw
    case rel=>exact⟨k+1,by omega,by go_num,r,aa fun q y R hy=>by
     rcases Gj.1 R with g | g
     ·exact u q y g hy
     ·subst g;exact I false s.symm y hy⟩
    case measure=>simp[Ef];omega
   ·go_wp2_with fail
    go_ret;exact⟨⟨k,rfl,by rw[E.out s.out.symm];simp⟩,r⟩
  ·obtain rfl:k=n:=by omega
   have J:Hid (l.any (fun x=> !wi x.1 0 511)=false):=aa (eN u (by rw[<-t.out];exact DH _))
   go_wp2_with fail
   go_ret;exact⟨⟨-1,rfl,by rw[J.out];rfl⟩,d⟩
theorem tH (v:DG) (l:List Sv) (w:DF) (h:oe w v l):
  DN DE 117 #[v,.func (.func 118) #[] #[]] w fun e w'=>e=.returned (.bool (l.any (fun x=> !wi x.1 0 511)))/\az w w':=by
 have a:=aa (tG v l w h);obtain⟨q,g⟩:=exq (l.any (fun x=> !wi x.1 0 511));rw[<-g]at a⊢;clear h;go_enter Tryz.func117,Tryz.ntmps117
 go_wp2_with fail
 refine a.mono ?_;rintro e i ⟨⟨z,rfl,c⟩,b⟩;have d:=aa b;clear b;have f:=aa c;clear c
 go_wp2_with fail
 go_ret;exact⟨by rw[<-f.out];rfl,d⟩
theorem tI (v:DG) (l:List Sv) (w:DF) (h:oe w v l):
  DN DE 147 #[v,.func (.func 121) #[] #[]] w fun e w'=>(∃z:Int,e=.returned (.int .i64 z)/\decide (0<=z)=l.any (fun x=> !decide (x.2.1.2.length=16)|| !decide (x.2.2.2.length<=10)))/\az w w':=by
 obtain⟨p,c,U,V,T⟩:=h.rd.form;subst U;unfold DV at T;have H:=aa h;obtain⟨n,j⟩:=exq l.length;have t:=aa j;rw[<-j]at V⊢;rw[<-j]at H;clear h j;go_enter Tryz.func147,Tryz.ntmps147
 go_wp2_with fail
 go_loopw [8] (fun i wr=>∃k:Nat,k<=n/\i=.int .i64 k/\az w wr/\Hid (∀q x,q < k->l[q]? =some x->(fun x=> !decide (x.2.1.2.length=16)|| !decide (x.2.2.2.length<=10)) x=false)) (fun i _=>n - (Ef i).toNat);case atStart=>exact⟨0,DZ _,rfl,DI _ _,aa fun q x h=>absurd h (Gr _)⟩
 case round=>
  obtain⟨k,Y,rfl,B,u⟩:=hrel;have d:=aa B;clear B;by_cases M:k < n
  ·have f:k < l.length:=by rw[<-t.out];exact M
   have F:=aa f;obtain⟨L,W,X,R,_,_,_,D⟩:=(H.ext d).pos (by omega);injection R with N O Q;subst N;have o:=D k f;have m:=(H.ext d).ok _ (aH s0 f);obtain⟨x,hx⟩:=exq (l.getD k s0);rw[<-hx]at o m;have A:=aa hx;have J:=aa m;have G:=aa (EX (P:=DE) wr L (W+k*3) 57 _ _ o Fz rfl (by rw[bz];kernel_rfl));clear D O Q hx f o m;have Z:(0:Int)<=(k:Int):=by omega
   have ab:(k:Int) < (n:Int):=by omega
   go_wp2_with refine ak rfl G ?_
   refine(re x wr J).mono ?_;rintro e w1 ⟨rfl,C⟩;have r:=aa (d.trans C);clear C;have I:Hid (∀b,(fun x=> !decide (x.2.1.2.length=16)|| !decide (x.2.2.2.length<=10)) x=b->∀y,l[k]? =some y->(fun x=> !decide (x.2.1.2.length=16)|| !decide (x.2.2.2.length<=10)) y=b):=aa fun b a y hy=>by rw[<-a,A.out,DJ,hy];rfl
   have E:Hid ((fun x=> !decide (x.2.1.2.length=16)|| !decide (x.2.2.2.length<=10)) x=true->l.any (fun x=> !decide (x.2.1.2.length=16)|| !decide (x.2.2.2.length<=10))=true):=aa fun h=>om s0 F (by rw[<-A.out];exact h)
   obtain⟨b,a⟩:=exq ((!decide (x.2.1.2.length=16)|| !decide (x.2.2.2.length<=10)));rw[<-a];have s:=aa a;clear a;cases b
   ·go_wp2_with fail
    go_roundw
    case rel=>exact⟨k+1,by omega,by go_num,r,aa fun q y S hy=>by
     rcases Gj.1 S with g | g
     ·exact u q y g hy
     ·subst g;exact I false s.symm y hy⟩
    case measure=>simp[Ef];omega
   ·go_wp2_with fail
    go_ret;exact⟨⟨k,rfl,by rw[E.out s.out.symm];simp⟩,r⟩
  ·obtain rfl:k=n:=by omega
   have K:Hid (l.any (fun x=> !decide (x.2.1.2.length=16)|| !decide (x.2.2.2.length<=10))=false):=aa (eN u (by rw[<-t.out];exact DH _))
   go_wp2_with fail
   go_ret;exact⟨⟨-1,rfl,by rw[K.out];rfl⟩,d⟩
theorem tJ (v:DG) (l:List Sv) (w:DF) (h:oe w v l):
  DN DE 117 #[v,.func (.func 121) #[] #[]] w fun e w'=>e=.returned (.bool (l.any (fun x=> !decide (x.2.1.2.length=16)|| !decide (x.2.2.2.length<=10))))/\az w w':=by
 have a:=aa (tI v l w h);obtain⟨q,g⟩:=exq (l.any (fun x=> !decide (x.2.1.2.length=16)|| !decide (x.2.2.2.length<=10)));rw[<-g]at a⊢;clear h;go_enter Tryz.func117,Tryz.ntmps117
 go_wp2_with fail
 refine a.mono ?_;rintro e i ⟨⟨z,rfl,c⟩,b⟩;have d:=aa b;clear b;have f:=aa c;clear c
 go_wp2_with fail
 go_ret;exact⟨by rw[<-f.out];rfl,d⟩
theorem vL (v:DG) (l:List (List Int)) (w:DF) (h:bf w v l):
  DN DE 148 #[v,.func (.func 119) #[] #[]] w fun e w'=>(∃z:Int,e=.returned (.int .i64 z)/\decide (0<=z)=l.any (fun x=> !decide (x.length=16)))/\az w w':=by
 obtain⟨p,c,R,S,Q⟩:=h.form;subst R;unfold DV at Q;have H:=aa h;obtain⟨n,m⟩:=exq l.length;have s:=aa m;rw[<-m]at S⊢;skip;clear h m;go_enter Tryz.func148,Tryz.ntmps148
 go_wp2_with fail
 go_loopw [8] (fun i wr=>∃k:Nat,k<=n/\i=.int .i64 k/\az w wr/\Hid (∀q x,q < k->l[q]? =some x->(fun x=> !decide (x.length=16)) x=false)) (fun i _=>n - (Ef i).toNat);case atStart=>exact⟨0,DZ _,rfl,DI _ _,aa fun q x h=>absurd h (Gr _)⟩
 case round=>
  obtain⟨k,V,rfl,A,t⟩:=hrel;have f:=aa A;clear A;by_cases N:k < n
  ·have d:k < l.length:=by rw[<-s.out];exact N
   have G:=aa d;obtain⟨ws,C,D,E⟩:=H.ext f;obtain⟨U,W,O,L,M⟩:=bf.Cv (ps:=l) (n:=l.length) C D k d;subst O;have j:=E k d;obtain⟨x,hx⟩:=exq (l.getD k []);rw[<-hx]at j;have u:=aa hx;obtain⟨p2,K,B,_,_⟩:=j.form;rw[B]at M;clear hx d C D E j B L
   go_wp2_with fail
   refine(rb p2 x.length K wr).mono ?_;rintro e X ⟨rfl,T⟩;subst T;have o:=f;have I:Hid (∀b,(fun x=> !decide (x.length=16)) x=b->∀y,l[k]? =some y->(fun x=> !decide (x.length=16)) y=b):=aa fun b a y hy=>by rw[<-a,u.out,DJ,hy];rfl
   have F:Hid ((fun x=> !decide (x.length=16)) x=true->l.any (fun x=> !decide (x.length=16))=true):=aa fun h=>om [] G (by rw[<-u.out];exact h)
   obtain⟨b,a⟩:=exq ((!decide (x.length=16)));rw[<-a];have r:=aa a;clear a;cases b
   ·go_wp2_with fail
    go_roundw
    case rel=>exact⟨k+1,by omega,by go_num,o,aa fun q y P hy=>by
     rcases Gj.1 P with g | g
     ·exact t q y g hy
     ·subst g;exact I false r.symm y hy⟩
    case measure=>simp[Ef];omega
   ·go_wp2_with fail
    go_ret;exact⟨⟨k,rfl,by rw[F.out r.out.symm];simp⟩,o⟩
  ·obtain rfl:k=n:=by omega
   have J:Hid (l.any (fun x=> !decide (x.length=16))=false):=aa (eN t (by rw[<-s.out];exact DH _))
   go_wp2_with fail
   go_ret;exact⟨⟨-1,rfl,by rw[J.out];rfl⟩,f⟩
theorem vM (v:DG) (l:List (List Int)) (w:DF) (h:bf w v l):
  DN DE 120 #[v,.func (.func 119) #[] #[]] w fun e w'=>e=.returned (.bool (l.any (fun x=> !decide (x.length=16))))/\az w w':=by
 have a:=aa (vL v l w h);obtain⟨q,g⟩:=exq (l.any (fun x=> !decide (x.length=16)));rw[<-g]at a⊢;clear h;go_enter Tryz.func120,Tryz.ntmps120
 go_wp2_with fail
 refine a.mono ?_;rintro e i ⟨⟨z,rfl,c⟩,b⟩;have d:=aa b;clear b;have f:=aa c;clear c
 go_wp2_with fail
 go_ret;exact⟨by rw[<-f.out];rfl,d⟩
def fP (x:Int):Bool:= !wi x 0 511
def gS (s:Sh):Bool:= !decide (s.2.1.length=16)|| !decide (s.2.2.length<=10)
def fk (b:List Int):Bool:= !decide (b.length=16)
def lp (l:Cp):Bool:=
 if l.kind=3 then !l.places.any fP else if l.kind=4 then !l.shown.any (fun s=>fP s.1)else if l.kind=5 then wi l.Cs 1 512&&wi l.Cq 0 511 else if l.kind=6 then wi l.Cq 0 511 else if l.kind=7 then wi l.code 1 255 else true
def bn (l:Cp):Bool:=wi l.id 0 1099511627776&&wi l.obj 0 1099511627776&&lp l
def bH (l:Cp):Bool:=
 if l.kind=1\/l.kind=6 then wi l.blocks.length 1 512&& !l.blocks.any fk else if l.kind=3 then wi l.places.length 1 12 else if l.kind=4 then wi l.shown.length 1 12&& !l.shown.any gS else true
def pn (l:Cp):Cp:=
 ⟨0,0,0,if l.kind=3 then []else l.places,if l.kind=4 then []else l.shown,if l.kind=5\/l.kind=6 then 0 else l.Cq,if l.kind=5 then 0 else l.Cs,if l.kind=1\/l.kind=6 then []else l.blocks,if l.kind=7 then 0 else l.code⟩
def eA (l:Cp):Bool:=nB (pn l) dI
def tK (s:Sh):List Int:=bN s.1++s.2.1++[(s.2.2.length:Int)]++s.2.2.flatten
def fH (l:Cp):List Int:=
 if l.kind=6 then bN l.Cq++(bN l.blocks.length++l.blocks.flatten)else if l.kind=1 then bN l.blocks.length++l.blocks.flatten else if l.kind=3 then(l.places.length:Int) :: l.places.flatMap bN else if l.kind=4 then(l.shown.length:Int) :: l.shown.flatMap tK else if l.kind=5 then bN l.Cq++bN l.Cs else if l.kind=7 then [l.code]else []
def bL (l:Cp):List Int:=l.kind :: (aM l.id++aM l.obj++fH l)
def aW (l:Cp):Nat:=
 if wi l.kind 1 7=false then 7 else if bn l=false then 1 else if bH l=false then 8 else if eA l=false then 4 else if 8000 < (bL l).length then 3 else 0
theorem iL {x:Int} (h:fP x=false):0<=x/\x<=511:=by
 unfold fP at h;exact bJ.1 (by simpa using h)
theorem df {α :Type} {p: α ->Bool} {l:List α} (h:(!l.any p)=true):∀x∈l,p x=false:=fun x hx=>by
 have h2:l.any p=false:=by simpa using h
 rw[List.any_eq_false]at h2;simpa using h2 x hx
theorem vN (p:Sh->Bool) (q:Sv->Bool) (a:∀x,q x=p (cf x)) (L:List Sv):L.any q=(L.map cf).any p:=by
 rw[List.any_map];congr 1;funext x;exact a x
theorem Aq (L:List Sv):(L.any fun x=> !wi x.1 0 511)=(L.map cf).any fun s=>fP s.1:=vN (fun s=>fP s.1) (fun x=> !wi x.1 0 511) (fun _=>rfl) L
theorem Ar (L:List Sv):(L.any fun x=> !decide (x.2.1.2.length=16)|| !decide (x.2.2.2.length<=10))=(L.map cf).any gS:=vN gS (fun x=> !decide (x.2.1.2.length=16)|| !decide (x.2.2.2.length<=10)) (fun _=>rfl) L
theorem ll.AS {w:DF} {v:DG} {a:Nat} {e:TypeId} {n:Nat} {xs:List DG} (h:w.ownsRow a e 1 v n xs) (b:B<=a) (hx:xs=ao .u8 l):ll w v B e n l:=by
 obtain⟨p,c,d,_,_⟩:=(bh.AS h).form;subst hx d;exact⟨p,c,rfl,dQ h b⟩
theorem dC.CU {w:DF} {v:DG} (h:Rd w .u8 v l):dC w v l:=by
 obtain⟨p,c,a,_,_⟩:=h.form;exact⟨p,c,a,h⟩
theorem tL {w:DF} {v1 v2 v3 v4 v5:DG} {b c d f g:List Int} (h1:Rd w .u8 v1 b) (h2:Rd w .u8 v2 c) (h:Rd w .u8 v3 d) (k:Rd w .u8 v4 f) (l:Rd w .u8 v5 g) (e:TypeId):bf (w.alloc (.cells #[v1,v2,v3,v4,v5] e)) (.slice (some ⟨w.heap.size,0,none⟩) 5 5) [b,c,d,f,g]:=by
 refine⟨[v1,v2,v3,v4,v5],.inr ⟨w.heap.size,0,5,rfl,DH _,show 5<=DV from by decide,fun j u hu=> ?_⟩,rfl,fun i a=> ?_⟩
 ·rw[Nat.zero_add,World.cell?_alloc_new];simpa using hu
 ·have a:i < 5:=a
  match i,a with
  | 0,_=>exact h1.ext (ae _ _)
  | 1,_=>exact h2.ext (ae _ _)
  | 2,_=>exact h.ext (ae _ _)
  | 3,_=>exact k.ext (ae _ _)
  | 4,_=>exact l.ext (ae _ _)
theorem dK {l:Cp} (h:bn l=true):(0<=l.id/\l.id<=1099511627776)/\(0<=l.obj/\l.obj<=1099511627776)/\lp l=true:=by
 unfold bn at h;rw[Ek,Ek]at h;exact⟨bJ.1 h.1.1,bJ.1 h.1.2,h.2⟩
theorem dL {α :Type} (n:Nat):∀(a:List (List α)),(∀x∈a,x.length=n)->a.flatten.length=a.length*n
 | [],_=>by simp
 | x :: r,h=>by
  have h1:=h x (by simp);have h2:=dL n r (fun y hy=>h y (FM _ hy));rw[List.flatten_cons,DS,h1,h2,Eu,Nat.add_mul];omega
theorem fI {b:List Int} (h:fk b=false):b.length=16:=by
 unfold fk at h;simpa using h
theorem lV {s:Sh} (h:gS s=false):s.2.1.length=16/\s.2.2.length<=10:=by
 unfold gS at h;simpa using h
theorem xR {s:Sh} (h:gS s=false) (b:dm s.2.2):(tK s).length<=339:=by
 obtain⟨h1,h2⟩:=lV h;have a:=dL 32 s.2.2 (fun x hx=>(b x hx).1);unfold tK;simp only[DS,List.length_singleton,h1,a];have:(bN s.1).length=2:=rfl;omega
theorem vO (l:List Int):(l.flatMap bN).length=l.length*2:=by
 induction l with
 | nil=>rfl
 | cons x r ih=>rw[List.flatMap_cons,DS,ih,Eu];have:(bN x).length=2:=rfl;omega
theorem sI (l:List Sh) (h:∀s∈l,gS s=false/\dm s.2.2):(l.flatMap tK).length<=l.length*339:=by
 induction l with
 | nil=>simp
 | cons x r ih=>have h1:=xR (h x (by simp)).1 (h x (by simp)).2;have h2:=ih (fun y hy=>h y (FM _ hy));rw[List.flatMap_cons,DS,Eu];omega
theorem fm {α β :Type} (d: α) (f: α ->List β) (l:List α) (k:Nat) (h:k < l.length):(l.take (k+1)).flatMap f=(l.take k).flatMap f++f (l.getD k d):=by
 rw[DJ,DL h,List.take_succ_eq_append_getElem h,List.flatMap_append];simp
theorem jz {k:Int} (h:1<=k/\k<=7):k=1\/k=2\/k=3\/k=4\/k=5\/k=6\/k=7:=by omega
theorem pA (v:DG) (l:Cp) (w:DF) (h:dH w v l) (D:1<=l.kind/\l.kind<=7):
  DN DE 69 #[v] w fun e w'=>e=.returned (.bool (bn l))/\az w w':=by
 obtain⟨ah,vp,vs,vb,L,rfl,u⟩:=h;obtain rfl:=u.eq;have Z:=aa u;obtain⟨p1,k,e1,_,_⟩:=u.pl.form;obtain⟨p2,m,e2,_,_⟩:=u.sh.rd.form;obtain⟨p,o,e3,_,_⟩:=u.bl.form;subst e1 e2 e3;obtain⟨x,id,j,pl,sh,g,f,R,d⟩:=l;obtain⟨_,F,O,B,S,T⟩:=u;simp only at F O B S T D;obtain⟨n,E⟩:=exq pl.length;obtain⟨i,A⟩:=exq L.length;obtain⟨nb,U⟩:=exq R.length;have ac:Hid (i=sh.length):=aa (by rw[A,<-B,D2]);have P:Hid (∀q,az w q->DN DE 116 #[.slice p1 n k,.func (.func 114) #[] #[]] q fun e w'=>e=.returned (.bool (pl.any fP))/\az q w'):=aa fun q h2=>by have h:=vK _ _ q (F.ext h2);rw[E];exact h
 have Q:Hid (∀q,az w q->DN DE 117 #[.slice p2 i m,.func (.func 118) #[] #[]] q fun e w'=>e=.returned (.bool (sh.any fun s=>fP s.1))/\az q w'):=aa fun q h2=>by have h:=tH _ _ q (O.ext h2);rw[Aq,B]at h;rw[A];exact h
 rw[<-E,<-A,<-U];clear F O B S T E A U Z ac;obtain⟨r,G⟩:=exq (wi id 0 1099511627776);obtain⟨t,H⟩:=exq (wi j 0 1099511627776);obtain⟨V,I⟩:=exq (pl.any fP);obtain⟨W,J⟩:=exq (sh.any fun s=>fP s.1);obtain⟨X,K⟩:=exq (wi f 1 512);obtain⟨C,M⟩:=exq (wi g 0 511);obtain⟨Y,N⟩:=exq (wi d 1 255);rw[<-I]at P;rw[<-J]at Q;have c:=aa (DT G (DT H (DT K (DT M N))));have HV:Hid (bn ⟨x,id,j,pl,sh,g,f,R,d⟩=(r&&t&&(if x=3 then !V else if x=4 then !W else if x=5 then X&&C else if x=6 then C else if x=7 then Y else true))):=aa (by unfold bn lp;rw[G,H,I,J,K,M,N]);clear G H I J K M N;have Hk:=aa D;clear D;rcases jz Hk with rfl | rfl | rfl | rfl | rfl | rfl | rfl
 ·have a:=aa (ae w (.cells #[.int .i64 1,.int .i64 id,.int .i64 j,.slice p1 n k,.slice p2 i m,.int .i64 g,.int .i64 f,.slice p nb o,.int .i64 d] 26));show DN DE 69 #[.agg #[.int .i64 1,.int .i64 id,.int .i64 j,.slice p1 n k,.slice p2 i m,.int .i64 g,.int .i64 f,.slice p nb o,.int .i64 d]] w _;go_enter Tryz.func69,Ib
  go_wp2_with fail
  refine(bg _ _ _ _).mono ?_;rintro e b ⟨rfl,hw⟩;subst hw;rw[<-c.out.1];cases r
  ·go_wp2_with fail
   go_ret;exact⟨by rw[HV.out];rfl,a⟩
  go_wp2_with fail
  refine(bg _ _ _ _).mono ?_;rintro e b ⟨rfl,hw⟩;subst hw;rw[<-c.out.2.1];cases t
  ·go_wp2_with fail
   go_ret;exact⟨by rw[HV.out];rfl,a⟩
  go_wp2_with fail
  go_ret;exact⟨by rw[HV.out];rfl,a⟩
 ·have a:=aa (ae w (.cells #[.int .i64 2,.int .i64 id,.int .i64 j,.slice p1 n k,.slice p2 i m,.int .i64 g,.int .i64 f,.slice p nb o,.int .i64 d] 26));show DN DE 69 #[.agg #[.int .i64 2,.int .i64 id,.int .i64 j,.slice p1 n k,.slice p2 i m,.int .i64 g,.int .i64 f,.slice p nb o,.int .i64 d]] w _;go_enter Tryz.func69,Ib
  go_wp2_with fail
  refine(bg _ _ _ _).mono ?_;rintro e b ⟨rfl,hw⟩;subst hw;rw[<-c.out.1];cases r
  ·go_wp2_with fail
   go_ret;exact⟨by rw[HV.out];rfl,a⟩
  go_wp2_with fail
  refine(bg _ _ _ _).mono ?_;rintro e b ⟨rfl,hw⟩;subst hw;rw[<-c.out.2.1];cases t
  ·go_wp2_with fail
   go_ret;exact⟨by rw[HV.out];rfl,a⟩
  go_wp2_with fail
  go_ret;exact⟨by rw[HV.out];rfl,a⟩
 ·have a:=aa (ae w (.cells #[.int .i64 3,.int .i64 id,.int .i64 j,.slice p1 n k,.slice p2 i m,.int .i64 g,.int .i64 f,.slice p nb o,.int .i64 d] 26));show DN DE 69 #[.agg #[.int .i64 3,.int .i64 id,.int .i64 j,.slice p1 n k,.slice p2 i m,.int .i64 g,.int .i64 f,.slice p nb o,.int .i64 d]] w _;go_enter Tryz.func69,Ib
  go_wp2_with fail
  refine(bg _ _ _ _).mono ?_;rintro e b ⟨rfl,hw⟩;subst hw;rw[<-c.out.1];cases r
  ·go_wp2_with fail
   go_ret;exact⟨by rw[HV.out];rfl,a⟩
  go_wp2_with fail
  refine(bg _ _ _ _).mono ?_;rintro e b ⟨rfl,hw⟩;subst hw;rw[<-c.out.2.1];cases t
  ·go_wp2_with fail
   go_ret;exact⟨by rw[HV.out];rfl,a⟩
  go_wp2_with fail
  refine(P _ a).mono ?_;rintro e b ⟨rfl,z⟩;have y:=aa (a.trans z);clear z;cases V
  ·go_wp2_with fail
   go_ret;exact⟨by rw[HV.out];rfl,y⟩
  go_wp2_with fail
  go_ret;exact⟨by rw[HV.out];rfl,y⟩
 ·have a:=aa (ae w (.cells #[.int .i64 4,.int .i64 id,.int .i64 j,.slice p1 n k,.slice p2 i m,.int .i64 g,.int .i64 f,.slice p nb o,.int .i64 d] 26));show DN DE 69 #[.agg #[.int .i64 4,.int .i64 id,.int .i64 j,.slice p1 n k,.slice p2 i m,.int .i64 g,.int .i64 f,.slice p nb o,.int .i64 d]] w _;go_enter Tryz.func69,Ib
  go_wp2_with fail
  refine(bg _ _ _ _).mono ?_;rintro e b ⟨rfl,hw⟩;subst hw;rw[<-c.out.1];cases r
  ·go_wp2_with fail
   go_ret;exact⟨by rw[HV.out];rfl,a⟩
  go_wp2_with fail
  refine(bg _ _ _ _).mono ?_;rintro e b ⟨rfl,hw⟩;subst hw;rw[<-c.out.2.1];cases t
  ·go_wp2_with fail
   go_ret;exact⟨by rw[HV.out];rfl,a⟩
  go_wp2_with fail
  refine(Q _ a).mono ?_;rintro e b ⟨rfl,z⟩;have y:=aa (a.trans z);clear z;cases W
  ·go_wp2_with fail
   go_ret;exact⟨by rw[HV.out];rfl,y⟩
  go_wp2_with fail
  go_ret;exact⟨by rw[HV.out];rfl,y⟩
 ·have a:=aa (ae w (.cells #[.int .i64 5,.int .i64 id,.int .i64 j,.slice p1 n k,.slice p2 i m,.int .i64 g,.int .i64 f,.slice p nb o,.int .i64 d] 26));show DN DE 69 #[.agg #[.int .i64 5,.int .i64 id,.int .i64 j,.slice p1 n k,.slice p2 i m,.int .i64 g,.int .i64 f,.slice p nb o,.int .i64 d]] w _;go_enter Tryz.func69,Ib
  go_wp2_with fail
  refine(bg _ _ _ _).mono ?_;rintro e b ⟨rfl,hw⟩;subst hw;rw[<-c.out.1];cases r
  ·go_wp2_with fail
   go_ret;exact⟨by rw[HV.out];rfl,a⟩
  go_wp2_with fail
  refine(bg _ _ _ _).mono ?_;rintro e b ⟨rfl,hw⟩;subst hw;rw[<-c.out.2.1];cases t
  ·go_wp2_with fail
   go_ret;exact⟨by rw[HV.out];rfl,a⟩
  go_wp2_with fail
  refine(bg _ _ _ _).mono ?_;rintro e b ⟨rfl,hw⟩;subst hw;rw[<-c.out.2.2.1];cases X
  ·go_wp2_with fail
   go_ret;exact⟨by rw[HV.out];rfl,a⟩
  go_wp2_with fail
  refine(gR _ _).mono ?_;rintro e b ⟨rfl,hw⟩;subst hw;rw[<-c.out.2.2.2.1];cases C
  ·go_wp2_with fail
   go_ret;exact⟨by rw[HV.out];rfl,a⟩
  go_wp2_with fail
  go_ret;exact⟨by rw[HV.out];rfl,a⟩
 ·have a:=aa (ae w (.cells #[.int .i64 6,.int .i64 id,.int .i64 j,.slice p1 n k,.slice p2 i m,.int .i64 g,.int .i64 f,.slice p nb o,.int .i64 d] 26));show DN DE 69 #[.agg #[.int .i64 6,.int .i64 id,.int .i64 j,.slice p1 n k,.slice p2 i m,.int .i64 g,.int .i64 f,.slice p nb o,.int .i64 d]] w _;go_enter Tryz.func69,Ib
  go_wp2_with fail
  refine(bg _ _ _ _).mono ?_;rintro e b ⟨rfl,hw⟩;subst hw;rw[<-c.out.1];cases r
  ·go_wp2_with fail
   go_ret;exact⟨by rw[HV.out];rfl,a⟩
  go_wp2_with fail
  refine(bg _ _ _ _).mono ?_;rintro e b ⟨rfl,hw⟩;subst hw;rw[<-c.out.2.1];cases t
  ·go_wp2_with fail
   go_ret;exact⟨by rw[HV.out];rfl,a⟩
  go_wp2_with fail
  refine(gR _ _).mono ?_;rintro e b ⟨rfl,hw⟩;subst hw;rw[<-c.out.2.2.2.1];cases C
  ·go_wp2_with fail
   go_ret;exact⟨by rw[HV.out];rfl,a⟩
  go_wp2_with fail
  go_ret;exact⟨by rw[HV.out];rfl,a⟩
 ·have a:=aa (ae w (.cells #[.int .i64 7,.int .i64 id,.int .i64 j,.slice p1 n k,.slice p2 i m,.int .i64 g,.int .i64 f,.slice p nb o,.int .i64 d] 26));show DN DE 69 #[.agg #[.int .i64 7,.int .i64 id,.int .i64 j,.slice p1 n k,.slice p2 i m,.int .i64 g,.int .i64 f,.slice p nb o,.int .i64 d]] w _;go_enter Tryz.func69,Ib
  go_wp2_with fail
  refine(bg _ _ _ _).mono ?_;rintro e b ⟨rfl,hw⟩;subst hw;rw[<-c.out.1];cases r
  ·go_wp2_with fail
   go_ret;exact⟨by rw[HV.out];rfl,a⟩
  go_wp2_with fail
  refine(bg _ _ _ _).mono ?_;rintro e b ⟨rfl,hw⟩;subst hw;rw[<-c.out.2.1];cases t
  ·go_wp2_with fail
   go_ret;exact⟨by rw[HV.out];rfl,a⟩
  go_wp2_with fail
  refine(bg _ _ _ _).mono ?_;rintro e b ⟨rfl,hw⟩;subst hw;rw[<-c.out.2.2.2.2];cases Y
  ·go_wp2_with fail
   go_ret;exact⟨by rw[HV.out];rfl,a⟩
  go_wp2_with fail
  go_ret;exact⟨by rw[HV.out];rfl,a⟩
theorem tM (v:DG) (l:Cp) (w:DF) (h:dH w v l) (D:1<=l.kind/\l.kind<=7):
  DN DE 70 #[v] w fun e w'=>e=.returned (.bool (bH l))/\az w w':=by
 obtain⟨ad,vp,vs,vb,L,rfl,r⟩:=h;obtain rfl:=r.eq;have U:=aa r;obtain⟨p1,n,Z,_,_⟩:=r.pl.form;obtain⟨p2,c,e2,_,_⟩:=r.sh.rd.form;obtain⟨m,d,e3,_,_⟩:=r.bl.form;subst Z e2 e3;obtain⟨t,id,k,pl,sh,i,g,x,f⟩:=l;obtain⟨_,Q,K,A,C,P⟩:=r;simp only at Q K A C P D;obtain⟨j,E⟩:=exq pl.length;obtain⟨b,z⟩:=exq L.length;obtain⟨nb,y⟩:=exq x.length;have Y:Hid (b=sh.length):=aa (by rw[z,<-A,D2]);have B:Hid (∀o,az w o->DN DE 120 #[.slice m nb d,.func (.func 119) #[] #[]] o fun e w'=>e=.returned (.bool (x.any fk))/\az o w'):=aa fun o h2=>by have h:=vM _ _ o (C.ext h2);rw[y];exact h
 have O:Hid (∀o,az w o->DN DE 117 #[.slice p2 b c,.func (.func 121) #[] #[]] o fun e w'=>e=.returned (.bool (sh.any gS))/\az o w'):=aa fun o h2=>by have h:=tJ _ _ o (K.ext h2);rw[Ar,A]at h;rw[z];exact h
 rw[<-E,<-z,<-y];have X:=aa E;have W:=aa y;clear Q K A C P E z y U;obtain⟨M,F⟩:=exq (wi nb 1 512);obtain⟨N,G⟩:=exq (x.any fk);obtain⟨R,H⟩:=exq (wi j 1 12);obtain⟨S,I⟩:=exq (wi b 1 12);obtain⟨T,J⟩:=exq (sh.any gS);rw[<-G]at B;rw[<-J]at O;have u:=aa (DT F (DT H I));have HV:Hid (bH ⟨t,id,k,pl,sh,i,g,x,f⟩=(if t=1\/t=6 then M&& !N else if t=3 then R else if t=4 then S&& !T else true)):=aa (by unfold bH;simp only;rw[<-Y.out,<-X.out,<-W.out,F,G,H,I,J]);clear F G H I J;have V:=aa D;clear D;rcases jz V with rfl | rfl | rfl | rfl | rfl | rfl | rfl
 ·have a:=aa (ae w (.cells #[.int .i64 1,.int .i64 id,.int .i64 k,.slice p1 j n,.slice p2 b c,.int .i64 i,.int .i64 g,.slice m nb d,.int .i64 f] 26));show DN DE 70 #[.agg #[.int .i64 1,.int .i64 id,.int .i64 k,.slice p1 j n,.slice p2 b c,.int .i64 i,.int .i64 g,.slice m nb d,.int .i64 f]] w _;go_enter Tryz.func70,Ic
  go_wp2_with fail
  refine(bg _ _ _ _).mono ?_;rintro e s ⟨rfl,hw⟩;subst hw;rw[<-u.out.1];cases M
  ·go_wp2_with fail
   go_ret;exact⟨by rw[HV.out];rfl,a⟩
  go_wp2_with fail
  refine(B _ a).mono ?_;rintro e s ⟨rfl,q⟩;have p:=aa (a.trans q);clear q;cases N
  ·go_wp2_with fail
   go_ret;exact⟨by rw[HV.out];rfl,p⟩
  go_wp2_with fail
  go_ret;exact⟨by rw[HV.out];rfl,p⟩
 ·have a:=aa (ae w (.cells #[.int .i64 2,.int .i64 id,.int .i64 k,.slice p1 j n,.slice p2 b c,.int .i64 i,.int .i64 g,.slice m nb d,.int .i64 f] 26));show DN DE 70 #[.agg #[.int .i64 2,.int .i64 id,.int .i64 k,.slice p1 j n,.slice p2 b c,.int .i64 i,.int .i64 g,.slice m nb d,.int .i64 f]] w _;go_enter Tryz.func70,Ic
  go_wp2_with fail
  go_ret;exact⟨by rw[HV.out];rfl,a⟩
 ·have a:=aa (ae w (.cells #[.int .i64 3,.int .i64 id,.int .i64 k,.slice p1 j n,.slice p2 b c,.int .i64 i,.int .i64 g,.slice m nb d,.int .i64 f] 26));show DN DE 70 #[.agg #[.int .i64 3,.int .i64 id,.int .i64 k,.slice p1 j n,.slice p2 b c,.int .i64 i,.int .i64 g,.slice m nb d,.int .i64 f]] w _;go_enter Tryz.func70,Ic
  go_wp2_with fail
  refine(bg _ _ _ _).mono ?_;rintro e s ⟨rfl,hw⟩;subst hw;rw[<-u.out.2.1];cases R
  ·go_wp2_with fail
   go_ret;exact⟨by rw[HV.out];rfl,a⟩
  go_wp2_with fail
  go_ret;exact⟨by rw[HV.out];rfl,a⟩
 ·have a:=aa (ae w (.cells #[.int .i64 4,.int .i64 id,.int .i64 k,.slice p1 j n,.slice p2 b c,.int .i64 i,.int .i64 g,.slice m nb d,.int .i64 f] 26));show DN DE 70 #[.agg #[.int .i64 4,.int .i64 id,.int .i64 k,.slice p1 j n,.slice p2 b c,.int .i64 i,.int .i64 g,.slice m nb d,.int .i64 f]] w _;go_enter Tryz.func70,Ic
  go_wp2_with fail
  refine(bg _ _ _ _).mono ?_;rintro e s ⟨rfl,hw⟩;subst hw;rw[<-u.out.2.2];cases S
  ·go_wp2_with fail
   go_ret;exact⟨by rw[HV.out];rfl,a⟩
  go_wp2_with fail
  refine(O _ a).mono ?_;rintro e s ⟨rfl,q⟩;have p:=aa (a.trans q);clear q;cases T
  ·go_wp2_with fail
   go_ret;exact⟨by rw[HV.out];rfl,p⟩
  go_wp2_with fail
  go_ret;exact⟨by rw[HV.out];rfl,p⟩
 ·have a:=aa (ae w (.cells #[.int .i64 5,.int .i64 id,.int .i64 k,.slice p1 j n,.slice p2 b c,.int .i64 i,.int .i64 g,.slice m nb d,.int .i64 f] 26));show DN DE 70 #[.agg #[.int .i64 5,.int .i64 id,.int .i64 k,.slice p1 j n,.slice p2 b c,.int .i64 i,.int .i64 g,.slice m nb d,.int .i64 f]] w _;go_enter Tryz.func70,Ic
  go_wp2_with fail
  go_ret;exact⟨by rw[HV.out];rfl,a⟩
 ·have a:=aa (ae w (.cells #[.int .i64 6,.int .i64 id,.int .i64 k,.slice p1 j n,.slice p2 b c,.int .i64 i,.int .i64 g,.slice m nb d,.int .i64 f] 26));show DN DE 70 #[.agg #[.int .i64 6,.int .i64 id,.int .i64 k,.slice p1 j n,.slice p2 b c,.int .i64 i,.int .i64 g,.slice m nb d,.int .i64 f]] w _;go_enter Tryz.func70,Ic
  go_wp2_with fail
  refine(bg _ _ _ _).mono ?_;rintro e s ⟨rfl,hw⟩;subst hw;rw[<-u.out.1];cases M
  ·go_wp2_with fail
   go_ret;exact⟨by rw[HV.out];rfl,a⟩
  go_wp2_with fail
  refine(B _ a).mono ?_;rintro e s ⟨rfl,q⟩;have p:=aa (a.trans q);clear q;cases N
  ·go_wp2_with fail
   go_ret;exact⟨by rw[HV.out];rfl,p⟩
  go_wp2_with fail
  go_ret;exact⟨by rw[HV.out];rfl,p⟩
 ·have a:=aa (ae w (.cells #[.int .i64 7,.int .i64 id,.int .i64 k,.slice p1 j n,.slice p2 b c,.int .i64 i,.int .i64 g,.slice m nb d,.int .i64 f] 26));show DN DE 70 #[.agg #[.int .i64 7,.int .i64 id,.int .i64 k,.slice p1 j n,.slice p2 b c,.int .i64 i,.int .i64 g,.slice m nb d,.int .i64 f]] w _;go_enter Tryz.func70,Ic
  go_wp2_with fail
  go_ret;exact⟨by rw[HV.out];rfl,a⟩
theorem gy (w:DF) (A R:List DG) (a b:TypeId) (c:R≠[]):av ((w.alloc (.cells A.toArray a)).alloc (.cells R.toArray b)) (w.heap.size+1) R:=by
 have h:=av.box (w.alloc (.cells A.toArray a)) b c;rw[World.size_alloc]at h;exact h
theorem vP (v:DG) (l:Cp) (w:DF) (h:dH w v l) (z:1<=l.kind/\l.kind<=7):
  DN DE 72 #[v] w fun e w'=>∃H,e=.returned H/\dH w' H (pn l)/\az w w':=by
 obtain⟨J,vp,vs,vb,L,rfl,o⟩:=h;obtain rfl:=o.eq;obtain⟨K,id,r,pl,sh,n,m,x,k⟩:=l;obtain⟨p1,c,B,_,_⟩:=o.pl.form;obtain⟨p2,d,C,_,_⟩:=o.sh.rd.form;obtain⟨j,i,D,_,_⟩:=o.bl.form;have p:Hid (Rd w .i64 vp pl):=aa o.pl;have q:=aa o.sh;have t:Hid (L.map cf=sh):=aa o.sl;have s:Hid (bf w vb x):=aa o.bl;have u:Hid (∀b∈x,bA b):=aa o.Ct;simp only at B C D z;subst B C D;clear o;obtain⟨f,F⟩:=exq pl.length;obtain⟨g,G⟩:=exq L.length;obtain⟨nb,E⟩:=exq x.length;rw[<-F]at p⊢;rw[<-G]at q⊢;rw[<-E]at s⊢;clear F G E;have I:=aa z;clear z;rcases jz I with rfl | rfl | rfl | rfl | rfl | rfl | rfl
 ·show DN DE 72 #[.agg #[.int .i64 1,.int .i64 id,.int .i64 r,.slice p1 f c,.slice p2 g d,.int .i64 n,.int .i64 m,.slice j nb i,.int .i64 k]] w _;have a:Hid (∀A R,az w ((w.alloc (.cells A 26)).alloc (.cells R 26))):=aa fun A R=>(ae _ _).trans (ae _ _)
  go_enter Tryz.func72,Ie
  go_wp2_with fail
  refine DK (v:=.agg ([.int .i64 0,.int .i64 0,.int .i64 0,.slice p1 f c,.slice p2 g d,.int .i64 n,.int .i64 m,.slice none 0 0,.int .i64 k]:List DG).toArray) (aG rfl rfl ((gy w _ [.int .i64 0,.int .i64 0,.int .i64 0,.slice p1 f c,.slice p2 g d,.int .i64 n,.int .i64 m,.slice none 0 0,.int .i64 k] _ _ (fun h=>by cases h)).loadVar (P:=DE) DQ rfl (by kernel_rfl))) rfl ⟨_,rfl,⟨_,.slice p1 f c,.slice p2 g d,.slice none 0 0,L,rfl,rfl,?_,?_,?_,?_,?_⟩,a _ _⟩
  ·exact p.ext (a _ _)
  ·exact q.ext (a _ _)
  ·exact t
  ·exact bf.nil _
  ·exact fun b y=>by cases y
 ·show DN DE 72 #[.agg #[.int .i64 2,.int .i64 id,.int .i64 r,.slice p1 f c,.slice p2 g d,.int .i64 n,.int .i64 m,.slice j nb i,.int .i64 k]] w _;have a:Hid (∀A R,az w ((w.alloc (.cells A 26)).alloc (.cells R 26))):=aa fun A R=>(ae _ _).trans (ae _ _)
  go_enter Tryz.func72,Ie
  go_wp2_with fail
  refine DK (v:=.agg ([.int .i64 0,.int .i64 0,.int .i64 0,.slice p1 f c,.slice p2 g d,.int .i64 n,.int .i64 m,.slice j nb i,.int .i64 k]:List DG).toArray) (aG rfl rfl ((gy w _ [.int .i64 0,.int .i64 0,.int .i64 0,.slice p1 f c,.slice p2 g d,.int .i64 n,.int .i64 m,.slice j nb i,.int .i64 k] _ _ (fun h=>by cases h)).loadVar (P:=DE) DQ rfl (by kernel_rfl))) rfl ⟨_,rfl,⟨_,.slice p1 f c,.slice p2 g d,.slice j nb i,L,rfl,rfl,?_,?_,?_,?_,?_⟩,a _ _⟩
  ·exact p.ext (a _ _)
  ·exact q.ext (a _ _)
  ·exact t
  ·exact s.ext (a _ _)
  ·exact u
 ·show DN DE 72 #[.agg #[.int .i64 3,.int .i64 id,.int .i64 r,.slice p1 f c,.slice p2 g d,.int .i64 n,.int .i64 m,.slice j nb i,.int .i64 k]] w _;have a:Hid (∀A R,az w ((w.alloc (.cells A 26)).alloc (.cells R 26))):=aa fun A R=>(ae _ _).trans (ae _ _)
  go_enter Tryz.func72,Ie
  go_wp2_with fail
  refine DK (v:=.agg ([.int .i64 0,.int .i64 0,.int .i64 0,.slice none 0 0,.slice p2 g d,.int .i64 n,.int .i64 m,.slice j nb i,.int .i64 k]:List DG).toArray) (aG rfl rfl ((gy w _ [.int .i64 0,.int .i64 0,.int .i64 0,.slice none 0 0,.slice p2 g d,.int .i64 n,.int .i64 m,.slice j nb i,.int .i64 k] _ _ (fun h=>by cases h)).loadVar (P:=DE) DQ rfl (by kernel_rfl))) rfl ⟨_,rfl,⟨_,.slice none 0 0,.slice p2 g d,.slice j nb i,L,rfl,rfl,?_,?_,?_,?_,?_⟩,a _ _⟩
  ·exact Rd.nil _ _
  ·exact q.ext (a _ _)
  ·exact t
  ·exact s.ext (a _ _)
  ·exact u
 ·show DN DE 72 #[.agg #[.int .i64 4,.int .i64 id,.int .i64 r,.slice p1 f c,.slice p2 g d,.int .i64 n,.int .i64 m,.slice j nb i,.int .i64 k]] w _;have a:Hid (∀A R,az w ((w.alloc (.cells A 26)).alloc (.cells R 26))):=aa fun A R=>(ae _ _).trans (ae _ _)
  go_enter Tryz.func72,Ie
  go_wp2_with fail
  refine DK (v:=.agg ([.int .i64 0,.int .i64 0,.int .i64 0,.slice p1 f c,.slice none 0 0,.int .i64 n,.int .i64 m,.slice j nb i,.int .i64 k]:List DG).toArray) (aG rfl rfl ((gy w _ [.int .i64 0,.int .i64 0,.int .i64 0,.slice p1 f c,.slice none 0 0,.int .i64 n,.int .i64 m,.slice j nb i,.int .i64 k] _ _ (fun h=>by cases h)).loadVar (P:=DE) DQ rfl (by kernel_rfl))) rfl ⟨_,rfl,⟨_,.slice p1 f c,.slice none 0 0,.slice j nb i,[],rfl,rfl,?_,?_,?_,?_,?_⟩,a _ _⟩
  ·exact p.ext (a _ _)
  ·exact oe.nil _
  ·exact rfl
  ·exact s.ext (a _ _)
  ·exact u
 ·show DN DE 72 #[.agg #[.int .i64 5,.int .i64 id,.int .i64 r,.slice p1 f c,.slice p2 g d,.int .i64 n,.int .i64 m,.slice j nb i,.int .i64 k]] w _;have a:Hid (∀A R,az w ((w.alloc (.cells A 26)).alloc (.cells R 26))):=aa fun A R=>(ae _ _).trans (ae _ _)
  go_enter Tryz.func72,Ie
  go_wp2_with fail
  refine DK (v:=.agg ([.int .i64 0,.int .i64 0,.int .i64 0,.slice p1 f c,.slice p2 g d,.int .i64 0,.int .i64 0,.slice j nb i,.int .i64 k]:List DG).toArray) (aG rfl rfl ((gy w _ [.int .i64 0,.int .i64 0,.int .i64 0,.slice p1 f c,.slice p2 g d,.int .i64 0,.int .i64 0,.slice j nb i,.int .i64 k] _ _ (fun h=>by cases h)).loadVar (P:=DE) DQ rfl (by kernel_rfl))) rfl ⟨_,rfl,⟨_,.slice p1 f c,.slice p2 g d,.slice j nb i,L,rfl,rfl,?_,?_,?_,?_,?_⟩,a _ _⟩
  ·exact p.ext (a _ _)
  ·exact q.ext (a _ _)
  ·exact t
  ·exact s.ext (a _ _)
  ·exact u
 ·show DN DE 72 #[.agg #[.int .i64 6,.int .i64 id,.int .i64 r,.slice p1 f c,.slice p2 g d,.int .i64 n,.int .i64 m,.slice j nb i,.int .i64 k]] w _;have a:Hid (∀A R,az w ((w.alloc (.cells A 26)).alloc (.cells R 26))):=aa fun A R=>(ae _ _).trans (ae _ _)
  go_enter Tryz.func72,Ie
  go_wp2_with fail
  refine DK (v:=.agg ([.int .i64 0,.int .i64 0,.int .i64 0,.slice p1 f c,.slice p2 g d,.int .i64 0,.int .i64 m,.slice none 0 0,.int .i64 k]:List DG).toArray) (aG rfl rfl ((gy w _ [.int .i64 0,.int .i64 0,.int .i64 0,.slice p1 f c,.slice p2 g d,.int .i64 0,.int .i64 m,.slice none 0 0,.int .i64 k] _ _ (fun h=>by cases h)).loadVar (P:=DE) DQ rfl (by kernel_rfl))) rfl ⟨_,rfl,⟨_,.slice p1 f c,.slice p2 g d,.slice none 0 0,L,rfl,rfl,?_,?_,?_,?_,?_⟩,a _ _⟩
  ·exact p.ext (a _ _)
  ·exact q.ext (a _ _)
  ·exact t
  ·exact bf.nil _
  ·exact fun b y=>by cases y
 ·show DN DE 72 #[.agg #[.int .i64 7,.int .i64 id,.int .i64 r,.slice p1 f c,.slice p2 g d,.int .i64 n,.int .i64 m,.slice j nb i,.int .i64 k]] w _;have a:Hid (∀A R,az w ((w.alloc (.cells A 26)).alloc (.cells R 26))):=aa fun A R=>(ae _ _).trans (ae _ _)
  go_enter Tryz.func72,Ie
  go_wp2_with fail
  refine DK (v:=.agg ([.int .i64 0,.int .i64 0,.int .i64 0,.slice p1 f c,.slice p2 g d,.int .i64 n,.int .i64 m,.slice j nb i,.int .i64 0]:List DG).toArray) (aG rfl rfl ((gy w _ [.int .i64 0,.int .i64 0,.int .i64 0,.slice p1 f c,.slice p2 g d,.int .i64 n,.int .i64 m,.slice j nb i,.int .i64 0] _ _ (fun h=>by cases h)).loadVar (P:=DE) DQ rfl (by kernel_rfl))) rfl ⟨_,rfl,⟨_,.slice p1 f c,.slice p2 g d,.slice j nb i,L,rfl,rfl,?_,?_,?_,?_,?_⟩,a _ _⟩
  ·exact p.ext (a _ _)
  ·exact q.ext (a _ _)
  ·exact t
  ·exact s.ext (a _ _)
  ·exact u
theorem Rd.Cw {w:DF} {e n:Nat} {v:DG} (h:w.ownsRow B e 1 v n (ao .u8 l)):Rd w .u8 v l:=by
 have h1:=h.1;rw[ints_length,Fi]at h1;subst h1;exact bh.AS h
theorem jX (x:Int) (w:DF) (h0:0<=x) (h1:x<=65535):
  DN DE 102 #[.int .i64 x] w fun e w'=>∃p c,e=.returned (.slice p 2 c)/\bh w' (.slice p 2 c) 2 (ao .u8 (bN x))/\az w w':=
 (ly x w h0 h1).mono fun _ _ ⟨_,h1,⟨p,c,h2,a⟩,b⟩=>⟨p,c,by rw[h1,h2];rfl,by rw[h2]at a;exact a,b⟩
theorem y4 (v:DG) (k a b:Int) (w:DF) (B:Nat) (h:bf w v [[k],aM a,aM b]) (i:B<=w.heap.size):
  DN DE 100 #[v] w fun e w'=>∃c,e=.returned c/\ll w' c B 5 17 (k :: (aM a++aM b))/\az w w':=by
 have d: [[k],aM a,aM b].flatten=k :: (aM a++aM b):=by simp
 have f:(k :: (aM a++aM b)).length=17:=rfl;refine(kB v _ w h (by rw[d,f];decide) (by rw[d,f];decide)).mono fun e w' ⟨c,h1,h2,g⟩=>⟨c,h1,?_,g⟩
 rw[d,f]at h2;exact ll.AS h2 i rfl
theorem nC (v:DG) (l:Cp) (w:DF) (h:dH w v l) (hk:1<=l.kind/\l.kind<=7) (J:bn l=true) (hz:bH l=true):
  DN DE 59 #[v] w fun e w'=>∃B,e=.returned B/\Rd w' .u8 B (bL l)/\az w w':=by
 obtain⟨dZ,vp,vs,vb,L,rfl,j⟩:=h;obtain rfl:=j.eq;obtain⟨hid,cA,cz⟩:=dK J;obtain⟨V,id,d,pl,sh,y,G,r,I⟩:=l;obtain⟨p1,c1,e1,cu,dz⟩:=j.pl.form;obtain⟨p2,c2,e2,dq,dA⟩:=j.sh.rd.form;obtain⟨p3,c3,e3,_,_⟩:=j.bl.form;have bK:Hid (Rd w .i64 vp pl):=aa j.pl;have bO:=aa j.sh;have aV:Hid (L.map cf=sh):=aa j.sl;have bF:Hid (bf w vb r):=aa j.bl;simp only at e1 e2 e3 hk hid cA cu;subst e1 e2 e3;clear j J;unfold DV at dz dA;obtain⟨O,b2⟩:=exq pl.length;obtain⟨H,b3⟩:=exq L.length;obtain⟨nb,b1⟩:=exq r.length;have a7:=aa b2;have bm:=aa b3;have af:=aa b1;rw[<-b2]at bK cu⊢;rw[<-b3]at bO dq⊢;rw[<-b1]at bF⊢;clear b2 b3 b1;have a8:=aa cz;have Hz:=aa hz;clear cz hz;obtain⟨W0,bb⟩:=exq (w.alloc (.cells #[.int .i64 V,.int .i64 id,.int .i64 d,.slice p1 O c1,.slice p2 H c2,.int .i64 y,.int .i64 G,.slice p3 nb c3,.int .i64 I] 26));have cP:Hid (az w W0):=aa (by rw[bb];exact ae _ _);have HB:Hid (av W0 w.heap.size (cL ⟨V,id,d,pl,sh,y,G,r,I⟩ (.slice p1 O c1) (.slice p2 H c2) (.slice p3 nb c3))):=aa (by rw[bb];exact av.box w 26 (cs:=(cL ⟨V,id,d,pl,sh,y,G,r,I⟩ (.slice p1 O c1) (.slice p2 H c2) (.slice p3 nb c3))) (fun h=>by cases h));have da:Hid (w.heap.size+1<=W0.heap.size):=aa (by rw[bb];simp);show DN DE 59 #[.agg #[.int .i64 V,.int .i64 id,.int .i64 d,.slice p1 O c1,.slice p2 H c2,.int .i64 y,.int .i64 G,.slice p3 nb c3,.int .i64 I]] w _;obtain⟨dx,dy⟩:=hk;obtain⟨dt,du⟩:=hid;obtain⟨dv,dw⟩:=cA;have dR:Hid (0 < [[V],aM id,aM d].flatten.length/\[[V],aM id,aM d].flatten.length<=1099511627776):=aa ⟨by simp,by simp[aM]⟩;have dE:IntKind.u8.wrap V=V:=IntWalk.u8_in _ (by omega);go_enter Tryz.func59,Tryz.ntmps59
 go_wp2_with fail
 rw[<-bb];clear bb;apply aL 12 [8,9,10,11,12,13,14,15,16,17,18,19] [ar _,ar _,ar _,(fun v w'=>dC w' v [V]),ar _,ar _,(fun v w'=>dC w' v (aM id)),ar _,ar _,(fun v w'=>dC w' v (aM d)),(fun v w'=>bf w' v [[V],aM id,aM d]),(fun v w'=>ll w' v (w.heap.size+1) 5 17 (V :: (aM id++aM d)))] (by kernel_rfl) (by kernel_rfl) (by kernel_rfl) (by kernel_rfl);case hsteps=>
  refine⟨?_,?_,?_,?_,?_,?_,?_,?_,?_,?_,?_,?_,trivial⟩;all_goals
   intro ev F z hb S;have e1:=hb 1 (by decide);clear hb;simp only[sB]at e1;simp only[sD]at S;have j:=(aD z).1;have q0:=(HB.ext z).cell (i:=0) rfl;have q1:=(HB.ext z).cell (i:=1) rfl;have q2:=(HB.ext z).cell (i:=2) rfl;try (obtain⟨⟨p5,c5,h5,cn⟩,⟨p6,c6,h6,am⟩,⟨p7,c7,h7,ap⟩⟩:=S;rw[h5]at cn;rw[h6]at am;rw[h7]at ap)
   simp only[dJ,DP,if_true];go_simp;first | exact⟨ae _ _,n7 _ _ _⟩ | exact⟨ae _ _,jw cn am ap _⟩ | (go_at_call 101;(with_reducible refine(lU id _ dt du).mono ?_);rintro e D ⟨B,rfl,h1,h2⟩;exact⟨_,rfl,h2,h1⟩) | (go_at_call 101;(with_reducible refine(lU d _ dv dw).mono ?_);rintro e D ⟨B,rfl,h1,h2⟩;exact⟨_,rfl,h2,h1⟩) | (go_at_call 100;(with_reducible refine(y4 _ V id d _ (w.heap.size+1) (by first | exact S | exact S.1) (D0 da.out z.size)).mono ?_);rintro e D ⟨B,rfl,h1,h2⟩;exact⟨_,rfl,h2,h1⟩) | exact⟨DI _ _,rfl⟩
 case hmono=>exact⟨aB _,aB _,aB _,(fun _ _ _ h k=>dC.ext h k),aB _,aB _,(fun _ _ _ h k=>dC.ext h k),aB _,aB _,(fun _ _ _ h k=>dC.ext h k),(fun _ _ _ h k=>bf.ext h k),(fun _ _ _ h k=>ll.ext h k),trivial⟩
 case hend=>
  intro u F z hend;simp only[sE]at hend;simp only[sF,hend];obtain⟨dM,dh,cE,b4⟩:ll F (u 19) (w.heap.size+1) 5 17 (V :: (aM id++aM d)):=(by first | ((repeat(first | exact hend | exact hend.2 | replace hend:=hend.1));done) | (repeat(first | exact hend | exact hend.1 | replace hend:=hend.2)));rw[cE]at b4⊢;have aA:=aa (cP.trans z);have U:=aa (HB.ext z);have aE:=aa b4;clear hend z cE b4 HB dE;have q0:=U.cell (i:=0) rfl;rcases jz ⟨dx,dy⟩with rfl | rfl | rfl | rfl | rfl | rfl | rfl
  ·have Y:Hid ((1<=nb/\nb<=512)/\∀b∈r,fk b=false):=aa (by
    have h:(wi r.length 1 512&& !r.any fk)=true:=Hz.out;rw[Ek]at h;have h1:=bJ.1 h.1
    exact⟨by have:=af.out;omega,df h.2⟩)
   have bV:(nb:Int)<=512:=by have:=Y.1.2;omega
   have bc:(0:Int)<=(nb:Int):=by omega
   have ad:Hid (r.flatten.length=nb*16):=aa (by rw[af.out];exact dL 16 r (fun x hx=>fI (Y.2 x hx)));have HV:Hid (bL ⟨1,id,d,pl,sh,y,G,r,I⟩=1 :: (aM id++aM d)++bN nb++r.flatten):=aa (by unfold bL fH;simp[af.out]);have q7:=U.cell (i:=7) rfl
   go_wp2_with fail
   refine(jX (nb:Int) F bc (by omega)).mono ?_;rintro e wa ⟨pa,ca,rfl,K,t⟩;have E:=aa (aA.trans t);have n:=aa (U.ext t);have f:=aa (aR aE t);have R:=aa K;clear t K q7 q0
   go_wp2_with (with_reducible refine ax ?_)
   refine au ?_;refine aZ aO f R rfl rfl rfl (aF _ _) (show 17+2<=DV by decide) (show(17+2)*1<=140737488355328 by decide) n.lt ?_;intro bv br D a C A Q J j;rw[<-aT]at a;have ah:=aa a;have Z:Hid (az w D):=aa (Ei E (A.mono (FW _)));have W:=aa (n.grown C (fun q=>absurd (f.lt _ q).1 (FN _)));clear a C A Q J j;clear E n f R;have q7:=W.cell (i:=7) rfl
   go_wp2_with fail
   refine(iX (.slice p3 nb c3) r D (bF.ext Z) (by rw[ad.out];have:=Y.1.1;omega) (by rw[ad.out];have:=Y.1.2;omega)).mono ?_;rintro e wa ⟨va,rfl,K,t⟩;obtain⟨pa,ca,bY,_,_⟩:=K.form;subst bY;obtain⟨M,X⟩:=exq r.flatten.length;have HM:=aa X;have dn:M<=8192:=by rw[X,ad.out];have:=Y.1.2;omega
   have be:bh wa (.slice pa M ca) M (ao .u8 r.flatten):=by rw[X];exact K
   rw[<-X];have E:=aa (Z.trans t);have n:=aa (W.ext t);have f:=aa (aR ah t);have R:=aa be;clear t K be X q7
   go_wp2_with (with_reducible refine ax ?_)
   refine au ?_;refine aZ aO f R rfl rfl (by rw[ints_length,<-HM.out,Fi]) (aF _ _) (by unfold DV;omega) (by omega) n.lt ?_;intro dI de w3 a C A Q J j;rw[<-aT]at a;have bI:=aa a;have bl:Hid (az w w3):=aa (Ei E (A.mono (FW _)));have bx:=aa (n.grown C (fun q=>absurd (f.lt _ q).1 (FN _)));clear a C A Q J j
   go_wp2_with fail
   go_ret;refine⟨_,rfl,?_,bl⟩;rw[HV.out];exact Rd.Cw bI
  ·have HV:Hid (bL ⟨2,id,d,pl,sh,y,G,r,I⟩=2 :: (aM id++aM d)):=aa (by unfold bL fH;simp)
   go_wp2_with fail
   go_ret;refine⟨_,rfl,?_,aA⟩;rw[HV.out];exact Rd.Cw aE
  ·have cy:Hid ((1<=O/\O<=12)/\∀x∈pl,fP x=false):=aa (by
    have h:wi pl.length 1 12=true:=Hz.out;have h1:=bJ.1 h
    exact⟨by have:=a7.out;omega,df a8⟩)
   have bV:(O:Int)<=12:=by have:=cy.1.2;omega
   have bc:(0:Int)<=(O:Int):=by omega
   have HV:Hid (bL ⟨3,id,d,pl,sh,y,G,r,I⟩=3 :: (aM id++aM d)++[(O:Int)]++pl.flatMap bN):=aa (by unfold bL fH;simp[a7.out]);have q3:=U.cell (i:=3) rfl
   go_wp2_with (with_reducible refine ax ?_)
   refine au ?_;have E:Hid (az w (F.alloc (.cells #[.int .u8 (O:Int)] 5))):=aa (aA.trans (ae _ _));have n:=aa (U.ext (ae F (.cells #[.int .u8 (O:Int)] 5)));have f:=aa (aR aE (ae F (.cells #[.int .u8 (O:Int)] 5)));refine aZ aO f (fe F 5 .u8 (O:Int)) rfl rfl rfl (aF _ _) (show 17+1<=DV by decide) (show(17+1)*1<=140737488355328 by decide) n.lt ?_;intro bv br D a C A Q J j;rw[<-aT]at a;have ah:=aa a;have Z:Hid (az w D):=aa (Ei E (A.mono (FW _)));have W:=aa (n.grown C (fun q=>absurd (f.lt _ q).1 (FN _)));clear a C A Q J j;clear E n f q3 q0;have q3:=W.cell (i:=3) rfl
   go_wp2_with fail
   clear q3;go_loopw [3,60] (fun o i wr=>∃(k:Nat) (p:Option Addr) (c:Nat),k<=O/\i=.int .i64 k/\o=.slice p (18+k*2) c/\Hid (wr.ownsRow (w.heap.size+1) 5 1 (.slice p (18+k*2) c) (18+k*2) (ao .u8 (3 :: (aM id++aM d)++[(O:Int)]++(pl.take k).flatMap bN)))/\Hid (w.heap.size+1<=wr.heap.size)/\az w wr) (fun _ i _=>O - (Ef i).toNat);case atStart=>exact⟨0,_,_,DZ _,rfl,rfl,by rw[E4,List.flatMap_nil,Ew];exact ah,aa W.lt,Z⟩
   case round=>
    obtain⟨k,p,c,hk,rfl,rfl,HO,HS,hE⟩:=hrel;have HE:=aa hE;clear hE;by_cases b0:k < O
    ·have aP:k < pl.length:=by rw[<-a7.out];exact b0
     obtain⟨dU,o1,dY,dB,_,_,_,_,cx⟩:=Rd.pos (k:=.i64) (l:=pl) (by rw[a7.out]at bK;exact bK.ext HE) (by omega);injection dB with bS bT bU;subst bS;have cv:=cx k aP;have cF:=iL (cy.2 _ (aH 0 aP));have aW:=aa (fm 0 bN pl k aP);obtain⟨x,hx⟩:=exq (pl.getD k 0);rw[<-hx]at cv cF aW;obtain⟨b5,dF⟩:=cF;clear cx bT bU hx
     go_wp2_with fail
     refine(jX x wr b5 (by omega)).mono ?_;rintro e wa ⟨pa,ca,rfl,K,t⟩;have E:=aa (HE.trans t);have f:=aa (aR HO t);have R:=aa K;have cb:Hid (w.heap.size+1<=wa.heap.size):=aa (D0 HS t.size);clear t K cv
     go_wp2_with (with_reducible refine ax ?_)
     refine au ?_;refine aZ aO f R rfl rfl rfl (aF _ _) (by unfold DV;omega) (by omega) cb ?_;intro p5 c5 w5 a C A Q J j;rw[<-aT]at a;have e2:18+k*2+2=18+(k+1)*2:=by omega
     rw[e2]at a⊢;have c8:=aa a;have cT:Hid (az w w5):=aa (Ei E (A.mono (FW _)));have cY:Hid (w.heap.size+1<=w5.heap.size):=aa (D0 cb A.size);clear a C A Q J j e2
     go_wp2_with fail
     go_roundw;case rel=>exact⟨k+1,p5,c5,by omega,by go_num,rfl,aa (by rw[aW.out,<-List.append_assoc];exact c8),cY,cT⟩
     case measure=>simp[Ef];omega
    ·obtain rfl:k=O:=by omega
     go_wp2_with fail
     go_ret;refine⟨_,rfl,?_,HE⟩;have h:=Rd.Cw HO;rw[DW (by rw[<-a7.out];exact DH _)]at h;rw[HV.out];exact h
  ·have bd:Hid ((1<=H/\H<=12)/\(∀s∈sh,gS s=false)/\∀s∈sh,fP s.1=false):=aa (by
    have h:(wi sh.length 1 12&& !sh.any gS)=true:=Hz.out;rw[Ek]at h;have h1:=bJ.1 h.1
    exact⟨by have:=bm.out;rw[<-aV.out,D2]at h1;omega,df h.2,df a8⟩)
   have bV:(H:Int)<=12:=by have:=bd.1.2;omega
   have bc:(0:Int)<=(H:Int):=by omega
   have HV:Hid (bL ⟨4,id,d,pl,sh,y,G,r,I⟩=4 :: (aM id++aM d)++[(H:Int)]++sh.flatMap tK):=aa (by unfold bL fH;simp[bm.out,<-aV.out])
   have ds:Hid (∀s∈sh,gS s=false/\dm s.2.2):=aa fun s hs=>⟨bd.2.1 s hs,by
    rw[<-aV.out]at hs;obtain⟨x,hx,rfl⟩:=List.mem_map.1 hs
    exact(bO.ok x hx).dg⟩
   have q4:=U.cell (i:=4) rfl
   go_wp2_with (with_reducible refine ax ?_)
   refine au ?_;have E:Hid (az w (F.alloc (.cells #[.int .u8 (H:Int)] 5))):=aa (aA.trans (ae _ _));have n:=aa (U.ext (ae F (.cells #[.int .u8 (H:Int)] 5)));have f:=aa (aR aE (ae F (.cells #[.int .u8 (H:Int)] 5)));refine aZ aO f (fe F 5 .u8 (H:Int)) rfl rfl rfl (aF _ _) (show 17+1<=DV by decide) (show(17+1)*1<=140737488355328 by decide) n.lt ?_;intro bv br D a C A Q J j;rw[<-aT]at a;have ah:=aa a;have Z:Hid (az w D):=aa (Ei E (A.mono (FW _)));have W:=aa (n.grown C (fun q=>absurd (f.lt _ q).1 (FN _)));clear a C A Q J j;clear E n f q4 q0;have q4:=W.cell (i:=4) rfl
   go_wp2_with fail
   clear q4;go_loopw [3,79] (fun o i wr=>∃(k N:Nat) (p:Option Addr) (c:Nat) (pre:List Int),k<=H/\i=.int .i64 k/\o=.slice p N c/\Hid (pre=4 :: (aM id++aM d)++[(H:Int)]++(sh.take k).flatMap tK)/\Hid (N=pre.length)/\Hid (bh wr (.slice p N c) N (ao .u8 pre))/\az w wr) (fun _ i _=>H - (Ef i).toNat);case atStart=>exact⟨0,18,_,_,4 :: (aM id++aM d)++[(H:Int)],DZ _,rfl,rfl,aa (by rw[E4,List.flatMap_nil,Ew]),aa rfl,aa (bh.AS ah),Z⟩
   case round=>
    obtain⟨k,N,p,c,pre,hk,rfl,rfl,bM,HN,HO,hE⟩:=hrel;have HE:=aa hE;clear hE;by_cases b0:k < H
    ·have aP:k < L.length:=by rw[<-bm.out];exact b0
     have bZ:k < sh.length:=by rw[<-aV.out,D2];exact aP
     have bR:=bO.ext HE;obtain⟨g,o,dX,dD,_,_,_,cw⟩:=bR.pos (by omega);injection dD with bS bT bU;subst bS;have bg:=cw k aP;have ac:=bR.ok _ (aH s0 aP);have cB:cf (L.getD k s0)=sh.getD k h0:=by rw[<-cR,aV.out]
     have bk:=bd.2.1 _ (aH h0 bZ);have b7:=iL (bd.2.2 _ (aH h0 bZ));have aW:=aa (fm h0 tK sh k bZ);rw[<-cB]at bk b7 aW;obtain⟨x,hx⟩:=exq (L.getD k s0);rw[<-hx]at bg ac bk b7 aW;clear hx cB cw bT bU bR;obtain⟨T,⟨u1,st⟩,u2,pa⟩:=x;obtain⟨b5,dF⟩:0<=T/\T<=511:=b7;obtain⟨b6,dG⟩:st.length=16/\pa.length<=10:=lV bk;obtain⟨q1,d1,cC,_,_⟩:=ac.st.form;obtain⟨q2,d2,cD,_,_⟩:=ac.pa.form;simp only at cC cD;subst cC cD;rw[b6]at ac bg;obtain⟨m,hm⟩:=exq pa.length;have Hm:=aa hm;rw[<-hm]at ac bg dG;have d7:IntKind.u8.wrap (m:Int)=(m:Int):=IntWalk.u8_in _ (by omega);have db:Hid (Rd wr .u8 (.slice q1 16 d1) st):=aa ac.st;have c9:Hid (eY wr (.slice q2 m d2) pa):=aa ac.pa;have cc:Hid (dm pa):=aa ac.dg;have dc:=aa b6;have dS:=aa bk;have cd:=aa (EX (P:=DE) wr g (o+k*3) 57 _ _ bg Fz rfl (by rw[bz];kernel_rfl));obtain⟨cp,cq⟩:=av.fresh (cs:=cS (T,(.slice q1 16 d1,st),.slice q2 m d2,pa)) wr 57 fj rfl (pd _);have cg:=aa (aI (P:=DE) (cs:=cS (T,(.slice q1 16 d1,st),.slice q2 m d2,pa)) wr 57 fj rfl (gP ac) (ty:=57) (by rw[bz];kernel_rfl));have a4:=aa cp;have a5:=aa cq;have d5:(0:Int)<=(k:Int):=by omega
     have d6:(k:Int) < (H:Int):=by omega
     clear bg ac cp cq hm b6 bk
     go_wp2_with first | refine ak rfl cd ?_ | (with_reducible refine aC (ty:=57) ?_)
     refine au ?_;refine ag rfl rfl cg ?_;obtain⟨W7,cr⟩:=exq ((wr.alloc (.cells fj 57)).setCells wr.heap.size 0 (cS (T,(.slice q1 16 d1,st),.slice q2 m d2,pa)));obtain⟨X7,ct⟩:=exq wr.heap.size;rw[<-cr]at a4 a5⊢;rw[<-ct]at a4⊢;clear cr ct cg cd
     have c0:Hid (pre.length<=18+H*339):=aa (by
     rw[bM.out];simp only[DS,Eu,EK];have h1:=sI (sh.take k) (fun s hs=>ds s (List.mem_of_mem_take hs));rw[List.length_take]at h1;have h2:(aM id).length=8:=rfl;have h3:(aM d).length=8:=rfl;have h4:min k sh.length*339<=H*339:=Nat.mul_le_mul_right _ (by omega)
     omega)
     obtain⟨fl,bt⟩:=exq pa.flatten;have cZ:=aa bt;have ad:Hid (fl.length<=320):=aa (by rw[bt,dL 32 pa (fun x hx=>(cc.out x hx).1),<-Hm.out];omega)
     have ce:Hid (0 < [pre,bN T,st,[(m:Int)],fl].flatten.length/\[pre,bN T,st,[(m:Int)],fl].flatten.length<=1099511627776):=aa (by
     have h1:=c0.out;have h2:=ad.out;have h3:=dc.out;have h4:(bN T).length=2:=rfl;have h5:=bd.1.2;simp only[List.flatten_cons,List.flatten_nil,DS,Eu,EK]
     omega)
     obtain⟨L5,aN⟩:=exq ([pre,bN T,st,[(m:Int)],fl].flatten);have cW:Hid (∀D,az W7 D->DN DE 103 #[.slice q2 m d2] D fun e w'=>∃B,e=.returned B/\dC w' B fl/\az D w'):=aa fun D h2=>by rw[bt];exact(qZ _ pa _ (bh.ext c9 (a5.trans h2)) cc (by have:=Hm.out;omega)).mono fun _ _ ⟨B,h1,h2,h3⟩=>⟨B,h1,dC.CU h2,h3⟩
     clear bt;have cO:Hid (∀v w,bf w v [pre,bN T,st,[(m:Int)],fl]->DN DE 100 #[v] w fun e w'=>∃B,e=.returned B/\dC w' B L5/\az w w'):=aa fun v w h=>by rw[aN];exact(iX v _ w h ce.1 ce.2).mono fun _ _ ⟨B,h1,h2,h3⟩=>⟨B,h1,dC.CU h2,h3⟩
     have bB:=aa aN;clear aN;have cV:Hid (Rd W7 .u8 (.slice p N c) pre):=aa (by have h:=bh.ext HO a5;rw[HN.out]at h⊢;exact h)
     go_wp2_with fail
     apply aL 16 [83,84,85,86,87,88,89,90,91,92,93,94,95,96,97,98] [ar _,ar _,ar _,(fun v w'=>dC w' v (bN T)),ar _,ar _,ar _,ar _,ar _,ar _,(fun v w'=>dC w' v [(m:Int)]),ar _,ar _,(fun v w'=>dC w' v fl),(fun v w'=>bf w' v [pre,bN T,st,[(m:Int)],fl]),(fun v w'=>dC w' v L5)] (by kernel_rfl) (by kernel_rfl) (by kernel_rfl) (by kernel_rfl);case hsteps=>
      refine⟨?_,?_,?_,?_,?_,?_,?_,?_,?_,?_,?_,?_,?_,?_,?_,?_,trivial⟩;all_goals
       intro ev F z hb S;have e3:=hb 3 (by decide);have e7:=hb 7 (by decide);clear hb;simp only[sB]at e3 e7;simp only[sD]at S;have j:=(aD z).1;have q0:=(a4.ext z).cell (i:=0) rfl;have q1:=(a4.ext z).cell (i:=1) rfl;have q2:=(a4.ext z).cell (i:=2) rfl;try (obtain⟨dl,⟨p6,c6,h6,am⟩,d0,⟨p7,c7,h7,ap⟩,⟨p8,dW,h8,co⟩⟩:=S;rw[h6]at am;rw[h7]at ap;rw[h8]at co)
       simp only[dJ,DP,if_true];go_simp;first | exact⟨ae _ _,n7 _ _ _⟩ | exact⟨ae _ _,tL (cV.ext z) am (db.ext (a5.trans z)) ap co _⟩ | (go_at_call 102;(with_reducible refine(ly T _ b5 (by omega)).mono ?_);rintro e D ⟨B,rfl,h1,h2⟩;exact⟨_,rfl,h2,h1⟩) | (go_at_call 103;(with_reducible refine(cW.out _ z).mono ?_);rintro e D ⟨B,rfl,h1,h2⟩;exact⟨_,rfl,h2,h1⟩) | (go_at_call 100;(with_reducible refine(cO.out _ _ (by first | exact S | exact S.1)).mono ?_);rintro e D ⟨B,rfl,h1,h2⟩;exact⟨_,rfl,h2,h1⟩) | exact⟨DI _ _,rfl⟩
     case hmono=>exact⟨aB _,aB _,aB _,(fun _ _ _ h k=>dC.ext h k),aB _,aB _,aB _,aB _,aB _,aB _,(fun _ _ _ h k=>dC.ext h k),aB _,aB _,(fun _ _ _ h k=>dC.ext h k),(fun _ _ _ h k=>bf.ext h k),(fun _ _ _ h k=>dC.ext h k),trivial⟩
     case hend=>
      intro u F z hend;simp only[sE]at hend;simp only[sF,hend];obtain⟨cK,cl,bj,aQ⟩:dC F (u 98) L5:=(by first | ((repeat(first | exact hend | exact hend.2 | replace hend:=hend.1));done) | (repeat(first | exact hend | exact hend.1 | replace hend:=hend.2)));rw[bj]at aQ⊢;have bA:=aa ((HE.trans a5).trans z);have bo:=aa aQ;clear hend z bj aQ;obtain⟨N2,bQ⟩:=exq L5.length;have bE:=aa bQ;rw[<-bQ]at bo⊢;clear bQ
      go_wp2_with fail
      go_roundw;case rel=>exact⟨k+1,N2,cK,cl,_,by omega,by go_num,rfl,aa (by rw[bB.out,aW.out,bM.out,cZ.out];show _=_++(_++(bN T++st++[(pa.length:Int)]++pa.flatten));rw[Hm.out];simp),bE,aa (by rw[bE.out];have h:=bo.out;rw[bE.out]at h;exact h),bA⟩
      case measure=>simp[Ef];omega
    ·obtain rfl:k=H:=by omega
     go_wp2_with fail
     go_ret;refine⟨_,rfl,?_,HE⟩;have h:=HO.out;rw[HN.out]at h;rw[HV.out];have e:pre=_:=bM.out;rw[DW (by rw[<-aV.out,D2,<-bm.out];exact DH _)]at e;rw[<-e];show bh _ (.slice p N c) _ _;rw[HN.out];exact h
  ·have h5:Hid ((1<=G/\G<=512)/\0<=y/\y<=511):=aa (by
    have h:(wi G 1 512&&wi y 0 511)=true:=a8.out;rw[Ek]at h
    exact⟨bJ.1 h.1,bJ.1 h.2⟩)
   have dp:0<=G:=by have:=h5.out;omega
   have dr:G<=65535:=by have:=h5.out;omega
   have bW:0<=y:=h5.2.1;have bX:y<=65535:=by have:=h5.out;omega
   have HV:Hid (bL ⟨5,id,d,pl,sh,y,G,r,I⟩=[5 :: (aM id++aM d),bN y,bN G].flatten):=aa (by unfold bL fH;simp);have cU:Hid (Rd F .u8 (.slice dM 17 dh) (5 :: (aM id++aM d))):=aa (Rd.Cw aE);obtain⟨L5,aN⟩:=exq ([5 :: (aM id++aM d),bN y,bN G].flatten);rw[<-aN]at HV;have bB:Hid (∀v w,bf w v [5 :: (aM id++aM d),bN y,bN G]->DN DE 100 #[v] w fun e w'=>∃B,e=.returned B/\dC w' B L5/\az w w'):=aa fun v w h=>by rw[aN];exact(iX v _ w h (by simp) (by simp[aM,bN])).mono fun _ _ ⟨B,h1,h2,h3⟩=>⟨B,h1,dC.CU h2,h3⟩
   clear aN
   go_wp2_with fail
   clear q0;apply aL 9 [100,101,102,103,104,105,106,107,108] [ar _,ar _,ar _,(fun v w'=>dC w' v (bN y)),ar _,ar _,(fun v w'=>dC w' v (bN G)),(fun v w'=>bf w' v [5 :: (aM id++aM d),bN y,bN G]),(fun v w'=>dC w' v L5)] (by kernel_rfl) (by kernel_rfl) (by kernel_rfl) (by kernel_rfl);case hsteps=>
    refine⟨?_,?_,?_,?_,?_,?_,?_,?_,?_,trivial⟩;all_goals
     intro ev F z hb S;have e1:=hb 1 (by decide);have e3:=hb 3 (by decide);clear hb;simp only[sB]at e1 e3;simp only[sD]at S;have j:=(aD z).1;have q5:=(U.ext z).cell (i:=5) rfl;have q6:=(U.ext z).cell (i:=6) rfl;try (obtain⟨dl,⟨p6,c6,h6,am⟩,⟨p7,c7,h7,ap⟩⟩:=S;rw[h6]at am;rw[h7]at ap)
     simp only[dJ,DP,if_true];go_simp;first | exact⟨ae _ _,jw (cU.ext z) am ap _⟩ | (go_at_call 102;(with_reducible refine(ly y _ bW bX).mono ?_);rintro e D ⟨B,rfl,h1,h2⟩;exact⟨_,rfl,h2,h1⟩) | (go_at_call 102;(with_reducible refine(ly G _ dp dr).mono ?_);rintro e D ⟨B,rfl,h1,h2⟩;exact⟨_,rfl,h2,h1⟩) | (go_at_call 100;(with_reducible refine(bB.out _ _ (by first | exact S | exact S.1)).mono ?_);rintro e D ⟨B,rfl,h1,h2⟩;exact⟨_,rfl,h2,h1⟩) | exact⟨DI _ _,rfl⟩
   case hmono=>exact⟨aB _,aB _,aB _,(fun _ _ _ h k=>dC.ext h k),aB _,aB _,(fun _ _ _ h k=>dC.ext h k),(fun _ _ _ h k=>bf.ext h k),(fun _ _ _ h k=>dC.ext h k),trivial⟩
   case hend=>
    intro u F z hend;simp only[sE]at hend;simp only[sF,hend];obtain⟨cK,cl,bj,aQ⟩:dC F (u 108) L5:=(by first | ((repeat(first | exact hend | exact hend.2 | replace hend:=hend.1));done) | (repeat(first | exact hend | exact hend.1 | replace hend:=hend.2)));rw[bj]at aQ⊢;have bA:=aa (aA.trans z);have bo:=aa aQ;clear hend z bj aQ
    go_wp2_with fail
    go_ret;refine⟨_,rfl,?_,bA⟩;rw[HV.out];exact bo
  ·have Y:Hid ((1<=nb/\nb<=512)/\∀b∈r,fk b=false):=aa (by
    have h:(wi r.length 1 512&& !r.any fk)=true:=Hz.out;rw[Ek]at h;have h1:=bJ.1 h.1
    exact⟨by have:=af.out;omega,df h.2⟩)
   have bV:(nb:Int)<=512:=by have:=Y.1.2;omega
   have bc:(0:Int)<=(nb:Int):=by omega
   have ad:Hid (r.flatten.length=nb*16):=aa (by rw[af.out];exact dL 16 r (fun x hx=>fI (Y.2 x hx)));have h6:Hid (0<=y/\y<=511):=aa (bJ.1 a8);have bW:0<=y:=h6.1;have bX:y<=65535:=by have:=h6.out;omega
   have HV:Hid (bL ⟨6,id,d,pl,sh,y,G,r,I⟩=6 :: (aM id++aM d)++bN y++bN nb++r.flatten):=aa (by unfold bL fH;simp[af.out]);have q5:=U.cell (i:=5) rfl
   go_wp2_with fail
   refine(jX y F bW bX).mono ?_;rintro e wa ⟨pa,ca,rfl,K,t⟩;have E:=aa (aA.trans t);have n:=aa (U.ext t);have f:=aa (aR aE t);have R:=aa K;clear t K q5 q0
   go_wp2_with (with_reducible refine ax ?_)
   refine au ?_;refine aZ aO f R rfl rfl rfl (aF _ _) (show 17+2<=DV by decide) (show(17+2)*1<=140737488355328 by decide) n.lt ?_;intro bv br D a C A Q J j;rw[<-aT]at a;have ah:=aa a;have Z:Hid (az w D):=aa (Ei E (A.mono (FW _)));have W:=aa (n.grown C (fun q=>absurd (f.lt _ q).1 (FN _)));clear a C A Q J j;clear E n f R;have q7:=W.cell (i:=7) rfl
   go_wp2_with fail
   refine(jX (nb:Int) D bc (by omega)).mono ?_;rintro e wa ⟨pa,ca,rfl,K,t⟩;have E:=aa (Z.trans t);have n:=aa (W.ext t);have f:=aa (aR ah t);have R:=aa K;clear t K q7
   go_wp2_with (with_reducible refine ax ?_)
   refine au ?_;refine aZ aO f R rfl rfl rfl (aF _ _) (show 19+2<=DV by decide) (show(19+2)*1<=140737488355328 by decide) n.lt ?_;intro dI de w3 a C A Q J j;rw[<-aT]at a;have bI:=aa a;have bl:Hid (az w w3):=aa (Ei E (A.mono (FW _)));have bx:=aa (n.grown C (fun q=>absurd (f.lt _ q).1 (FN _)));clear a C A Q J j;clear E n f R;have q7:=bx.cell (i:=7) rfl
   go_wp2_with fail
   refine(iX (.slice p3 nb c3) r w3 (bF.ext bl) (by rw[ad.out];have:=Y.1.1;omega) (by rw[ad.out];have:=Y.1.2;omega)).mono ?_;rintro e wa ⟨va,rfl,K,t⟩;obtain⟨pa,ca,bY,_,_⟩:=K.form;subst bY;obtain⟨M,X⟩:=exq r.flatten.length;have HM:=aa X;have dn:M<=8192:=by rw[X,ad.out];have:=Y.1.2;omega
   have be:bh wa (.slice pa M ca) M (ao .u8 r.flatten):=by rw[X];exact K
   rw[<-X];have E:=aa (bl.trans t);have n:=aa (bx.ext t);have f:=aa (aR bI t);have R:=aa be;clear t K be X q7
   go_wp2_with (with_reducible refine ax ?_)
   refine au ?_;refine aZ aO f R rfl rfl (by rw[ints_length,<-HM.out,Fi]) (aF _ _) (by unfold DV;omega) (by omega) n.lt ?_;intro d9 dV w4 a C A Q J j;rw[<-aT]at a;have c4:=aa a;have cQ:Hid (az w w4):=aa (Ei E (A.mono (FW _)));have dQ:=aa (n.grown C (fun q=>absurd (f.lt _ q).1 (FN _)));clear a C A Q J j
   go_wp2_with fail
   go_ret;refine⟨_,rfl,?_,cQ⟩;rw[HV.out];exact Rd.Cw c4
  ·have h7:Hid (1<=I/\I<=255):=aa (bJ.1 a8);have d3:1<=I:=h7.1;have d4:I<=255:=h7.2;have HV:Hid (bL ⟨7,id,d,pl,sh,y,G,r,I⟩=7 :: (aM id++aM d)++[I]):=aa (by unfold bL fH;simp);have q8:=U.cell (i:=8) rfl
   go_wp2_with (with_reducible refine ax ?_)
   refine au ?_;have E:Hid (az w (F.alloc (.cells #[.int .u8 I] 5))):=aa (aA.trans (ae _ _));have n:=aa (U.ext (ae F (.cells #[.int .u8 I] 5)));have f:=aa (aR aE (ae F (.cells #[.int .u8 I] 5)));refine aZ aO f (fe F 5 .u8 I) rfl rfl rfl (aF _ _) (show 17+1<=DV by decide) (show(17+1)*1<=140737488355328 by decide) n.lt ?_;intro bv br D a C A Q J j;rw[<-aT]at a;have ah:=aa a;have Z:Hid (az w D):=aa (Ei E (A.mono (FW _)));have W:=aa (n.grown C (fun q=>absurd (f.lt _ q).1 (FN _)));clear a C A Q J j;clear E n f q8 q0
   go_wp2_with fail
   go_ret;refine⟨_,rfl,?_,Z⟩;rw[HV.out];exact Rd.Cw ah
end Go.Proofs.Bl
