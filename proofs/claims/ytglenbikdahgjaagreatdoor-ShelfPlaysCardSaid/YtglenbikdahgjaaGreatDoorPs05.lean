/- Texts that stood apart, in one: LW6, LetP, LetB, LW7, LW8, LW9. -/
import Derived.Test.YtglenbikdahgjaaGreatDoorPs04
set_option maxRecDepth 100000
set_option maxHeartbeats 16000000
open And renaming intro->Dj
open Bool renaming and_eq_true->Du
open Go renaming Calls->CZ,Value->CQ,World->CP,bodyPost_ret->De,maxLen->Dc,run_loadAt_mid->DS
open Go.Region renaming wanted->C8
open Go.RowKit.Below renaming refl->CT,trans->DC
open List renaming append_nil->DV,flatMap_cons->FG,getD_eq_getElem?_getD->CR,getElem?_eq_getElem->CV,length_append->C7,length_cons->DB,length_map->CY,length_nil->DY,mem_cons_of_mem->E6,take_of_length_le->CX,take_zero->Ek
open Nat renaming le_refl->CU,le_succ->ET,le_trans->Dk,lt_succ_iff_lt_or_eq->ED,mul_one->EZ,not_lt_zero->E2,not_succ_le_self->EU,zero_le->C9
namespace Go.Proofs.Bl
open Go Go.RowKit Go.Proofs
open Go.Proofs.Tryz renaming ntmps69->Gn,ntmps70->Gp,ntmps72->Gq,prog->CO,underlying26->C5,underlying57->Er
variable {l:List Int} {n a b:Int} {k B:Nat}
def wi (n a b:Int):Bool:=decide (a<=n)&&decide (n<=b)
theorem bj:wi n a b=true↔a<=n/\n<=b:=by unfold wi;simp
theorem jM:wi n a b=false↔n < a\/b < n:=by
 rw[<-Bool.not_eq_true,bj];omega
theorem eL {α :Type} {p: α ->Bool} {l:List α} (h:∀q x,q < k->l[q]? =some x->p x=false) (b:l.length<=k):l.any p=false:=by
 rw[List.any_eq_false];intro x hx;obtain⟨q,a,rfl⟩:=List.getElem_of_mem hx;rw[h q _ (by omega) (CV a)];decide
theorem nt {α :Type} {p: α ->Bool} {l:List α} (d: α) (a:k < l.length) (h:p (l.getD k d)=true):l.any p=true:=List.any_eq_true.2 ⟨_,aJ d a,h⟩
theorem aT (n a b:Int) (w:CP):CZ CO 68 #[.int .i64 n,.int .i64 a,.int .i64 b] w fun e w'=>e=.returned (.bool (wi n a b))/\w=w':=by
 by_cases h1:a<=n
 ·by_cases h2:n<=b
  ·have c:Hid (wi n a b=true):=aa (bj.2 ⟨h1,h2⟩);go_enter Tryz.func68,Tryz.ntmps68
   go_wp2
   go_ret;exact⟨by rw[c.out];rfl,rfl⟩
  ·have c:Hid (wi n a b=false):=aa (jM.2 (by omega));go_enter Tryz.func68,Tryz.ntmps68
   go_wp2
   go_ret;exact⟨by rw[c.out];rfl,rfl⟩
 ·have c:Hid (wi n a b=false):=aa (jM.2 (by omega));go_enter Tryz.func68,Tryz.ntmps68
  go_wp2
  go_ret;exact⟨by rw[c.out];rfl,rfl⟩
theorem bz (n a b:Int) (w:CP):CZ CO 75 #[.int .i64 n,.int .i64 a,.int .i64 b] w fun e w'=>e=.returned (.bool (!wi n a b))/\w=w':=by
 by_cases h1:n < a
 ·have c:Hid (wi n a b=false):=aa (jM.2 (by omega));go_enter Tryz.func75,Tryz.ntmps75
  go_wp2
  go_ret;exact⟨by rw[c.out];rfl,rfl⟩
 ·by_cases h2:b < n
  ·have c:Hid (wi n a b=false):=aa (jM.2 (by omega));go_enter Tryz.func75,Tryz.ntmps75
   go_wp2
   go_ret;exact⟨by rw[c.out];rfl,rfl⟩
  ·have c:Hid (wi n a b=true):=aa (bj.2 (by omega));go_enter Tryz.func75,Tryz.ntmps75
   go_wp2
   go_ret;exact⟨by rw[c.out];rfl,rfl⟩
theorem gP (n:Int) (w:CP):CZ CO 115 #[.int .i64 n] w fun e w'=>e=.returned (.bool (wi n 0 511))/\w=w':=by
 go_enter Tryz.func115,Tryz.ntmps115
 go_wp2_with fail
 refine(aT _ _ _ _).mono ?_;rintro e w' ⟨rfl,hw⟩;subst hw
 go_wp2_with fail
 go_ret;exact⟨rfl,rfl⟩
theorem oi (n:Int) (w:CP):CZ CO 114 #[.int .i64 n] w fun e w'=>e=.returned (.bool (!wi n 0 511))/\w=w':=by
 go_enter Tryz.func114,Tryz.ntmps114
 go_wp2_with fail
 refine(gP _ _).mono ?_;rintro e w' ⟨rfl,hw⟩;subst hw;obtain⟨q,a⟩:=exq (wi n 0 511);rw[<-a];have b:=aa a;clear a;cases q
 ·go_wp2_with fail
  go_ret;exact⟨by rw[<-b.out];rfl,rfl⟩
 ·go_wp2_with fail
  go_ret;exact⟨by rw[<-b.out];rfl,rfl⟩
theorem nv (x:Sv) (w:CP):CZ CO 118 #[.agg (cS x).toArray] w fun e w'=>e=.returned (.bool (!wi x.1 0 511))/\au w w':=by
 obtain⟨n,⟨v,l⟩,u,d⟩:=x;have b:=aa (ae w (.cells #[.int .i64 n,v,u] 57));show CZ CO 118 #[.agg #[.int .i64 n,v,u]] w _;go_enter Tryz.func118,Tryz.ntmps118
 go_wp2_with fail
 refine(gP _ _).mono ?_;rintro e w' ⟨rfl,hw⟩;subst hw;obtain⟨q,a⟩:=exq (wi n 0 511);rw[<-a];have c:=aa a;clear a;cases q
 ·go_wp2_with fail
  go_ret;exact⟨by rw[<-c.out];rfl,b⟩
 ·go_wp2_with fail
  go_ret;exact⟨by rw[<-c.out];rfl,b⟩
theorem pX (p:Option Addr) (n c:Nat) (w:CP):CZ CO 119 #[.slice p n c] w fun e w'=>e=.returned (.bool (!decide (n=16)))/\w=w':=by
 by_cases h:n=16
 ·subst h;go_enter Tryz.func119,Tryz.ntmps119
  go_wp2
  go_ret;exact⟨rfl,rfl⟩
 ·have h2:((n:Int)==16)=false:=by rw[beq_eq_false_iff_ne];omega
  have a:Hid (decide (n=16)=false):=aa (decide_eq_false h);clear h;go_enter Tryz.func119,Tryz.ntmps119
  go_wp2
  go_ret;refine⟨?_,rfl⟩;rw[a.out];show Ending.returned (.bool (!((n:Int)==16)))=_;rw[h2];try rfl
theorem pY (x:Sv) (w:CP) (hx:rU w x):CZ CO 121 #[.agg (cS x).toArray] w fun e w'=>e=.returned (.bool (!decide (x.2.1.2.length=16)|| !decide (x.2.2.2.length<=10)))/\au w w':=by
 obtain⟨n,⟨v,l⟩,u,d⟩:=x;obtain⟨p1,f,h,_,_⟩:=hx.st.form;obtain⟨p2,g,i,_,_⟩:=hx.pa.form;simp only at h i;subst h i;clear hx;show CZ CO 121 #[.agg #[.int .i64 n,.slice p1 l.length f,.slice p2 d.length g]] w fun e w'=>e=.returned (.bool (!decide (l.length=16)|| !decide (d.length<=10)))/\au w w'
 generalize l.length=m;generalize d.length=k;have b:=aa (ae w (.cells #[.int .i64 n,.slice p1 m f,.slice p2 k g] 57));by_cases h1:m=16
 ·subst h1;by_cases h2:k<=10
  ·have c:¬((10:Int) < (k:Int)):=by omega
   have a:Hid (decide (k<=10)=true):=aa (decide_eq_true h2);clear h2;go_enter Tryz.func121,Tryz.ntmps121
   go_wp2_with fail
   go_ret;first
   | exact⟨by rw[a.out];rfl,b⟩
   | (refine⟨?_,b⟩;rw[a.out];simp[c])
  ·have c:(10:Int) < (k:Int):=by omega
   have a:Hid (decide (k<=10)=false):=aa (decide_eq_false h2);clear h2;go_enter Tryz.func121,Tryz.ntmps121
   go_wp2_with fail
   go_ret;first
   | exact⟨by rw[a.out];rfl,b⟩
   | (refine⟨?_,b⟩;rw[a.out];simp[c])
 ·have j:((m:Int) != 16)=true:=by rw[bne_iff_ne];omega
  have h2:((m:Int)==16)=false:=by rw[beq_eq_false_iff_ne];omega
  have a:Hid (decide (m=16)=false):=aa (decide_eq_false h1);clear h1;go_enter Tryz.func121,Tryz.ntmps121
  go_wp2_with fail
  go_ret;exact⟨by rw[a.out];rfl,b⟩
theorem uA (v:CQ) (l:List Int) (w:CP) (h:Bu w .i64 v l):
  CZ CO 146 #[v,.func (.func 114) #[] #[]] w fun e w'=>(∃z:Int,e=.returned (.int .i64 z)/\decide (0<=z)=l.any (fun x=> !wi x 0 511))/\au w w':=by
 obtain⟨p,c,O,P,N⟩:=h.form;subst O;unfold Dc at N;have H:=aa h;obtain⟨n,j⟩:=exq l.length;have r:=aa j;rw[<-j]at P⊢;skip;clear h j;go_enter Tryz.func146,Tryz.ntmps146
 go_wp2_with fail
 go_loopw [8] (fun i wr=>∃k:Nat,k<=n/\i=.int .i64 k/\au w wr/\Hid (∀q x,q < k->l[q]? =some x->(fun x=> !wi x 0 511) x=false)) (fun i _=>n - (intOf i).toNat);case atStart=>exact⟨0,C9 _,rfl,CT _ _,aa fun q x h=>absurd h (E2 _)⟩
 case round=>
  obtain⟨k,T,rfl,u,s⟩:=hrel;have d:=aa u;clear u;by_cases G:k < n
  ·have f:k < l.length:=by rw[<-r.out];exact G
   have C:=aa f;obtain⟨R,U,S,L,_,_,_,_,A⟩:=Bu.pos (H.ext d) (by omega);injection L with I J K;subst I;have F:=A k f;obtain⟨x,hx⟩:=exq (l.getD k 0);rw[<-hx]at F;have t:=aa hx;clear A J K hx f
   go_wp2_with fail
   refine(oi x wr).mono ?_;rintro e V ⟨rfl,Q⟩;subst Q;have m:=d;have D:Hid (∀b,(fun x=> !wi x 0 511) x=b->∀y,l[k]? =some y->(fun x=> !wi x 0 511) y=b):=aa fun b a y hy=>by rw[<-a,t.out,CR,hy];rfl
   have B:Hid ((fun x=> !wi x 0 511) x=true->l.any (fun x=> !wi x 0 511)=true):=aa fun h=>nt 0 C (by rw[<-t.out];exact h)
   obtain⟨b,a⟩:=exq ((!wi x 0 511));rw[<-a];have o:=aa a;clear a;cases b
   ·go_wp2_with fail
    go_roundw
    case rel=>exact⟨k+1,by omega,by go_num,m,aa fun q y M hy=>by
     rcases ED.1 M with g | g
     ·exact s q y g hy
     ·subst g;exact D false o.symm y hy⟩
    case measure=>simp[intOf];omega
   ·go_wp2_with fail
    go_ret;exact⟨⟨k,rfl,by rw[B.out o.out.symm];simp⟩,m⟩
  ·obtain rfl:k=n:=by omega
   have E:Hid (l.any (fun x=> !wi x 0 511)=false):=aa (eL s (by rw[<-r.out];exact CU _))
   go_wp2_with fail
   go_ret;exact⟨⟨-1,rfl,by rw[E.out];rfl⟩,d⟩
theorem uB (v:CQ) (l:List Int) (w:CP) (h:Bu w .i64 v l):
  CZ CO 116 #[v,.func (.func 114) #[] #[]] w fun e w'=>e=.returned (.bool (l.any (fun x=> !wi x 0 511)))/\au w w':=by
 have a:=aa (uA v l w h);obtain⟨q,g⟩:=exq (l.any (fun x=> !wi x 0 511));rw[<-g]at a⊢;clear h;go_enter Tryz.func116,Tryz.ntmps116
 go_wp2_with fail
 refine a.mono ?_;rintro e i ⟨⟨z,rfl,c⟩,b⟩;have d:=aa b;clear b;have f:=aa c;clear c
 go_wp2_with fail
 go_ret;exact⟨by rw[<-f.out];rfl,d⟩
theorem r4 (v:CQ) (l:List Sv) (w:CP) (h:ng w v l):
  CZ CO 147 #[v,.func (.func 118) #[] #[]] w fun e w'=>(∃z:Int,e=.returned (.int .i64 z)/\decide (0<=z)=l.any (fun x=> !wi x.1 0 511))/\au w w':=by
 obtain⟨p,c,T,U,S⟩:=h.rd.form;subst T;unfold Dc at S;have H:=aa h;obtain⟨n,j⟩:=exq l.length;have t:=aa j;rw[<-j]at U⊢;rw[<-j]at H;clear h j;go_enter Tryz.func147,Tryz.ntmps147
 go_wp2_with fail
 go_loopw [8] (fun i wr=>∃k:Nat,k<=n/\i=.int .i64 k/\au w wr/\Hid (∀q x,q < k->l[q]? =some x->(fun x=> !wi x.1 0 511) x=false)) (fun i _=>n - (intOf i).toNat);case atStart=>exact⟨0,C9 _,rfl,CT _ _,aa fun q x h=>absurd h (E2 _)⟩
 case round=>
  obtain⟨k,Y,rfl,B,u⟩:=hrel;have d:=aa B;clear B;by_cases L:k < n
  ·have f:k < l.length:=by rw[<-t.out];exact L
   have F:=aa f;obtain⟨K,V,X,Q,_,_,_,D⟩:=(H.ext d).pos (by omega);injection Q with M N O;subst M;have o:=D k f;have m:=(H.ext d).ok _ (aJ s0 f);obtain⟨x,hx⟩:=exq (l.getD k s0);rw[<-hx]at o m;have A:=aa hx;have W:=aa m;have G:=aa (DS (P:=CO) wr K (V+k*3) 57 _ _ o Er rfl (by rw[bU];kernel_rfl));clear D N O hx f o m;have Z:(0:Int)<=(k:Int):=by omega
   have ab:(k:Int) < (n:Int):=by omega
   go_wp2_with refine ao rfl G ?_
   refine(nv x wr).mono ?_;rintro e w1 ⟨rfl,C⟩;have r:=aa (d.trans C);clear C;have I:Hid (∀b,(fun x=> !wi x.1 0 511) x=b->∀y,l[k]? =some y->(fun x=> !wi x.1 0 511) y=b):=aa fun b a y hy=>by rw[<-a,A.out,CR,hy];rfl
   have E:Hid ((fun x=> !wi x.1 0 511) x=true->l.any (fun x=> !wi x.1 0 511)=true):=aa fun h=>nt s0 F (by rw[<-A.out];exact h)
   obtain⟨b,a⟩:=exq ((!wi x.1 0 511));rw[<-a];have s:=aa a;clear a;cases b
   ·go_wp2_with fail
    go_roundw
    case rel=>exact⟨k+1,by omega,by go_num,r,aa fun q y R hy=>by
     rcases ED.1 R with g | g
     ·exact u q y g hy
     ·subst g;exact I false s.symm y hy⟩
    case measure=>simp[intOf];omega
   ·go_wp2_with fail
    go_ret;exact⟨⟨k,rfl,by rw[E.out s.out.symm];simp⟩,r⟩
  ·obtain rfl:k=n:=by omega
   have J:Hid (l.any (fun x=> !wi x.1 0 511)=false):=aa (eL u (by rw[<-t.out];exact CU _))
   go_wp2_with fail
   go_ret;exact⟨⟨-1,rfl,by rw[J.out];rfl⟩,d⟩
theorem r5 (v:CQ) (l:List Sv) (w:CP) (h:ng w v l):
  CZ CO 117 #[v,.func (.func 118) #[] #[]] w fun e w'=>e=.returned (.bool (l.any (fun x=> !wi x.1 0 511)))/\au w w':=by
 have a:=aa (r4 v l w h);obtain⟨q,g⟩:=exq (l.any (fun x=> !wi x.1 0 511));rw[<-g]at a⊢;clear h;go_enter Tryz.func117,Tryz.ntmps117
 go_wp2_with fail
 refine a.mono ?_;rintro e i ⟨⟨z,rfl,c⟩,b⟩;have d:=aa b;clear b;have f:=aa c;clear c
 go_wp2_with fail
 go_ret;exact⟨by rw[<-f.out];rfl,d⟩
theorem r6 (v:CQ) (l:List Sv) (w:CP) (h:ng w v l):
  CZ CO 147 #[v,.func (.func 121) #[] #[]] w fun e w'=>(∃z:Int,e=.returned (.int .i64 z)/\decide (0<=z)=l.any (fun x=> !decide (x.2.1.2.length=16)|| !decide (x.2.2.2.length<=10)))/\au w w':=by
 obtain⟨p,c,U,V,T⟩:=h.rd.form;subst U;unfold Dc at T;have H:=aa h;obtain⟨n,j⟩:=exq l.length;have t:=aa j;rw[<-j]at V⊢;rw[<-j]at H;clear h j;go_enter Tryz.func147,Tryz.ntmps147
 go_wp2_with fail
 go_loopw [8] (fun i wr=>∃k:Nat,k<=n/\i=.int .i64 k/\au w wr/\Hid (∀q x,q < k->l[q]? =some x->(fun x=> !decide (x.2.1.2.length=16)|| !decide (x.2.2.2.length<=10)) x=false)) (fun i _=>n - (intOf i).toNat);case atStart=>exact⟨0,C9 _,rfl,CT _ _,aa fun q x h=>absurd h (E2 _)⟩
 case round=>
  obtain⟨k,Y,rfl,B,u⟩:=hrel;have d:=aa B;clear B;by_cases M:k < n
  ·have f:k < l.length:=by rw[<-t.out];exact M
   have F:=aa f;obtain⟨L,W,X,R,_,_,_,D⟩:=(H.ext d).pos (by omega);injection R with N O Q;subst N;have o:=D k f;have m:=(H.ext d).ok _ (aJ s0 f);obtain⟨x,hx⟩:=exq (l.getD k s0);rw[<-hx]at o m;have A:=aa hx;have J:=aa m;have G:=aa (DS (P:=CO) wr L (W+k*3) 57 _ _ o Er rfl (by rw[bU];kernel_rfl));clear D O Q hx f o m;have Z:(0:Int)<=(k:Int):=by omega
   have ab:(k:Int) < (n:Int):=by omega
   go_wp2_with refine ao rfl G ?_
   refine(pY x wr J).mono ?_;rintro e w1 ⟨rfl,C⟩;have r:=aa (d.trans C);clear C;have I:Hid (∀b,(fun x=> !decide (x.2.1.2.length=16)|| !decide (x.2.2.2.length<=10)) x=b->∀y,l[k]? =some y->(fun x=> !decide (x.2.1.2.length=16)|| !decide (x.2.2.2.length<=10)) y=b):=aa fun b a y hy=>by rw[<-a,A.out,CR,hy];rfl
   have E:Hid ((fun x=> !decide (x.2.1.2.length=16)|| !decide (x.2.2.2.length<=10)) x=true->l.any (fun x=> !decide (x.2.1.2.length=16)|| !decide (x.2.2.2.length<=10))=true):=aa fun h=>nt s0 F (by rw[<-A.out];exact h)
   obtain⟨b,a⟩:=exq ((!decide (x.2.1.2.length=16)|| !decide (x.2.2.2.length<=10)));rw[<-a];have s:=aa a;clear a;cases b
   ·go_wp2_with fail
    go_roundw
    case rel=>exact⟨k+1,by omega,by go_num,r,aa fun q y S hy=>by
     rcases ED.1 S with g | g
     ·exact u q y g hy
     ·subst g;exact I false s.symm y hy⟩
    case measure=>simp[intOf];omega
   ·go_wp2_with fail
    go_ret;exact⟨⟨k,rfl,by rw[E.out s.out.symm];simp⟩,r⟩
  ·obtain rfl:k=n:=by omega
   have K:Hid (l.any (fun x=> !decide (x.2.1.2.length=16)|| !decide (x.2.2.2.length<=10))=false):=aa (eL u (by rw[<-t.out];exact CU _))
   go_wp2_with fail
   go_ret;exact⟨⟨-1,rfl,by rw[K.out];rfl⟩,d⟩
theorem r7 (v:CQ) (l:List Sv) (w:CP) (h:ng w v l):
  CZ CO 117 #[v,.func (.func 121) #[] #[]] w fun e w'=>e=.returned (.bool (l.any (fun x=> !decide (x.2.1.2.length=16)|| !decide (x.2.2.2.length<=10))))/\au w w':=by
 have a:=aa (r6 v l w h);obtain⟨q,g⟩:=exq (l.any (fun x=> !decide (x.2.1.2.length=16)|| !decide (x.2.2.2.length<=10)));rw[<-g]at a⊢;clear h;go_enter Tryz.func117,Tryz.ntmps117
 go_wp2_with fail
 refine a.mono ?_;rintro e i ⟨⟨z,rfl,c⟩,b⟩;have d:=aa b;clear b;have f:=aa c;clear c
 go_wp2_with fail
 go_ret;exact⟨by rw[<-f.out];rfl,d⟩
theorem uC (v:CQ) (l:List (List Int)) (w:CP) (h:aU w v l):
  CZ CO 148 #[v,.func (.func 119) #[] #[]] w fun e w'=>(∃z:Int,e=.returned (.int .i64 z)/\decide (0<=z)=l.any (fun x=> !decide (x.length=16)))/\au w w':=by
 obtain⟨p,c,R,S,Q⟩:=h.form;subst R;unfold Dc at Q;have H:=aa h;obtain⟨n,m⟩:=exq l.length;have s:=aa m;rw[<-m]at S⊢;skip;clear h m;go_enter Tryz.func148,Tryz.ntmps148
 go_wp2_with fail
 go_loopw [8] (fun i wr=>∃k:Nat,k<=n/\i=.int .i64 k/\au w wr/\Hid (∀q x,q < k->l[q]? =some x->(fun x=> !decide (x.length=16)) x=false)) (fun i _=>n - (intOf i).toNat);case atStart=>exact⟨0,C9 _,rfl,CT _ _,aa fun q x h=>absurd h (E2 _)⟩
 case round=>
  obtain⟨k,V,rfl,A,t⟩:=hrel;have f:=aa A;clear A;by_cases N:k < n
  ·have d:k < l.length:=by rw[<-s.out];exact N
   have G:=aa d;obtain⟨ws,C,D,E⟩:=H.ext f;obtain⟨U,W,O,L,M⟩:=aU.BK (ps:=l) (n:=l.length) C D k d;subst O;have j:=E k d;obtain⟨x,hx⟩:=exq (l.getD k []);rw[<-hx]at j;have u:=aa hx;obtain⟨p2,K,B,_,_⟩:=j.form;rw[B]at M;clear hx d C D E j B L
   go_wp2_with fail
   refine(pX p2 x.length K wr).mono ?_;rintro e X ⟨rfl,T⟩;subst T;have o:=f;have I:Hid (∀b,(fun x=> !decide (x.length=16)) x=b->∀y,l[k]? =some y->(fun x=> !decide (x.length=16)) y=b):=aa fun b a y hy=>by rw[<-a,u.out,CR,hy];rfl
   have F:Hid ((fun x=> !decide (x.length=16)) x=true->l.any (fun x=> !decide (x.length=16))=true):=aa fun h=>nt [] G (by rw[<-u.out];exact h)
   obtain⟨b,a⟩:=exq ((!decide (x.length=16)));rw[<-a];have r:=aa a;clear a;cases b
   ·go_wp2_with fail
    go_roundw
    case rel=>exact⟨k+1,by omega,by go_num,o,aa fun q y P hy=>by
     rcases ED.1 P with g | g
     ·exact t q y g hy
     ·subst g;exact I false r.symm y hy⟩
    case measure=>simp[intOf];omega
   ·go_wp2_with fail
    go_ret;exact⟨⟨k,rfl,by rw[F.out r.out.symm];simp⟩,o⟩
  ·obtain rfl:k=n:=by omega
   have J:Hid (l.any (fun x=> !decide (x.length=16))=false):=aa (eL t (by rw[<-s.out];exact CU _))
   go_wp2_with fail
   go_ret;exact⟨⟨-1,rfl,by rw[J.out];rfl⟩,f⟩
theorem uD (v:CQ) (l:List (List Int)) (w:CP) (h:aU w v l):
  CZ CO 120 #[v,.func (.func 119) #[] #[]] w fun e w'=>e=.returned (.bool (l.any (fun x=> !decide (x.length=16))))/\au w w':=by
 have a:=aa (uC v l w h);obtain⟨q,g⟩:=exq (l.any (fun x=> !decide (x.length=16)));rw[<-g]at a⊢;clear h;go_enter Tryz.func120,Tryz.ntmps120
 go_wp2_with fail
 refine a.mono ?_;rintro e i ⟨⟨z,rfl,c⟩,b⟩;have d:=aa b;clear b;have f:=aa c;clear c
 go_wp2_with fail
 go_ret;exact⟨by rw[<-f.out];rfl,d⟩
def fE (x:Int):Bool:= !wi x 0 511
def gQ (s:Sh):Bool:= !decide (s.2.1.length=16)|| !decide (s.2.2.length<=10)
def fa (b:List Int):Bool:= !decide (b.length=16)
def jN (l:BC):Bool:=
 if l.kind=3 then !l.places.any fE else if l.kind=4 then !l.shown.any (fun s=>fE s.1)else if l.kind=5 then wi l.BG 1 512&&wi l.BE 0 511 else if l.kind=6 then wi l.BE 0 511 else if l.kind=7 then wi l.code 1 255 else true
def br (l:BC):Bool:=wi l.id 0 1099511627776&&wi l.obj 0 1099511627776&&jN l
def bA (l:BC):Bool:=
 if l.kind=1\/l.kind=6 then wi l.blocks.length 1 512&& !l.blocks.any fa else if l.kind=3 then wi l.places.length 1 12 else if l.kind=4 then wi l.shown.length 1 12&& !l.shown.any gQ else true
def lF (l:BC):BC:=
 ⟨0,0,0,if l.kind=3 then []else l.places,if l.kind=4 then []else l.shown,if l.kind=5\/l.kind=6 then 0 else l.BE,if l.kind=5 then 0 else l.BG,if l.kind=1\/l.kind=6 then []else l.blocks,if l.kind=7 then 0 else l.code⟩
def dU (l:BC):Bool:=cQ (lF l) dW
def nx (s:Sh):List Int:=bB s.1++s.2.1++[(s.2.2.length:Int)]++s.2.2.flatten
def eu (l:BC):List Int:=
 if l.kind=6 then bB l.BE++(bB l.blocks.length++l.blocks.flatten)else if l.kind=1 then bB l.blocks.length++l.blocks.flatten else if l.kind=3 then(l.places.length:Int) :: l.places.flatMap bB else if l.kind=4 then(l.shown.length:Int) :: l.shown.flatMap nx else if l.kind=5 then bB l.BE++bB l.BG else if l.kind=7 then [l.code]else []
def bE (l:BC):List Int:=l.kind :: (aM l.id++aM l.obj++eu l)
def aR (l:BC):Nat:=
 if wi l.kind 1 7=false then 7 else if br l=false then 1 else if bA l=false then 8 else if dU l=false then 4 else if 8000 < (bE l).length then 3 else 0
theorem fv {x:Int} (h:fE x=false):0<=x/\x<=511:=by
 unfold fE at h;exact bj.1 (by simpa using h)
theorem cG {α :Type} {p: α ->Bool} {l:List α} (h:(!l.any p)=true):∀x∈l,p x=false:=fun x hx=>by
 have h2:l.any p=false:=by simpa using h
 rw[List.any_eq_false]at h2;simpa using h2 x hx
theorem uE (p:Sh->Bool) (q:Sv->Bool) (a:∀x,q x=p (cC x)) (L:List Sv):L.any q=(L.map cC).any p:=by
 rw[List.any_map];congr 1;funext x;exact a x
theorem yZ (L:List Sv):(L.any fun x=> !wi x.1 0 511)=(L.map cC).any fun s=>fE s.1:=uE (fun s=>fE s.1) (fun x=> !wi x.1 0 511) (fun _=>rfl) L
theorem y4 (L:List Sv):(L.any fun x=> !decide (x.2.1.2.length=16)|| !decide (x.2.2.2.length<=10))=(L.map cC).any gQ:=uE gQ (fun x=> !decide (x.2.1.2.length=16)|| !decide (x.2.2.2.length<=10)) (fun _=>rfl) L
theorem kQ.AS {w:CP} {v:CQ} {a:Nat} {e:TypeId} {n:Nat} {xs:List CQ} (h:w.ownsRow a e 1 v n xs) (b:B<=a) (hx:xs=aj .u8 l):kQ w v B e n l:=by
 obtain⟨p,c,d,_,_⟩:=(aX.AS h).form;subst hx d;exact⟨p,c,rfl,dX h b⟩
theorem dD.B7 {w:CP} {v:CQ} (h:Bu w .u8 v l):dD w v l:=by
 obtain⟨p,c,a,_,_⟩:=h.form;exact⟨p,c,a,h⟩
theorem r8 {w:CP} {v1 v2 v3 v4 v5:CQ} {b c d f g:List Int} (h1:Bu w .u8 v1 b) (h2:Bu w .u8 v2 c) (h:Bu w .u8 v3 d) (k:Bu w .u8 v4 f) (l:Bu w .u8 v5 g) (e:TypeId):aU (w.alloc (.cells #[v1,v2,v3,v4,v5] e)) (.slice (some ⟨w.heap.size,0,none⟩) 5 5) [b,c,d,f,g]:=by
 refine⟨[v1,v2,v3,v4,v5],.inr ⟨w.heap.size,0,5,rfl,CU _,show 5<=Dc from by decide,fun j u hu=> ?_⟩,rfl,fun i a=> ?_⟩
 ·rw[Nat.zero_add,World.cell?_alloc_new];simpa using hu
 ·have a:i < 5:=a
  match i,a with
  | 0,_=>exact h1.ext (ae _ _)
  | 1,_=>exact h2.ext (ae _ _)
  | 2,_=>exact h.ext (ae _ _)
  | 3,_=>exact k.ext (ae _ _)
  | 4,_=>exact l.ext (ae _ _)
theorem dr {l:BC} (h:br l=true):(0<=l.id/\l.id<=1099511627776)/\(0<=l.obj/\l.obj<=1099511627776)/\jN l=true:=by
 unfold br at h;rw[Du,Du]at h;exact⟨bj.1 h.1.1,bj.1 h.1.2,h.2⟩
theorem dJ {α :Type} (n:Nat):∀(a:List (List α)),(∀x∈a,x.length=n)->a.flatten.length=a.length*n
 | [],_=>by simp
 | x :: r,h=>by
  have h1:=h x (by simp);have h2:=dJ n r (fun y hy=>h y (E6 _ hy));rw[List.flatten_cons,C7,h1,h2,DB,Nat.add_mul];omega
theorem ep {b:List Int} (h:fa b=false):b.length=16:=by
 unfold fa at h;simpa using h
theorem iG {s:Sh} (h:gQ s=false):s.2.1.length=16/\s.2.2.length<=10:=by
 unfold gQ at h;simpa using h
theorem wI {s:Sh} (h:gQ s=false) (b:dd s.2.2):(nx s).length<=339:=by
 obtain⟨h1,h2⟩:=iG h;have a:=dJ 32 s.2.2 (fun x hx=>(b x hx).1);unfold nx;simp only[C7,List.length_singleton,h1,a];have:(bB s.1).length=2:=rfl;omega
theorem uF (l:List Int):(l.flatMap bB).length=l.length*2:=by
 induction l with
 | nil=>rfl
 | cons x r ih=>rw[FG,C7,ih,DB];have:(bB x).length=2:=rfl;omega
theorem ru (l:List Sh) (h:∀s∈l,gQ s=false/\dd s.2.2):(l.flatMap nx).length<=l.length*339:=by
 induction l with
 | nil=>simp
 | cons x r ih=>have h1:=wI (h x (by simp)).1 (h x (by simp)).2;have h2:=ih (fun y hy=>h y (E6 _ hy));rw[FG,C7,DB];omega
theorem fb {α β :Type} (d: α) (f: α ->List β) (l:List α) (k:Nat) (h:k < l.length):(l.take (k+1)).flatMap f=(l.take k).flatMap f++f (l.getD k d):=by
 rw[CR,CV h,List.take_succ_eq_append_getElem h,List.flatMap_append];simp
theorem kf {k:Int} (h:1<=k/\k<=7):k=1\/k=2\/k=3\/k=4\/k=5\/k=6\/k=7:=by omega
theorem om (v:CQ) (l:BC) (w:CP) (h:eg w v l) (E:1<=l.kind/\l.kind<=7):
  CZ CO 69 #[v] w fun e w'=>e=.returned (.bool (br l))/\au w w':=by
 obtain⟨ai,vp,vs,vb,L,rfl,x⟩:=h;obtain rfl:=x.eq;have HC:=aa x;obtain⟨p1,k,e1,_,_⟩:=x.pl.form;obtain⟨p2,m,e2,_,_⟩:=x.sh.rd.form;obtain⟨q,o,e3,_,_⟩:=x.bl.form;subst e1 e2 e3;obtain⟨y,id,j,pl,sh,g,f,S,d⟩:=l;obtain⟨_,G,P,C,T,U⟩:=x;simp only at G P C T U E;obtain⟨n,F⟩:=exq pl.length;obtain⟨i,B⟩:=exq L.length;obtain⟨p,V⟩:=exq S.length;have ad:Hid (i=sh.length):=aa (by rw[B,<-C,CY]);have Q:Hid (∀r,au w r->CZ CO 116 #[.slice p1 n k,.func (.func 114) #[] #[]] r fun e w'=>e=.returned (.bool (pl.any fE))/\au r w'):=aa fun r h2=>by have h:=uB _ _ r (G.ext h2);rw[F];exact h
 have R:Hid (∀r,au w r->CZ CO 117 #[.slice p2 i m,.func (.func 118) #[] #[]] r fun e w'=>e=.returned (.bool (sh.any fun s=>fE s.1))/\au r w'):=aa fun r h2=>by have h:=r5 _ _ r (P.ext h2);rw[yZ,C]at h;rw[B];exact h
 rw[<-F,<-B,<-V];clear G P C T U F B V HC ad;obtain⟨t,H⟩:=exq (wi id 0 1099511627776);obtain⟨u,I⟩:=exq (wi j 0 1099511627776);obtain⟨W,J⟩:=exq (pl.any fE);obtain⟨X,K⟩:=exq (sh.any fun s=>fE s.1);obtain⟨Y,M⟩:=exq (wi f 1 512);obtain⟨D,N⟩:=exq (wi g 0 511);obtain⟨Z,O⟩:=exq (wi d 1 255);rw[<-J]at Q;rw[<-K]at R;have c:=aa (Dj H (Dj I (Dj M (Dj N O))));have HV:Hid (br ⟨y,id,j,pl,sh,g,f,S,d⟩=(t&&u&&(if y=3 then !W else if y=4 then !X else if y=5 then Y&&D else if y=6 then D else if y=7 then Z else true))):=aa (by unfold br jN;rw[H,I,J,K,M,N,O]);clear H I J K M N O;have Hk:=aa E;clear E;rcases kf Hk with rfl | rfl | rfl | rfl | rfl | rfl | rfl
 ·have a:=aa (ae w (.cells #[.int .i64 1,.int .i64 id,.int .i64 j,.slice p1 n k,.slice p2 i m,.int .i64 g,.int .i64 f,.slice q p o,.int .i64 d] 26));show CZ CO 69 #[.agg #[.int .i64 1,.int .i64 id,.int .i64 j,.slice p1 n k,.slice p2 i m,.int .i64 g,.int .i64 f,.slice q p o,.int .i64 d]] w _;go_enter Tryz.func69,Gn
  go_wp2_with fail
  refine(aT _ _ _ _).mono ?_;rintro e b ⟨rfl,hw⟩;subst hw;rw[<-c.out.1];cases t
  ·go_wp2_with fail
   go_ret;exact⟨by rw[HV.out];rfl,a⟩
  go_wp2_with fail
  refine(aT _ _ _ _).mono ?_;rintro e b ⟨rfl,hw⟩;subst hw;rw[<-c.out.2.1];cases u
  ·go_wp2_with fail
   go_ret;exact⟨by rw[HV.out];rfl,a⟩
  go_wp2_with fail
  go_ret;exact⟨by rw[HV.out];rfl,a⟩
 ·have a:=aa (ae w (.cells #[.int .i64 2,.int .i64 id,.int .i64 j,.slice p1 n k,.slice p2 i m,.int .i64 g,.int .i64 f,.slice q p o,.int .i64 d] 26));show CZ CO 69 #[.agg #[.int .i64 2,.int .i64 id,.int .i64 j,.slice p1 n k,.slice p2 i m,.int .i64 g,.int .i64 f,.slice q p o,.int .i64 d]] w _;go_enter Tryz.func69,Gn
  go_wp2_with fail
  refine(aT _ _ _ _).mono ?_;rintro e b ⟨rfl,hw⟩;subst hw;rw[<-c.out.1];cases t
  ·go_wp2_with fail
   go_ret;exact⟨by rw[HV.out];rfl,a⟩
  go_wp2_with fail
  refine(aT _ _ _ _).mono ?_;rintro e b ⟨rfl,hw⟩;subst hw;rw[<-c.out.2.1];cases u
  ·go_wp2_with fail
   go_ret;exact⟨by rw[HV.out];rfl,a⟩
  go_wp2_with fail
  go_ret;exact⟨by rw[HV.out];rfl,a⟩
 ·have a:=aa (ae w (.cells #[.int .i64 3,.int .i64 id,.int .i64 j,.slice p1 n k,.slice p2 i m,.int .i64 g,.int .i64 f,.slice q p o,.int .i64 d] 26));show CZ CO 69 #[.agg #[.int .i64 3,.int .i64 id,.int .i64 j,.slice p1 n k,.slice p2 i m,.int .i64 g,.int .i64 f,.slice q p o,.int .i64 d]] w _;go_enter Tryz.func69,Gn
  go_wp2_with fail
  refine(aT _ _ _ _).mono ?_;rintro e b ⟨rfl,hw⟩;subst hw;rw[<-c.out.1];cases t
  ·go_wp2_with fail
   go_ret;exact⟨by rw[HV.out];rfl,a⟩
  go_wp2_with fail
  refine(aT _ _ _ _).mono ?_;rintro e b ⟨rfl,hw⟩;subst hw;rw[<-c.out.2.1];cases u
  ·go_wp2_with fail
   go_ret;exact⟨by rw[HV.out];rfl,a⟩
  go_wp2_with fail
  refine(Q _ a).mono ?_;rintro e b ⟨rfl,A⟩;have z:=aa (a.trans A);clear A;cases W
  ·go_wp2_with fail
   go_ret;exact⟨by rw[HV.out];rfl,z⟩
  go_wp2_with fail
  go_ret;exact⟨by rw[HV.out];rfl,z⟩
 ·have a:=aa (ae w (.cells #[.int .i64 4,.int .i64 id,.int .i64 j,.slice p1 n k,.slice p2 i m,.int .i64 g,.int .i64 f,.slice q p o,.int .i64 d] 26));show CZ CO 69 #[.agg #[.int .i64 4,.int .i64 id,.int .i64 j,.slice p1 n k,.slice p2 i m,.int .i64 g,.int .i64 f,.slice q p o,.int .i64 d]] w _;go_enter Tryz.func69,Gn
  go_wp2_with fail
  refine(aT _ _ _ _).mono ?_;rintro e b ⟨rfl,hw⟩;subst hw;rw[<-c.out.1];cases t
  ·go_wp2_with fail
   go_ret;exact⟨by rw[HV.out];rfl,a⟩
  go_wp2_with fail
  refine(aT _ _ _ _).mono ?_;rintro e b ⟨rfl,hw⟩;subst hw;rw[<-c.out.2.1];cases u
  ·go_wp2_with fail
   go_ret;exact⟨by rw[HV.out];rfl,a⟩
  go_wp2_with fail
  refine(R _ a).mono ?_;rintro e b ⟨rfl,A⟩;have z:=aa (a.trans A);clear A;cases X
  ·go_wp2_with fail
   go_ret;exact⟨by rw[HV.out];rfl,z⟩
  go_wp2_with fail
  go_ret;exact⟨by rw[HV.out];rfl,z⟩
 ·have a:=aa (ae w (.cells #[.int .i64 5,.int .i64 id,.int .i64 j,.slice p1 n k,.slice p2 i m,.int .i64 g,.int .i64 f,.slice q p o,.int .i64 d] 26));show CZ CO 69 #[.agg #[.int .i64 5,.int .i64 id,.int .i64 j,.slice p1 n k,.slice p2 i m,.int .i64 g,.int .i64 f,.slice q p o,.int .i64 d]] w _;go_enter Tryz.func69,Gn
  go_wp2_with fail
  refine(aT _ _ _ _).mono ?_;rintro e b ⟨rfl,hw⟩;subst hw;rw[<-c.out.1];cases t
  ·go_wp2_with fail
   go_ret;exact⟨by rw[HV.out];rfl,a⟩
  go_wp2_with fail
  refine(aT _ _ _ _).mono ?_;rintro e b ⟨rfl,hw⟩;subst hw;rw[<-c.out.2.1];cases u
  ·go_wp2_with fail
   go_ret;exact⟨by rw[HV.out];rfl,a⟩
  go_wp2_with fail
  refine(aT _ _ _ _).mono ?_;rintro e b ⟨rfl,hw⟩;subst hw;rw[<-c.out.2.2.1];cases Y
  ·go_wp2_with fail
   go_ret;exact⟨by rw[HV.out];rfl,a⟩
  go_wp2_with fail
  refine(gP _ _).mono ?_;rintro e b ⟨rfl,hw⟩;subst hw;rw[<-c.out.2.2.2.1];cases D
  ·go_wp2_with fail
   go_ret;exact⟨by rw[HV.out];rfl,a⟩
  go_wp2_with fail
  go_ret;exact⟨by rw[HV.out];rfl,a⟩
 ·have a:=aa (ae w (.cells #[.int .i64 6,.int .i64 id,.int .i64 j,.slice p1 n k,.slice p2 i m,.int .i64 g,.int .i64 f,.slice q p o,.int .i64 d] 26));show CZ CO 69 #[.agg #[.int .i64 6,.int .i64 id,.int .i64 j,.slice p1 n k,.slice p2 i m,.int .i64 g,.int .i64 f,.slice q p o,.int .i64 d]] w _;go_enter Tryz.func69,Gn
  go_wp2_with fail
  refine(aT _ _ _ _).mono ?_;rintro e b ⟨rfl,hw⟩;subst hw;rw[<-c.out.1];cases t
  ·go_wp2_with fail
   go_ret;exact⟨by rw[HV.out];rfl,a⟩
  go_wp2_with fail
  refine(aT _ _ _ _).mono ?_;rintro e b ⟨rfl,hw⟩;subst hw;rw[<-c.out.2.1];cases u
  ·go_wp2_with fail
   go_ret;exact⟨by rw[HV.out];rfl,a⟩
  go_wp2_with fail
  refine(gP _ _).mono ?_;rintro e b ⟨rfl,hw⟩;subst hw;rw[<-c.out.2.2.2.1];cases D
  ·go_wp2_with fail
   go_ret;exact⟨by rw[HV.out];rfl,a⟩
  go_wp2_with fail
  go_ret;exact⟨by rw[HV.out];rfl,a⟩
 ·have a:=aa (ae w (.cells #[.int .i64 7,.int .i64 id,.int .i64 j,.slice p1 n k,.slice p2 i m,.int .i64 g,.int .i64 f,.slice q p o,.int .i64 d] 26));show CZ CO 69 #[.agg #[.int .i64 7,.int .i64 id,.int .i64 j,.slice p1 n k,.slice p2 i m,.int .i64 g,.int .i64 f,.slice q p o,.int .i64 d]] w _;go_enter Tryz.func69,Gn
  go_wp2_with fail
  refine(aT _ _ _ _).mono ?_;rintro e b ⟨rfl,hw⟩;subst hw;rw[<-c.out.1];cases t
  ·go_wp2_with fail
   go_ret;exact⟨by rw[HV.out];rfl,a⟩
  go_wp2_with fail
  refine(aT _ _ _ _).mono ?_;rintro e b ⟨rfl,hw⟩;subst hw;rw[<-c.out.2.1];cases u
  ·go_wp2_with fail
   go_ret;exact⟨by rw[HV.out];rfl,a⟩
  go_wp2_with fail
  refine(aT _ _ _ _).mono ?_;rintro e b ⟨rfl,hw⟩;subst hw;rw[<-c.out.2.2.2.2];cases Z
  ·go_wp2_with fail
   go_ret;exact⟨by rw[HV.out];rfl,a⟩
  go_wp2_with fail
  go_ret;exact⟨by rw[HV.out];rfl,a⟩
theorem r9 (v:CQ) (l:BC) (w:CP) (h:eg w v l) (E:1<=l.kind/\l.kind<=7):
  CZ CO 70 #[v] w fun e w'=>e=.returned (.bool (bA l))/\au w w':=by
 obtain⟨af,vp,vs,vb,L,rfl,s⟩:=h;obtain rfl:=s.eq;have V:=aa s;obtain⟨p1,o,e1,_,_⟩:=s.pl.form;obtain⟨p2,d,e2,_,_⟩:=s.sh.rd.form;obtain⟨n,f,e3,_,_⟩:=s.bl.form;subst e1 e2 e3;obtain⟨u,id,m,pl,sh,j,i,y,g⟩:=l;obtain⟨_,R,M,B,D,Q⟩:=s;simp only at R M B D Q E;obtain⟨k,F⟩:=exq pl.length;obtain⟨b,A⟩:=exq L.length;obtain⟨c,z⟩:=exq y.length;have Z:Hid (b=sh.length):=aa (by rw[A,<-B,CY]);have C:Hid (∀p,au w p->CZ CO 120 #[.slice n c f,.func (.func 119) #[] #[]] p fun e w'=>e=.returned (.bool (y.any fa))/\au p w'):=aa fun p h2=>by have h:=uD _ _ p (D.ext h2);rw[z];exact h
 have P:Hid (∀p,au w p->CZ CO 117 #[.slice p2 b d,.func (.func 121) #[] #[]] p fun e w'=>e=.returned (.bool (sh.any gQ))/\au p w'):=aa fun p h2=>by have h:=r7 _ _ p (M.ext h2);rw[y4,B]at h;rw[A];exact h
 rw[<-F,<-A,<-z];have Y:=aa F;have X:=aa z;clear R M B D Q F A z V;obtain⟨N,G⟩:=exq (wi c 1 512);obtain⟨O,H⟩:=exq (y.any fa);obtain⟨S,I⟩:=exq (wi k 1 12);obtain⟨T,J⟩:=exq (wi b 1 12);obtain⟨U,K⟩:=exq (sh.any gQ);rw[<-H]at C;rw[<-K]at P;have x:=aa (Dj G (Dj I J));have HV:Hid (bA ⟨u,id,m,pl,sh,j,i,y,g⟩=(if u=1\/u=6 then N&& !O else if u=3 then S else if u=4 then T&& !U else true)):=aa (by unfold bA;simp only;rw[<-Z.out,<-Y.out,<-X.out,G,H,I,J,K]);clear G H I J K;have W:=aa E;clear E;rcases kf W with rfl | rfl | rfl | rfl | rfl | rfl | rfl
 ·have a:=aa (ae w (.cells #[.int .i64 1,.int .i64 id,.int .i64 m,.slice p1 k o,.slice p2 b d,.int .i64 j,.int .i64 i,.slice n c f,.int .i64 g] 26));show CZ CO 70 #[.agg #[.int .i64 1,.int .i64 id,.int .i64 m,.slice p1 k o,.slice p2 b d,.int .i64 j,.int .i64 i,.slice n c f,.int .i64 g]] w _;go_enter Tryz.func70,Gp
  go_wp2_with fail
  refine(aT _ _ _ _).mono ?_;rintro e t ⟨rfl,hw⟩;subst hw;rw[<-x.out.1];cases N
  ·go_wp2_with fail
   go_ret;exact⟨by rw[HV.out];rfl,a⟩
  go_wp2_with fail
  refine(C _ a).mono ?_;rintro e t ⟨rfl,r⟩;have q:=aa (a.trans r);clear r;cases O
  ·go_wp2_with fail
   go_ret;exact⟨by rw[HV.out];rfl,q⟩
  go_wp2_with fail
  go_ret;exact⟨by rw[HV.out];rfl,q⟩
 ·have a:=aa (ae w (.cells #[.int .i64 2,.int .i64 id,.int .i64 m,.slice p1 k o,.slice p2 b d,.int .i64 j,.int .i64 i,.slice n c f,.int .i64 g] 26));show CZ CO 70 #[.agg #[.int .i64 2,.int .i64 id,.int .i64 m,.slice p1 k o,.slice p2 b d,.int .i64 j,.int .i64 i,.slice n c f,.int .i64 g]] w _;go_enter Tryz.func70,Gp
  go_wp2_with fail
  go_ret;exact⟨by rw[HV.out];rfl,a⟩
 ·have a:=aa (ae w (.cells #[.int .i64 3,.int .i64 id,.int .i64 m,.slice p1 k o,.slice p2 b d,.int .i64 j,.int .i64 i,.slice n c f,.int .i64 g] 26));show CZ CO 70 #[.agg #[.int .i64 3,.int .i64 id,.int .i64 m,.slice p1 k o,.slice p2 b d,.int .i64 j,.int .i64 i,.slice n c f,.int .i64 g]] w _;go_enter Tryz.func70,Gp
  go_wp2_with fail
  refine(aT _ _ _ _).mono ?_;rintro e t ⟨rfl,hw⟩;subst hw;rw[<-x.out.2.1];cases S
  ·go_wp2_with fail
   go_ret;exact⟨by rw[HV.out];rfl,a⟩
  go_wp2_with fail
  go_ret;exact⟨by rw[HV.out];rfl,a⟩
 ·have a:=aa (ae w (.cells #[.int .i64 4,.int .i64 id,.int .i64 m,.slice p1 k o,.slice p2 b d,.int .i64 j,.int .i64 i,.slice n c f,.int .i64 g] 26));show CZ CO 70 #[.agg #[.int .i64 4,.int .i64 id,.int .i64 m,.slice p1 k o,.slice p2 b d,.int .i64 j,.int .i64 i,.slice n c f,.int .i64 g]] w _;go_enter Tryz.func70,Gp
  go_wp2_with fail
  refine(aT _ _ _ _).mono ?_;rintro e t ⟨rfl,hw⟩;subst hw;rw[<-x.out.2.2];cases T
  ·go_wp2_with fail
   go_ret;exact⟨by rw[HV.out];rfl,a⟩
  go_wp2_with fail
  refine(P _ a).mono ?_;rintro e t ⟨rfl,r⟩;have q:=aa (a.trans r);clear r;cases U
  ·go_wp2_with fail
   go_ret;exact⟨by rw[HV.out];rfl,q⟩
  go_wp2_with fail
  go_ret;exact⟨by rw[HV.out];rfl,q⟩
 ·have a:=aa (ae w (.cells #[.int .i64 5,.int .i64 id,.int .i64 m,.slice p1 k o,.slice p2 b d,.int .i64 j,.int .i64 i,.slice n c f,.int .i64 g] 26));show CZ CO 70 #[.agg #[.int .i64 5,.int .i64 id,.int .i64 m,.slice p1 k o,.slice p2 b d,.int .i64 j,.int .i64 i,.slice n c f,.int .i64 g]] w _;go_enter Tryz.func70,Gp
  go_wp2_with fail
  go_ret;exact⟨by rw[HV.out];rfl,a⟩
 ·have a:=aa (ae w (.cells #[.int .i64 6,.int .i64 id,.int .i64 m,.slice p1 k o,.slice p2 b d,.int .i64 j,.int .i64 i,.slice n c f,.int .i64 g] 26));show CZ CO 70 #[.agg #[.int .i64 6,.int .i64 id,.int .i64 m,.slice p1 k o,.slice p2 b d,.int .i64 j,.int .i64 i,.slice n c f,.int .i64 g]] w _;go_enter Tryz.func70,Gp
  go_wp2_with fail
  refine(aT _ _ _ _).mono ?_;rintro e t ⟨rfl,hw⟩;subst hw;rw[<-x.out.1];cases N
  ·go_wp2_with fail
   go_ret;exact⟨by rw[HV.out];rfl,a⟩
  go_wp2_with fail
  refine(C _ a).mono ?_;rintro e t ⟨rfl,r⟩;have q:=aa (a.trans r);clear r;cases O
  ·go_wp2_with fail
   go_ret;exact⟨by rw[HV.out];rfl,q⟩
  go_wp2_with fail
  go_ret;exact⟨by rw[HV.out];rfl,q⟩
 ·have a:=aa (ae w (.cells #[.int .i64 7,.int .i64 id,.int .i64 m,.slice p1 k o,.slice p2 b d,.int .i64 j,.int .i64 i,.slice n c f,.int .i64 g] 26));show CZ CO 70 #[.agg #[.int .i64 7,.int .i64 id,.int .i64 m,.slice p1 k o,.slice p2 b d,.int .i64 j,.int .i64 i,.slice n c f,.int .i64 g]] w _;go_enter Tryz.func70,Gp
  go_wp2_with fail
  go_ret;exact⟨by rw[HV.out];rfl,a⟩
theorem fQ (w:CP) (A R:List CQ) (a b:TypeId) (c:R≠[]):aw ((w.alloc (.cells A.toArray a)).alloc (.cells R.toArray b)) (w.heap.size+1) R:=by
 have h:=aw.box (w.alloc (.cells A.toArray a)) b c;rw[World.size_alloc]at h;exact h
theorem uG (v:CQ) (l:BC) (w:CP) (h:eg w v l) (B:1<=l.kind/\l.kind<=7):
  CZ CO 72 #[v] w fun e w'=>∃I,e=.returned I/\eg w' I (lF l)/\au w w':=by
 obtain⟨K,vp,vs,vb,L,rfl,p⟩:=h;obtain rfl:=p.eq;obtain⟨M,id,s,pl,sh,o,n,y,m⟩:=l;obtain⟨p1,c,C,_,_⟩:=p.pl.form;obtain⟨p2,d,D,_,_⟩:=p.sh.rd.form;obtain⟨k,i,E,_,_⟩:=p.bl.form;have q:Hid (Bu w .i64 vp pl):=aa p.pl;have r:=aa p.sh;have u:Hid (L.map cC=sh):=aa p.sl;have t:Hid (aU w vb y):=aa p.bl;have x:Hid (∀b∈y,bI b):=aa p.BJ;simp only at C D E B;subst C D E;clear p;obtain⟨f,G⟩:=exq pl.length;obtain⟨g,H⟩:=exq L.length;obtain⟨j,F⟩:=exq y.length;rw[<-G]at q⊢;rw[<-H]at r⊢;rw[<-F]at t⊢;clear G H F;have J:=aa B;clear B;rcases kf J with rfl | rfl | rfl | rfl | rfl | rfl | rfl
 ·show CZ CO 72 #[.agg #[.int .i64 1,.int .i64 id,.int .i64 s,.slice p1 f c,.slice p2 g d,.int .i64 o,.int .i64 n,.slice k j i,.int .i64 m]] w _;have a:Hid (∀A R,au w ((w.alloc (.cells A 26)).alloc (.cells R 26))):=aa fun A R=>(ae _ _).trans (ae _ _)
  go_enter Tryz.func72,Gq
  go_wp2_with fail
  refine De (v:=.agg ([.int .i64 0,.int .i64 0,.int .i64 0,.slice p1 f c,.slice p2 g d,.int .i64 o,.int .i64 n,.slice none 0 0,.int .i64 m]:List CQ).toArray) (aB rfl rfl ((fQ w _ [.int .i64 0,.int .i64 0,.int .i64 0,.slice p1 f c,.slice p2 g d,.int .i64 o,.int .i64 n,.slice none 0 0,.int .i64 m] _ _ (fun h=>by cases h)).loadVar (P:=CO) C5 rfl (by kernel_rfl))) rfl ⟨_,rfl,⟨_,.slice p1 f c,.slice p2 g d,.slice none 0 0,L,rfl,rfl,?_,?_,?_,?_,?_⟩,a _ _⟩
  ·exact q.ext (a _ _)
  ·exact r.ext (a _ _)
  ·exact u
  ·exact aU.nil _
  ·exact fun b z=>by cases z
 ·show CZ CO 72 #[.agg #[.int .i64 2,.int .i64 id,.int .i64 s,.slice p1 f c,.slice p2 g d,.int .i64 o,.int .i64 n,.slice k j i,.int .i64 m]] w _;have a:Hid (∀A R,au w ((w.alloc (.cells A 26)).alloc (.cells R 26))):=aa fun A R=>(ae _ _).trans (ae _ _)
  go_enter Tryz.func72,Gq
  go_wp2_with fail
  refine De (v:=.agg ([.int .i64 0,.int .i64 0,.int .i64 0,.slice p1 f c,.slice p2 g d,.int .i64 o,.int .i64 n,.slice k j i,.int .i64 m]:List CQ).toArray) (aB rfl rfl ((fQ w _ [.int .i64 0,.int .i64 0,.int .i64 0,.slice p1 f c,.slice p2 g d,.int .i64 o,.int .i64 n,.slice k j i,.int .i64 m] _ _ (fun h=>by cases h)).loadVar (P:=CO) C5 rfl (by kernel_rfl))) rfl ⟨_,rfl,⟨_,.slice p1 f c,.slice p2 g d,.slice k j i,L,rfl,rfl,?_,?_,?_,?_,?_⟩,a _ _⟩
  ·exact q.ext (a _ _)
  ·exact r.ext (a _ _)
  ·exact u
  ·exact t.ext (a _ _)
  ·exact x
 ·show CZ CO 72 #[.agg #[.int .i64 3,.int .i64 id,.int .i64 s,.slice p1 f c,.slice p2 g d,.int .i64 o,.int .i64 n,.slice k j i,.int .i64 m]] w _;have a:Hid (∀A R,au w ((w.alloc (.cells A 26)).alloc (.cells R 26))):=aa fun A R=>(ae _ _).trans (ae _ _)
  go_enter Tryz.func72,Gq
  go_wp2_with fail
  refine De (v:=.agg ([.int .i64 0,.int .i64 0,.int .i64 0,.slice none 0 0,.slice p2 g d,.int .i64 o,.int .i64 n,.slice k j i,.int .i64 m]:List CQ).toArray) (aB rfl rfl ((fQ w _ [.int .i64 0,.int .i64 0,.int .i64 0,.slice none 0 0,.slice p2 g d,.int .i64 o,.int .i64 n,.slice k j i,.int .i64 m] _ _ (fun h=>by cases h)).loadVar (P:=CO) C5 rfl (by kernel_rfl))) rfl ⟨_,rfl,⟨_,.slice none 0 0,.slice p2 g d,.slice k j i,L,rfl,rfl,?_,?_,?_,?_,?_⟩,a _ _⟩
  ·exact Bu.nil _ _
  ·exact r.ext (a _ _)
  ·exact u
  ·exact t.ext (a _ _)
  ·exact x
 ·show CZ CO 72 #[.agg #[.int .i64 4,.int .i64 id,.int .i64 s,.slice p1 f c,.slice p2 g d,.int .i64 o,.int .i64 n,.slice k j i,.int .i64 m]] w _;have a:Hid (∀A R,au w ((w.alloc (.cells A 26)).alloc (.cells R 26))):=aa fun A R=>(ae _ _).trans (ae _ _)
  go_enter Tryz.func72,Gq
  go_wp2_with fail
  refine De (v:=.agg ([.int .i64 0,.int .i64 0,.int .i64 0,.slice p1 f c,.slice none 0 0,.int .i64 o,.int .i64 n,.slice k j i,.int .i64 m]:List CQ).toArray) (aB rfl rfl ((fQ w _ [.int .i64 0,.int .i64 0,.int .i64 0,.slice p1 f c,.slice none 0 0,.int .i64 o,.int .i64 n,.slice k j i,.int .i64 m] _ _ (fun h=>by cases h)).loadVar (P:=CO) C5 rfl (by kernel_rfl))) rfl ⟨_,rfl,⟨_,.slice p1 f c,.slice none 0 0,.slice k j i,[],rfl,rfl,?_,?_,?_,?_,?_⟩,a _ _⟩
  ·exact q.ext (a _ _)
  ·exact ng.nil _
  ·exact rfl
  ·exact t.ext (a _ _)
  ·exact x
 ·show CZ CO 72 #[.agg #[.int .i64 5,.int .i64 id,.int .i64 s,.slice p1 f c,.slice p2 g d,.int .i64 o,.int .i64 n,.slice k j i,.int .i64 m]] w _;have a:Hid (∀A R,au w ((w.alloc (.cells A 26)).alloc (.cells R 26))):=aa fun A R=>(ae _ _).trans (ae _ _)
  go_enter Tryz.func72,Gq
  go_wp2_with fail
  refine De (v:=.agg ([.int .i64 0,.int .i64 0,.int .i64 0,.slice p1 f c,.slice p2 g d,.int .i64 0,.int .i64 0,.slice k j i,.int .i64 m]:List CQ).toArray) (aB rfl rfl ((fQ w _ [.int .i64 0,.int .i64 0,.int .i64 0,.slice p1 f c,.slice p2 g d,.int .i64 0,.int .i64 0,.slice k j i,.int .i64 m] _ _ (fun h=>by cases h)).loadVar (P:=CO) C5 rfl (by kernel_rfl))) rfl ⟨_,rfl,⟨_,.slice p1 f c,.slice p2 g d,.slice k j i,L,rfl,rfl,?_,?_,?_,?_,?_⟩,a _ _⟩
  ·exact q.ext (a _ _)
  ·exact r.ext (a _ _)
  ·exact u
  ·exact t.ext (a _ _)
  ·exact x
 ·show CZ CO 72 #[.agg #[.int .i64 6,.int .i64 id,.int .i64 s,.slice p1 f c,.slice p2 g d,.int .i64 o,.int .i64 n,.slice k j i,.int .i64 m]] w _;have a:Hid (∀A R,au w ((w.alloc (.cells A 26)).alloc (.cells R 26))):=aa fun A R=>(ae _ _).trans (ae _ _)
  go_enter Tryz.func72,Gq
  go_wp2_with fail
  refine De (v:=.agg ([.int .i64 0,.int .i64 0,.int .i64 0,.slice p1 f c,.slice p2 g d,.int .i64 0,.int .i64 n,.slice none 0 0,.int .i64 m]:List CQ).toArray) (aB rfl rfl ((fQ w _ [.int .i64 0,.int .i64 0,.int .i64 0,.slice p1 f c,.slice p2 g d,.int .i64 0,.int .i64 n,.slice none 0 0,.int .i64 m] _ _ (fun h=>by cases h)).loadVar (P:=CO) C5 rfl (by kernel_rfl))) rfl ⟨_,rfl,⟨_,.slice p1 f c,.slice p2 g d,.slice none 0 0,L,rfl,rfl,?_,?_,?_,?_,?_⟩,a _ _⟩
  ·exact q.ext (a _ _)
  ·exact r.ext (a _ _)
  ·exact u
  ·exact aU.nil _
  ·exact fun b z=>by cases z
 ·show CZ CO 72 #[.agg #[.int .i64 7,.int .i64 id,.int .i64 s,.slice p1 f c,.slice p2 g d,.int .i64 o,.int .i64 n,.slice k j i,.int .i64 m]] w _;have a:Hid (∀A R,au w ((w.alloc (.cells A 26)).alloc (.cells R 26))):=aa fun A R=>(ae _ _).trans (ae _ _)
  go_enter Tryz.func72,Gq
  go_wp2_with fail
  refine De (v:=.agg ([.int .i64 0,.int .i64 0,.int .i64 0,.slice p1 f c,.slice p2 g d,.int .i64 o,.int .i64 n,.slice k j i,.int .i64 0]:List CQ).toArray) (aB rfl rfl ((fQ w _ [.int .i64 0,.int .i64 0,.int .i64 0,.slice p1 f c,.slice p2 g d,.int .i64 o,.int .i64 n,.slice k j i,.int .i64 0] _ _ (fun h=>by cases h)).loadVar (P:=CO) C5 rfl (by kernel_rfl))) rfl ⟨_,rfl,⟨_,.slice p1 f c,.slice p2 g d,.slice k j i,L,rfl,rfl,?_,?_,?_,?_,?_⟩,a _ _⟩
  ·exact q.ext (a _ _)
  ·exact r.ext (a _ _)
  ·exact u
  ·exact t.ext (a _ _)
  ·exact x
theorem Bu.BL {w:CP} {e n:Nat} {v:CQ} (h:w.ownsRow B e 1 v n (aj .u8 l)):Bu w .u8 v l:=by
 have h1:=h.1;rw[ints_length,EZ]at h1;subst h1;exact aX.AS h
theorem jO (x:Int) (w:CP) (h0:0<=x) (h1:x<=65535):
  CZ CO 102 #[.int .i64 x] w fun e w'=>∃p c,e=.returned (.slice p 2 c)/\aX w' (.slice p 2 c) 2 (aj .u8 (bB x))/\au w w':=
 (kV x w h0 h1).mono fun _ _ ⟨_,h1,⟨p,c,h2,a⟩,b⟩=>⟨p,c,by rw[h1,h2];rfl,by rw[h2]at a;exact a,b⟩
theorem xR (v:CQ) (k a b:Int) (w:CP) (B:Nat) (h:aU w v [[k],aM a,aM b]) (i:B<=w.heap.size):
  CZ CO 100 #[v] w fun e w'=>∃c,e=.returned c/\kQ w' c B 5 17 (k :: (aM a++aM b))/\au w w':=by
 have d: [[k],aM a,aM b].flatten=k :: (aM a++aM b):=by simp
 have f:(k :: (aM a++aM b)).length=17:=rfl;refine(ke v _ w h (by rw[d,f];decide) (by rw[d,f];decide)).mono fun e w' ⟨c,h1,h2,g⟩=>⟨c,h1,?_,g⟩
 rw[d,f]at h2;exact kQ.AS h2 i rfl
theorem mE (v:CQ) (l:BC) (w:CP) (h:eg w v l) (hk:1<=l.kind/\l.kind<=7) (J:br l=true) (hz:bA l=true):
  CZ CO 59 #[v] w fun e w'=>∃B,e=.returned B/\Bu w' .u8 B (bE l)/\au w w':=by
 obtain⟨dZ,vp,vs,vb,L,rfl,j⟩:=h;obtain rfl:=j.eq;obtain⟨hid,cA,cz⟩:=dr J;obtain⟨W,id,d,pl,sh,y,G,r,I⟩:=l;obtain⟨p1,c1,e1,cu,dC⟩:=j.pl.form;obtain⟨p2,c2,e2,ds,dE⟩:=j.sh.rd.form;obtain⟨p3,c3,e3,_,_⟩:=j.bl.form;have bM:Hid (Bu w .i64 vp pl):=aa j.pl;have bO:=aa j.sh;have aY:Hid (L.map cC=sh):=aa j.sl;have bJ:Hid (aU w vb r):=aa j.bl;simp only at e1 e2 e3 hk hid cA cu;subst e1 e2 e3;clear j J;unfold Dc at dC dE;obtain⟨Q,b3⟩:=exq pl.length;obtain⟨H,b4⟩:=exq L.length;obtain⟨K,b2⟩:=exq r.length;have a9:=aa b3;have bo:=aa b4;have ag:=aa b2;rw[<-b3]at bM cu⊢;rw[<-b4]at bO ds⊢;rw[<-b2]at bJ⊢;clear b3 b4 b2;have ba:=aa cz;have Hz:=aa hz;clear cz hz;obtain⟨W0,bd⟩:=exq (w.alloc (.cells #[.int .i64 W,.int .i64 id,.int .i64 d,.slice p1 Q c1,.slice p2 H c2,.int .i64 y,.int .i64 G,.slice p3 K c3,.int .i64 I] 26));have cR:Hid (au w W0):=aa (by rw[bd];exact ae _ _);have HB:Hid (aw W0 w.heap.size (cL ⟨W,id,d,pl,sh,y,G,r,I⟩ (.slice p1 Q c1) (.slice p2 H c2) (.slice p3 K c3))):=aa (by rw[bd];exact aw.box w 26 (cs:=(cL ⟨W,id,d,pl,sh,y,G,r,I⟩ (.slice p1 Q c1) (.slice p2 H c2) (.slice p3 K c3))) (fun h=>by cases h));have db:Hid (w.heap.size+1<=W0.heap.size):=aa (by rw[bd];simp);show CZ CO 59 #[.agg #[.int .i64 W,.int .i64 id,.int .i64 d,.slice p1 Q c1,.slice p2 H c2,.int .i64 y,.int .i64 G,.slice p3 K c3,.int .i64 I]] w _;obtain⟨dA,dB⟩:=hk;obtain⟨dv,dx⟩:=hid;obtain⟨dy,dz⟩:=cA;have dR:Hid (0 < [[W],aM id,aM d].flatten.length/\[[W],aM id,aM d].flatten.length<=1099511627776):=aa ⟨by simp,by simp[aM]⟩;have dH:IntKind.u8.wrap W=W:=IntWalk.u8_in _ (by omega);go_enter Tryz.func59,Tryz.ntmps59
 go_wp2_with fail
 rw[<-bd];clear bd;apply aG 12 [8,9,10,11,12,13,14,15,16,17,18,19] [ar _,ar _,ar _,(fun v w'=>dD w' v [W]),ar _,ar _,(fun v w'=>dD w' v (aM id)),ar _,ar _,(fun v w'=>dD w' v (aM d)),(fun v w'=>aU w' v [[W],aM id,aM d]),(fun v w'=>kQ w' v (w.heap.size+1) 5 17 (W :: (aM id++aM d)))] (by kernel_rfl) (by kernel_rfl) (by kernel_rfl) (by kernel_rfl);case hsteps=>
  refine⟨?_,?_,?_,?_,?_,?_,?_,?_,?_,?_,?_,?_,trivial⟩;all_goals
   intro ev F z hb T;have e1:=hb 1 (by decide);clear hb;simp only[sB]at e1;simp only[sD]at T;have j:=(ay z).1;have q0:=(HB.ext z).cell (i:=0) rfl;have q1:=(HB.ext z).cell (i:=1) rfl;have q2:=(HB.ext z).cell (i:=2) rfl;try (obtain⟨⟨p5,c5,h5,cn⟩,⟨p6,c6,h6,ap⟩,⟨p7,c7,h7,az⟩⟩:=T;rw[h5]at cn;rw[h6]at ap;rw[h7]at az)
   simp only[dw,C8,if_true];go_simp;first | exact⟨ae _ _,mX _ _ _⟩ | exact⟨ae _ _,ji cn ap az _⟩ | (go_at_call 101;(with_reducible refine(lE id _ dv dx).mono ?_);rintro e D ⟨B,rfl,h1,h2⟩;exact⟨_,rfl,h2,h1⟩) | (go_at_call 101;(with_reducible refine(lE d _ dy dz).mono ?_);rintro e D ⟨B,rfl,h1,h2⟩;exact⟨_,rfl,h2,h1⟩) | (go_at_call 100;(with_reducible refine(xR _ W id d _ (w.heap.size+1) (by first | exact T | exact T.1) (Dk db.out z.size)).mono ?_);rintro e D ⟨B,rfl,h1,h2⟩;exact⟨_,rfl,h2,h1⟩) | exact⟨CT _ _,rfl⟩
 case hmono=>exact⟨ah _,ah _,ah _,(fun _ _ _ h k=>dD.ext h k),ah _,ah _,(fun _ _ _ h k=>dD.ext h k),ah _,ah _,(fun _ _ _ h k=>dD.ext h k),(fun _ _ _ h k=>aU.ext h k),(fun _ _ _ h k=>kQ.ext h k),trivial⟩
 case hend=>
  intro u F z hend;simp only[sE]at hend;simp only[sF,hend];obtain⟨dM,di,cF,b5⟩:kQ F (u 19) (w.heap.size+1) 5 17 (W :: (aM id++aM d)):=(by first | ((repeat(first | exact hend | exact hend.2 | replace hend:=hend.1));done) | ((repeat(first | exact hend | exact hend.1 | replace hend:=hend.2));first | done | fail));rw[cF]at b5⊢;have aF:=aa (cR.trans z);have V:=aa (HB.ext z);have aI:=aa b5;clear hend z cF b5 HB dH;have q0:=V.cell (i:=0) rfl;rcases kf ⟨dA,dB⟩with rfl | rfl | rfl | rfl | rfl | rfl | rfl
  ·have Z:Hid ((1<=K/\K<=512)/\∀b∈r,fa b=false):=aa (by
    have h:(wi r.length 1 512&& !r.any fa)=true:=Hz.out;rw[Du]at h;have h1:=bj.1 h.1
    exact⟨by have:=ag.out;omega,cG h.2⟩)
   have bW:(K:Int)<=512:=by have:=Z.1.2;omega
   have be:(0:Int)<=(K:Int):=by omega
   have af:Hid (r.flatten.length=K*16):=aa (by rw[ag.out];exact dJ 16 r (fun x hx=>ep (Z.2 x hx)));have HV:Hid (bE ⟨1,id,d,pl,sh,y,G,r,I⟩=1 :: (aM id++aM d)++bB K++r.flatten):=aa (by unfold bE eu;simp[ag.out]);have q7:=V.cell (i:=7) rfl
   go_wp2_with fail
   refine(jO (K:Int) F be (by omega)).mono ?_;rintro e wa ⟨pa,ca,rfl,O,t⟩;have E:=aa (aF.trans t);have n:=aa (V.ext t);have f:=aa (aN aI t);have S:=aa O;clear t O q7 q0
   go_wp2_with (with_reducible refine av ?_)
   refine ax ?_;refine bg aQ f S rfl rfl rfl (aE _ _) (show 17+2<=Dc by decide) (show(17+2)*1<=140737488355328 by decide) n.lt ?_;intro bx bt D a C A R J j;rw[<-aP]at a;have ai:=aa a;have ab:Hid (au w D):=aa (DC E (A.mono (ET _)));have X:=aa (n.grown C (fun q=>absurd (f.lt _ q).1 (EU _)));clear a C A R J j;clear E n f S;have q7:=X.cell (i:=7) rfl
   go_wp2_with fail
   refine(iP (.slice p3 K c3) r D (bJ.ext ab) (by rw[af.out];have:=Z.1.1;omega) (by rw[af.out];have:=Z.1.2;omega)).mono ?_;rintro e wa ⟨va,rfl,O,t⟩;obtain⟨pa,ca,bZ,_,_⟩:=O.form;subst bZ;obtain⟨M,Y⟩:=exq r.flatten.length;have HM:=aa Y;have dn:M<=8192:=by rw[Y,af.out];have:=Z.1.2;omega
   have bh:aX wa (.slice pa M ca) M (aj .u8 r.flatten):=by rw[Y];exact O
   rw[<-Y];have E:=aa (ab.trans t);have n:=aa (X.ext t);have f:=aa (aN ai t);have S:=aa bh;clear t O bh Y q7
   go_wp2_with (with_reducible refine av ?_)
   refine ax ?_;refine bg aQ f S rfl rfl (by rw[ints_length,<-HM.out,EZ]) (aE _ _) (by unfold Dc;omega) (by omega) n.lt ?_;intro dL dh w3 a C A R J j;rw[<-aP]at a;have bL:=aa a;have bn:Hid (au w w3):=aa (DC E (A.mono (ET _)));have bC:=aa (n.grown C (fun q=>absurd (f.lt _ q).1 (EU _)));clear a C A R J j
   go_wp2_with fail
   go_ret;refine⟨_,rfl,?_,bn⟩;rw[HV.out];exact Bu.BL bL
  ·have HV:Hid (bE ⟨2,id,d,pl,sh,y,G,r,I⟩=2 :: (aM id++aM d)):=aa (by unfold bE eu;simp)
   go_wp2_with fail
   go_ret;refine⟨_,rfl,?_,aF⟩;rw[HV.out];exact Bu.BL aI
  ·have cy:Hid ((1<=Q/\Q<=12)/\∀x∈pl,fE x=false):=aa (by
    have h:wi pl.length 1 12=true:=Hz.out;have h1:=bj.1 h
    exact⟨by have:=a9.out;omega,cG ba⟩)
   have bW:(Q:Int)<=12:=by have:=cy.1.2;omega
   have be:(0:Int)<=(Q:Int):=by omega
   have HV:Hid (bE ⟨3,id,d,pl,sh,y,G,r,I⟩=3 :: (aM id++aM d)++[(Q:Int)]++pl.flatMap bB):=aa (by unfold bE eu;simp[a9.out]);have q3:=V.cell (i:=3) rfl
   go_wp2_with (with_reducible refine av ?_)
   refine ax ?_;have E:Hid (au w (F.alloc (.cells #[.int .u8 (Q:Int)] 5))):=aa (aF.trans (ae _ _));have n:=aa (V.ext (ae F (.cells #[.int .u8 (Q:Int)] 5)));have f:=aa (aN aI (ae F (.cells #[.int .u8 (Q:Int)] 5)));refine bg aQ f (eI F 5 .u8 (Q:Int)) rfl rfl rfl (aE _ _) (show 17+1<=Dc by decide) (show(17+1)*1<=140737488355328 by decide) n.lt ?_;intro bx bt D a C A R J j;rw[<-aP]at a;have ai:=aa a;have ab:Hid (au w D):=aa (DC E (A.mono (ET _)));have X:=aa (n.grown C (fun q=>absurd (f.lt _ q).1 (EU _)));clear a C A R J j;clear E n f q3 q0;have q3:=X.cell (i:=3) rfl
   go_wp2_with fail
   clear q3;go_loopw [3,60] (fun o i wr=>∃(k:Nat) (p:Option Addr) (c:Nat),k<=Q/\i=.int .i64 k/\o=.slice p (18+k*2) c/\Hid (wr.ownsRow (w.heap.size+1) 5 1 (.slice p (18+k*2) c) (18+k*2) (aj .u8 (3 :: (aM id++aM d)++[(Q:Int)]++(pl.take k).flatMap bB)))/\Hid (w.heap.size+1<=wr.heap.size)/\au w wr) (fun _ i _=>Q - (intOf i).toNat);case atStart=>exact⟨0,_,_,C9 _,rfl,rfl,by rw[Ek,List.flatMap_nil,DV];exact ai,aa X.lt,ab⟩
   case round=>
    obtain⟨k,p,c,hk,rfl,rfl,HO,HS,hE⟩:=hrel;have HE:=aa hE;clear hE;by_cases b1:k < Q
    ·have aS:k < pl.length:=by rw[<-a9.out];exact b1
     obtain⟨dU,o1,dY,dF,_,_,_,_,cx⟩:=Bu.pos (k:=.i64) (l:=pl) (by rw[a9.out]at bM;exact bM.ext HE) (by omega);injection dF with bS bT bV;subst bS;have cv:=cx k aS;have cH:=fv (cy.2 _ (aJ 0 aS));have aZ:=aa (fb 0 bB pl k aS);obtain⟨x,hx⟩:=exq (pl.getD k 0);rw[<-hx]at cv cH aZ;obtain⟨b6,dI⟩:=cH;clear cx bT bV hx
     go_wp2_with fail
     refine(jO x wr b6 (by omega)).mono ?_;rintro e wa ⟨pa,ca,rfl,O,t⟩;have E:=aa (HE.trans t);have f:=aa (aN HO t);have S:=aa O;have cc:Hid (w.heap.size+1<=wa.heap.size):=aa (Dk HS t.size);clear t O cv
     go_wp2_with (with_reducible refine av ?_)
     refine ax ?_;refine bg aQ f S rfl rfl rfl (aE _ _) (by unfold Dc;omega) (by omega) cc ?_;intro p5 c5 w5 a C A R J j;rw[<-aP]at a;have e2:18+k*2+2=18+(k+1)*2:=by omega
     rw[e2]at a⊢;have c9:=aa a;have cU:Hid (au w w5):=aa (DC E (A.mono (ET _)));have cZ:Hid (w.heap.size+1<=w5.heap.size):=aa (Dk cc A.size);clear a C A R J j e2
     go_wp2_with fail
     go_roundw;case rel=>exact⟨k+1,p5,c5,by omega,by go_num,rfl,aa (by rw[aZ.out,<-List.append_assoc];exact c9),cZ,cU⟩
     case measure=>simp[intOf];omega
    ·obtain rfl:k=Q:=by omega
     go_wp2_with fail
     go_ret;refine⟨_,rfl,?_,HE⟩;have h:=Bu.BL HO;rw[CX (by rw[<-a9.out];exact CU _)]at h;rw[HV.out];exact h
  ·have bf:Hid ((1<=H/\H<=12)/\(∀s∈sh,gQ s=false)/\∀s∈sh,fE s.1=false):=aa (by
    have h:(wi sh.length 1 12&& !sh.any gQ)=true:=Hz.out;rw[Du]at h;have h1:=bj.1 h.1
    exact⟨by have:=bo.out;rw[<-aY.out,CY]at h1;omega,cG h.2,cG ba⟩)
   have bW:(H:Int)<=12:=by have:=bf.1.2;omega
   have be:(0:Int)<=(H:Int):=by omega
   have HV:Hid (bE ⟨4,id,d,pl,sh,y,G,r,I⟩=4 :: (aM id++aM d)++[(H:Int)]++sh.flatMap nx):=aa (by unfold bE eu;simp[bo.out,<-aY.out])
   have du:Hid (∀s∈sh,gQ s=false/\dd s.2.2):=aa fun s hs=>⟨bf.2.1 s hs,by
    rw[<-aY.out]at hs;obtain⟨x,hx,rfl⟩:=List.mem_map.1 hs
    exact(bO.ok x hx).dg⟩
   have q4:=V.cell (i:=4) rfl
   go_wp2_with (with_reducible refine av ?_)
   refine ax ?_;have E:Hid (au w (F.alloc (.cells #[.int .u8 (H:Int)] 5))):=aa (aF.trans (ae _ _));have n:=aa (V.ext (ae F (.cells #[.int .u8 (H:Int)] 5)));have f:=aa (aN aI (ae F (.cells #[.int .u8 (H:Int)] 5)));refine bg aQ f (eI F 5 .u8 (H:Int)) rfl rfl rfl (aE _ _) (show 17+1<=Dc by decide) (show(17+1)*1<=140737488355328 by decide) n.lt ?_;intro bx bt D a C A R J j;rw[<-aP]at a;have ai:=aa a;have ab:Hid (au w D):=aa (DC E (A.mono (ET _)));have X:=aa (n.grown C (fun q=>absurd (f.lt _ q).1 (EU _)));clear a C A R J j;clear E n f q4 q0;have q4:=X.cell (i:=4) rfl
   go_wp2_with fail
   clear q4;go_loopw [3,79] (fun o i wr=>∃(k N:Nat) (p:Option Addr) (c:Nat) (pre:List Int),k<=H/\i=.int .i64 k/\o=.slice p N c/\Hid (pre=4 :: (aM id++aM d)++[(H:Int)]++(sh.take k).flatMap nx)/\Hid (N=pre.length)/\Hid (aX wr (.slice p N c) N (aj .u8 pre))/\au w wr) (fun _ i _=>H - (intOf i).toNat);case atStart=>exact⟨0,18,_,_,4 :: (aM id++aM d)++[(H:Int)],C9 _,rfl,rfl,aa (by rw[Ek,List.flatMap_nil,DV]),aa rfl,aa (aX.AS ai),ab⟩
   case round=>
    obtain⟨k,N,p,c,pre,hk,rfl,rfl,bN,HN,HO,hE⟩:=hrel;have HE:=aa hE;clear hE;by_cases b1:k < H
    ·have aS:k < L.length:=by rw[<-bo.out];exact b1
     have b0:k < sh.length:=by rw[<-aY.out,CY];exact aS
     have bR:=bO.ext HE;obtain⟨g,o,dX,dG,_,_,_,cw⟩:=bR.pos (by omega);injection dG with bS bT bV;subst bS;have bi:=cw k aS;have ad:=bR.ok _ (aJ s0 aS);have cB:cC (L.getD k s0)=sh.getD k h0:=by rw[<-dq,aY.out]
     have bm:=bf.2.1 _ (aJ h0 b0);have b8:=fv (bf.2.2 _ (aJ h0 b0));have aZ:=aa (fb h0 nx sh k b0);rw[<-cB]at bm b8 aZ;obtain⟨x,hx⟩:=exq (L.getD k s0);rw[<-hx]at bi ad bm b8 aZ;clear hx cB cw bT bV bR;obtain⟨U,⟨u1,st⟩,u2,pa⟩:=x;obtain⟨b6,dI⟩:0<=U/\U<=511:=b8;obtain⟨b7,dK⟩:st.length=16/\pa.length<=10:=iG bm;obtain⟨q1,d1,cD,_,_⟩:=ad.st.form;obtain⟨q2,d2,cE,_,_⟩:=ad.pa.form;simp only at cD cE;subst cD cE;rw[b7]at ad bi;obtain⟨m,hm⟩:=exq pa.length;have Hm:=aa hm;rw[<-hm]at ad bi dK;have d7:IntKind.u8.wrap (m:Int)=(m:Int):=IntWalk.u8_in _ (by omega);have dc:Hid (Bu wr .u8 (.slice q1 16 d1) st):=aa ad.st;have da:Hid (et wr (.slice q2 m d2) pa):=aa ad.pa;have cd:Hid (dd pa):=aa ad.dg;have de:=aa b7;have dS:=aa bm;have ce:=aa (DS (P:=CO) wr g (o+k*3) 57 _ _ bi Er rfl (by rw[bU];kernel_rfl));obtain⟨cp,cq⟩:=aw.fresh (cs:=cS (U,(.slice q1 16 d1,st),.slice q2 m d2,pa)) wr 57 eS rfl (kE _);have cg:=aa (aH (P:=CO) (cs:=cS (U,(.slice q1 16 d1,st),.slice q2 m d2,pa)) wr 57 eS rfl (gM ad) (ty:=57) (by rw[bU];kernel_rfl));have a6:=aa cp;have a7:=aa cq;have d5:(0:Int)<=(k:Int):=by omega
     have d6:(k:Int) < (H:Int):=by omega
     clear bi ad cp cq hm b7 bm
     go_wp2_with first | refine ao rfl ce ?_ | (with_reducible refine aC (ty:=57) ?_)
     refine ax ?_;refine ak rfl rfl cg ?_;obtain⟨W7,cr⟩:=exq ((wr.alloc (.cells eS 57)).setCells wr.heap.size 0 (cS (U,(.slice q1 16 d1,st),.slice q2 m d2,pa)));obtain⟨X7,ct⟩:=exq wr.heap.size;rw[<-cr]at a6 a7⊢;rw[<-ct]at a6⊢;clear cr ct cg ce
     have c4:Hid (pre.length<=18+H*339):=aa (by
     rw[bN.out];simp only[C7,DB,DY];have h1:=ru (sh.take k) (fun s hs=>du s (List.mem_of_mem_take hs));rw[List.length_take]at h1;have h2:(aM id).length=8:=rfl;have h3:(aM d).length=8:=rfl;have h4:min k sh.length*339<=H*339:=Nat.mul_le_mul_right _ (by omega)
     omega)
     obtain⟨fl,bv⟩:=exq pa.flatten;have c0:=aa bv;have af:Hid (fl.length<=320):=aa (by rw[bv,dJ 32 pa (fun x hx=>(cd.out x hx).1),<-Hm.out];omega)
     have cf:Hid (0 < [pre,bB U,st,[(m:Int)],fl].flatten.length/\[pre,bB U,st,[(m:Int)],fl].flatten.length<=1099511627776):=aa (by
     have h1:=c4.out;have h2:=af.out;have h3:=de.out;have h4:(bB U).length=2:=rfl;have h5:=bf.1.2;simp only[List.flatten_cons,List.flatten_nil,C7,DB,DY]
     omega)
     obtain⟨L5,aR⟩:=exq ([pre,bB U,st,[(m:Int)],fl].flatten);have cX:Hid (∀D,au W7 D->CZ CO 103 #[.slice q2 m d2] D fun e w'=>∃B,e=.returned B/\dD w' B fl/\au D w'):=aa fun D h2=>by rw[bv];exact(pW _ pa _ (aX.ext da (a7.trans h2)) cd (by have:=Hm.out;omega)).mono fun _ _ ⟨B,h1,h2,h3⟩=>⟨B,h1,dD.B7 h2,h3⟩
     clear bv;have cQ:Hid (∀v w,aU w v [pre,bB U,st,[(m:Int)],fl]->CZ CO 100 #[v] w fun e w'=>∃B,e=.returned B/\dD w' B L5/\au w w'):=aa fun v w h=>by rw[aR];exact(iP v _ w h cf.1 cf.2).mono fun _ _ ⟨B,h1,h2,h3⟩=>⟨B,h1,dD.B7 h2,h3⟩
     have bF:=aa aR;clear aR;have cW:Hid (Bu W7 .u8 (.slice p N c) pre):=aa (by have h:=aX.ext HO a7;rw[HN.out]at h⊢;exact h)
     go_wp2_with fail
     apply aG 16 [83,84,85,86,87,88,89,90,91,92,93,94,95,96,97,98] [ar _,ar _,ar _,(fun v w'=>dD w' v (bB U)),ar _,ar _,ar _,ar _,ar _,ar _,(fun v w'=>dD w' v [(m:Int)]),ar _,ar _,(fun v w'=>dD w' v fl),(fun v w'=>aU w' v [pre,bB U,st,[(m:Int)],fl]),(fun v w'=>dD w' v L5)] (by kernel_rfl) (by kernel_rfl) (by kernel_rfl) (by kernel_rfl);case hsteps=>
      refine⟨?_,?_,?_,?_,?_,?_,?_,?_,?_,?_,?_,?_,?_,?_,?_,?_,trivial⟩;all_goals
       intro ev F z hb T;have e3:=hb 3 (by decide);have e7:=hb 7 (by decide);clear hb;simp only[sB]at e3 e7;simp only[sD]at T;have j:=(ay z).1;have q0:=(a6.ext z).cell (i:=0) rfl;have q1:=(a6.ext z).cell (i:=1) rfl;have q2:=(a6.ext z).cell (i:=2) rfl;try (obtain⟨dm,⟨p6,c6,h6,ap⟩,d0,⟨p7,c7,h7,az⟩,⟨p8,dW,h8,co⟩⟩:=T;rw[h6]at ap;rw[h7]at az;rw[h8]at co)
       simp only[dw,C8,if_true];go_simp;first | exact⟨ae _ _,mX _ _ _⟩ | exact⟨ae _ _,r8 (cW.ext z) ap (dc.ext (a7.trans z)) az co _⟩ | (go_at_call 102;(with_reducible refine(kV U _ b6 (by omega)).mono ?_);rintro e D ⟨B,rfl,h1,h2⟩;exact⟨_,rfl,h2,h1⟩) | (go_at_call 103;(with_reducible refine(cX.out _ z).mono ?_);rintro e D ⟨B,rfl,h1,h2⟩;exact⟨_,rfl,h2,h1⟩) | (go_at_call 100;(with_reducible refine(cQ.out _ _ (by first | exact T | exact T.1)).mono ?_);rintro e D ⟨B,rfl,h1,h2⟩;exact⟨_,rfl,h2,h1⟩) | exact⟨CT _ _,rfl⟩
     case hmono=>exact⟨ah _,ah _,ah _,(fun _ _ _ h k=>dD.ext h k),ah _,ah _,ah _,ah _,ah _,ah _,(fun _ _ _ h k=>dD.ext h k),ah _,ah _,(fun _ _ _ h k=>dD.ext h k),(fun _ _ _ h k=>aU.ext h k),(fun _ _ _ h k=>dD.ext h k),trivial⟩
     case hend=>
      intro u F z hend;simp only[sE]at hend;simp only[sF,hend];obtain⟨cN,cl,bl,aT⟩:dD F (u 98) L5:=(by first | ((repeat(first | exact hend | exact hend.2 | replace hend:=hend.1));done) | ((repeat(first | exact hend | exact hend.1 | replace hend:=hend.2));first | done | fail));rw[bl]at aT⊢;have bD:=aa ((HE.trans a7).trans z);have bp:=aa aT;clear hend z bl aT;obtain⟨N2,bQ⟩:=exq L5.length;have bI:=aa bQ;rw[<-bQ]at bp⊢;clear bQ
      go_wp2_with fail
      go_roundw;case rel=>exact⟨k+1,N2,cN,cl,_,by omega,by go_num,rfl,aa (by rw[bF.out,aZ.out,bN.out,c0.out];show _=_++(_++(bB U++st++[(pa.length:Int)]++pa.flatten));rw[Hm.out];simp),bI,aa (by rw[bI.out];have h:=bp.out;rw[bI.out]at h;exact h),bD⟩
      case measure=>simp[intOf];omega
    ·obtain rfl:k=H:=by omega
     go_wp2_with fail
     go_ret;refine⟨_,rfl,?_,HE⟩;have h:=HO.out;rw[HN.out]at h;rw[HV.out];have e:pre=_:=bN.out;rw[CX (by rw[<-aY.out,CY,<-bo.out];exact CU _)]at e;rw[<-e];show aX _ (.slice p N c) _ _;rw[HN.out];exact h
  ·have h5:Hid ((1<=G/\G<=512)/\0<=y/\y<=511):=aa (by
    have h:(wi G 1 512&&wi y 0 511)=true:=ba.out;rw[Du]at h
    exact⟨bj.1 h.1,bj.1 h.2⟩)
   have dp:0<=G:=by have:=h5.out;omega
   have dt:G<=65535:=by have:=h5.out;omega
   have bX:0<=y:=h5.2.1;have bY:y<=65535:=by have:=h5.out;omega
   have HV:Hid (bE ⟨5,id,d,pl,sh,y,G,r,I⟩=[5 :: (aM id++aM d),bB y,bB G].flatten):=aa (by unfold bE eu;simp);have cV:Hid (Bu F .u8 (.slice dM 17 di) (5 :: (aM id++aM d))):=aa (Bu.BL aI);obtain⟨L5,aR⟩:=exq ([5 :: (aM id++aM d),bB y,bB G].flatten);rw[<-aR]at HV;have bF:Hid (∀v w,aU w v [5 :: (aM id++aM d),bB y,bB G]->CZ CO 100 #[v] w fun e w'=>∃B,e=.returned B/\dD w' B L5/\au w w'):=aa fun v w h=>by rw[aR];exact(iP v _ w h (by simp) (by simp[aM,bB])).mono fun _ _ ⟨B,h1,h2,h3⟩=>⟨B,h1,dD.B7 h2,h3⟩
   clear aR
   go_wp2_with fail
   clear q0;apply aG 9 [100,101,102,103,104,105,106,107,108] [ar _,ar _,ar _,(fun v w'=>dD w' v (bB y)),ar _,ar _,(fun v w'=>dD w' v (bB G)),(fun v w'=>aU w' v [5 :: (aM id++aM d),bB y,bB G]),(fun v w'=>dD w' v L5)] (by kernel_rfl) (by kernel_rfl) (by kernel_rfl) (by kernel_rfl);case hsteps=>
    refine⟨?_,?_,?_,?_,?_,?_,?_,?_,?_,trivial⟩;all_goals
     intro ev F z hb T;have e1:=hb 1 (by decide);have e3:=hb 3 (by decide);clear hb;simp only[sB]at e1 e3;simp only[sD]at T;have j:=(ay z).1;have q5:=(V.ext z).cell (i:=5) rfl;have q6:=(V.ext z).cell (i:=6) rfl;try (obtain⟨dm,⟨p6,c6,h6,ap⟩,⟨p7,c7,h7,az⟩⟩:=T;rw[h6]at ap;rw[h7]at az)
     simp only[dw,C8,if_true];go_simp;first | exact⟨ae _ _,ji (cV.ext z) ap az _⟩ | (go_at_call 102;(with_reducible refine(kV y _ bX bY).mono ?_);rintro e D ⟨B,rfl,h1,h2⟩;exact⟨_,rfl,h2,h1⟩) | (go_at_call 102;(with_reducible refine(kV G _ dp dt).mono ?_);rintro e D ⟨B,rfl,h1,h2⟩;exact⟨_,rfl,h2,h1⟩) | (go_at_call 100;(with_reducible refine(bF.out _ _ (by first | exact T | exact T.1)).mono ?_);rintro e D ⟨B,rfl,h1,h2⟩;exact⟨_,rfl,h2,h1⟩) | exact⟨CT _ _,rfl⟩
   case hmono=>exact⟨ah _,ah _,ah _,(fun _ _ _ h k=>dD.ext h k),ah _,ah _,(fun _ _ _ h k=>dD.ext h k),(fun _ _ _ h k=>aU.ext h k),(fun _ _ _ h k=>dD.ext h k),trivial⟩
   case hend=>
    intro u F z hend;simp only[sE]at hend;simp only[sF,hend];obtain⟨cN,cl,bl,aT⟩:dD F (u 108) L5:=(by first | ((repeat(first | exact hend | exact hend.2 | replace hend:=hend.1));done) | ((repeat(first | exact hend | exact hend.1 | replace hend:=hend.2));first | done | fail));rw[bl]at aT⊢;have bD:=aa (aF.trans z);have bp:=aa aT;clear hend z bl aT
    go_wp2_with fail
    go_ret;refine⟨_,rfl,?_,bD⟩;rw[HV.out];exact bp
  ·have Z:Hid ((1<=K/\K<=512)/\∀b∈r,fa b=false):=aa (by
    have h:(wi r.length 1 512&& !r.any fa)=true:=Hz.out;rw[Du]at h;have h1:=bj.1 h.1
    exact⟨by have:=ag.out;omega,cG h.2⟩)
   have bW:(K:Int)<=512:=by have:=Z.1.2;omega
   have be:(0:Int)<=(K:Int):=by omega
   have af:Hid (r.flatten.length=K*16):=aa (by rw[ag.out];exact dJ 16 r (fun x hx=>ep (Z.2 x hx)));have h6:Hid (0<=y/\y<=511):=aa (bj.1 ba);have bX:0<=y:=h6.1;have bY:y<=65535:=by have:=h6.out;omega
   have HV:Hid (bE ⟨6,id,d,pl,sh,y,G,r,I⟩=6 :: (aM id++aM d)++bB y++bB K++r.flatten):=aa (by unfold bE eu;simp[ag.out]);have q5:=V.cell (i:=5) rfl
   go_wp2_with fail
   refine(jO y F bX bY).mono ?_;rintro e wa ⟨pa,ca,rfl,O,t⟩;have E:=aa (aF.trans t);have n:=aa (V.ext t);have f:=aa (aN aI t);have S:=aa O;clear t O q5 q0
   go_wp2_with (with_reducible refine av ?_)
   refine ax ?_;refine bg aQ f S rfl rfl rfl (aE _ _) (show 17+2<=Dc by decide) (show(17+2)*1<=140737488355328 by decide) n.lt ?_;intro bx bt D a C A R J j;rw[<-aP]at a;have ai:=aa a;have ab:Hid (au w D):=aa (DC E (A.mono (ET _)));have X:=aa (n.grown C (fun q=>absurd (f.lt _ q).1 (EU _)));clear a C A R J j;clear E n f S;have q7:=X.cell (i:=7) rfl
   go_wp2_with fail
   refine(jO (K:Int) D be (by omega)).mono ?_;rintro e wa ⟨pa,ca,rfl,O,t⟩;have E:=aa (ab.trans t);have n:=aa (X.ext t);have f:=aa (aN ai t);have S:=aa O;clear t O q7
   go_wp2_with (with_reducible refine av ?_)
   refine ax ?_;refine bg aQ f S rfl rfl rfl (aE _ _) (show 19+2<=Dc by decide) (show(19+2)*1<=140737488355328 by decide) n.lt ?_;intro dL dh w3 a C A R J j;rw[<-aP]at a;have bL:=aa a;have bn:Hid (au w w3):=aa (DC E (A.mono (ET _)));have bC:=aa (n.grown C (fun q=>absurd (f.lt _ q).1 (EU _)));clear a C A R J j;clear E n f S;have q7:=bC.cell (i:=7) rfl
   go_wp2_with fail
   refine(iP (.slice p3 K c3) r w3 (bJ.ext bn) (by rw[af.out];have:=Z.1.1;omega) (by rw[af.out];have:=Z.1.2;omega)).mono ?_;rintro e wa ⟨va,rfl,O,t⟩;obtain⟨pa,ca,bZ,_,_⟩:=O.form;subst bZ;obtain⟨M,Y⟩:=exq r.flatten.length;have HM:=aa Y;have dn:M<=8192:=by rw[Y,af.out];have:=Z.1.2;omega
   have bh:aX wa (.slice pa M ca) M (aj .u8 r.flatten):=by rw[Y];exact O
   rw[<-Y];have E:=aa (bn.trans t);have n:=aa (bC.ext t);have f:=aa (aN bL t);have S:=aa bh;clear t O bh Y q7
   go_wp2_with (with_reducible refine av ?_)
   refine ax ?_;refine bg aQ f S rfl rfl (by rw[ints_length,<-HM.out,EZ]) (aE _ _) (by unfold Dc;omega) (by omega) n.lt ?_;intro d9 dV w4 a C A R J j;rw[<-aP]at a;have c8:=aa a;have cT:Hid (au w w4):=aa (DC E (A.mono (ET _)));have dQ:=aa (n.grown C (fun q=>absurd (f.lt _ q).1 (EU _)));clear a C A R J j
   go_wp2_with fail
   go_ret;refine⟨_,rfl,?_,cT⟩;rw[HV.out];exact Bu.BL c8
  ·have h7:Hid (1<=I/\I<=255):=aa (bj.1 ba);have d3:1<=I:=h7.1;have d4:I<=255:=h7.2;have HV:Hid (bE ⟨7,id,d,pl,sh,y,G,r,I⟩=7 :: (aM id++aM d)++[I]):=aa (by unfold bE eu;simp);have q8:=V.cell (i:=8) rfl
   go_wp2_with (with_reducible refine av ?_)
   refine ax ?_;have E:Hid (au w (F.alloc (.cells #[.int .u8 I] 5))):=aa (aF.trans (ae _ _));have n:=aa (V.ext (ae F (.cells #[.int .u8 I] 5)));have f:=aa (aN aI (ae F (.cells #[.int .u8 I] 5)));refine bg aQ f (eI F 5 .u8 I) rfl rfl rfl (aE _ _) (show 17+1<=Dc by decide) (show(17+1)*1<=140737488355328 by decide) n.lt ?_;intro bx bt D a C A R J j;rw[<-aP]at a;have ai:=aa a;have ab:Hid (au w D):=aa (DC E (A.mono (ET _)));have X:=aa (n.grown C (fun q=>absurd (f.lt _ q).1 (EU _)));clear a C A R J j;clear E n f q8 q0
   go_wp2_with fail
   go_ret;refine⟨_,rfl,?_,ab⟩;rw[HV.out];exact Bu.BL ai
end Go.Proofs.Bl
