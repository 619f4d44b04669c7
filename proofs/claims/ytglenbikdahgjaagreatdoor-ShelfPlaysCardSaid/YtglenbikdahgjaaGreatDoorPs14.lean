/- Texts that stood apart, in one: EqI, LW1, LW2, LW5. -/
import Derived.Test.YtglenbikdahgjaaGreatDoorPs13
set_option maxRecDepth 100000
set_option maxHeartbeats 16000000
open And renaming intro->Dj
open Bool renaming eq_iff_iff->F6
open Go renaming Calls->CZ,Value->CQ,World->CP,bodyPost_ret->De,maxLen->Dc,run_loadAt_mid->DS
open Go.Instr renaming loadAt->EX
open Go.Region renaming wanted->C8
open Go.RowKit.Below renaming refl->CT
open List renaming length_map->CY,take_of_length_le->CX
open Nat renaming le_refl->CU,le_succ->ET,zero_le->C9
namespace Go.Proofs.Bl
open Go Go.RowKit Go.Proofs
open Go.Proofs.Tryz renaming prog->CO,underlying100->E5,underlying26->C5,underlying27->Ef,underlying3->DP,underlying5->Ex,underlying52->EA,underlying54->DF,underlying57->Er,underlying9->EY
variable {b m sb:Nat}
theorem qL (C vb:CQ) (xs ys:List Int) (w:CP) (f:Bu w .i64 C xs) (g:Bu w .i64 vb ys):
  CZ CO 122 #[C,vb] w fun e w'=>e=.returned (.bool (decide (xs=ys)))/\au w w':=by
 obtain⟨pa,ca,U,W,S⟩:=f.form;obtain⟨pb,cb,V,X,T⟩:=g.form;subst U V;have E:=aa f;have F:=aa g;unfold Dc at S T;obtain⟨n,o⟩:=exq xs.length;obtain⟨m,hm⟩:=exq ys.length;rw[<-o]at⊢W;rw[<-hm]at⊢X;have c:=aa o;have b:=aa hm;clear f g o hm;by_cases B:n=m
 ·subst B;go_enter Tryz.func122,Tryz.ntmps122
  go_wp2_with fail
  go_loopw [13] (fun i wr=>∃k:Nat,k<=n/\i=.int .i64 k/\au w wr/\Hid (xs.take k=ys.take k)) (fun i _=>n - (intOf i).toNat);case atStart=>exact⟨0,C9 _,rfl,CT _ _,aa rfl⟩
  case round=>
   obtain⟨k,hk,rfl,u,t⟩:=hrel;have a:=aa u;clear u;by_cases A:k < n
   ·have j:k < xs.length:=by rw[<-c.out];exact A
    have l:k < ys.length:=by rw[<-b.out];exact A
    obtain⟨Y,o1,c1,N,_,_,_,_,v⟩:=Bu.pos (E.ext a) (by omega);obtain⟨Z,o2,c2,O,_,_,_,_,z⟩:=Bu.pos (F.ext a) (by omega);injection N with K L M;injection O with P Q R;subst K P;have I:=v k j;have J:=z k l;have r:=aa (aF 0 xs k j);have s:=aa (aF 0 ys k l);obtain⟨x,hx⟩:=exq (xs.getD k 0);obtain⟨y,hy⟩:=exq (ys.getD k 0);rw[<-hx]at I r;rw[<-hy]at J s;have G:=aa hx;have H:=aa hy;clear v z L M Q R hx hy j l;by_cases p:x=y
    ·subst p
     go_wp2_with fail
     go_quiet (fail)
     go_wp2_with fail
     go_roundw;case rel=>exact⟨k+1,by omega,by go_num,a.trans ((CT _ _).drewN _),aa (by rw[r.out,s.out,t.out])⟩
     case measure=>simp[intOf];omega
    ·have hq:(x==y)=false:=by rw[beq_eq_false_iff_ne];exact p
     have d:Hid (¬xs=ys):=aa fun q=>p (by rw[G.out,H.out,q])
     go_wp2_with fail
     go_quiet (fail)
     go_wp2_with fail
     go_ret;exact⟨by rw[decide_eq_false d.out];rfl,a.trans ((CT _ _).drewN _)⟩
   ·obtain rfl:k=n:=by omega
    have D:Hid (xs=ys):=aa (by
     have h:=t.out
     rwa[CX (by rw[<-c.out];exact CU _),CX (by rw[<-b.out];exact CU _)]at h)
    go_wp2_with fail
    go_ret;exact⟨by rw[decide_eq_true D.out];rfl,a⟩
 ·have d:Hid (¬xs=ys):=aa fun q=>B (by rw[c.out,b.out,q])
  have ag:((n:Int)==(m:Int))=false:=by rw[beq_eq_false_iff_ne];omega
  go_enter Tryz.func122,Tryz.ntmps122
  go_wp2_with fail
  go_ret;exact⟨by rw[decide_eq_false d.out];rfl,CT _ _⟩
theorem nF (C vb:CQ) (xs ys:List Int) (w:CP) (f:Bu w .i64 C xs) (g:Bu w .i64 vb ys):
  CZ CO 47 #[C,vb] w fun e w'=>e=.returned (.bool (decide (xs=ys)))/\au w w':=by
 obtain⟨pa,ca,U,W,S⟩:=f.form;obtain⟨pb,cb,V,X,T⟩:=g.form;subst U V;have E:=aa f;have F:=aa g;unfold Dc at S T;obtain⟨n,o⟩:=exq xs.length;obtain⟨m,hm⟩:=exq ys.length;rw[<-o]at⊢W;rw[<-hm]at⊢X;have c:=aa o;have b:=aa hm;clear f g o hm;by_cases B:n=m
 ·subst B;go_enter Tryz.func47,Tryz.ntmps47
  go_wp2_with fail
  go_loopw [13] (fun i wr=>∃k:Nat,k<=n/\i=.int .i64 k/\au w wr/\Hid (xs.take k=ys.take k)) (fun i _=>n - (intOf i).toNat);case atStart=>exact⟨0,C9 _,rfl,CT _ _,aa rfl⟩
  case round=>
   obtain⟨k,hk,rfl,u,t⟩:=hrel;have a:=aa u;clear u;by_cases A:k < n
   ·have j:k < xs.length:=by rw[<-c.out];exact A
    have l:k < ys.length:=by rw[<-b.out];exact A
    obtain⟨Y,o1,c1,N,_,_,_,_,v⟩:=Bu.pos (E.ext a) (by omega);obtain⟨Z,o2,c2,O,_,_,_,_,z⟩:=Bu.pos (F.ext a) (by omega);injection N with K L M;injection O with P Q R;subst K P;have I:=v k j;have J:=z k l;have r:=aa (aF 0 xs k j);have s:=aa (aF 0 ys k l);obtain⟨x,hx⟩:=exq (xs.getD k 0);obtain⟨y,hy⟩:=exq (ys.getD k 0);rw[<-hx]at I r;rw[<-hy]at J s;have G:=aa hx;have H:=aa hy;clear v z L M Q R hx hy j l;by_cases p:x=y
    ·subst p
     go_wp2_with fail
     go_quiet (fail)
     go_wp2_with fail
     go_roundw;case rel=>exact⟨k+1,by omega,by go_num,a.trans ((CT _ _).drewN _),aa (by rw[r.out,s.out,t.out])⟩
     case measure=>simp[intOf];omega
    ·have hq:(x==y)=false:=by rw[beq_eq_false_iff_ne];exact p
     have d:Hid (¬xs=ys):=aa fun q=>p (by rw[G.out,H.out,q])
     go_wp2_with fail
     go_quiet (fail)
     go_wp2_with fail
     go_ret;exact⟨by rw[decide_eq_false d.out];rfl,a.trans ((CT _ _).drewN _)⟩
   ·obtain rfl:k=n:=by omega
    have D:Hid (xs=ys):=aa (by
     have h:=t.out
     rwa[CX (by rw[<-c.out];exact CU _),CX (by rw[<-b.out];exact CU _)]at h)
    go_wp2_with fail
    go_ret;exact⟨by rw[decide_eq_true D.out];rfl,a⟩
 ·have d:Hid (¬xs=ys):=aa fun q=>B (by rw[c.out,b.out,q])
  have ag:((n:Int)==(m:Int))=false:=by rw[beq_eq_false_iff_ne];omega
  go_enter Tryz.func47,Tryz.ntmps47
  go_wp2_with fail
  go_ret;exact⟨by rw[decide_eq_false d.out];rfl,CT _ _⟩
theorem qM (Z vb:CQ) (xs ys:List (List Int)) (w:CP) (F:et w Z xs) (G:et w vb ys) (T:dd xs) (U:dd ys):
  CZ CO 149 #[Z,vb] w fun e w'=>e=.returned (.bool (decide (xs=ys)))/\au w w':=by
 obtain⟨pa,ca,aD,aF,aB⟩:=F.form;obtain⟨pb,cb,aE,aH,aC⟩:=G.form;subst aD aE;have HA:=aa F;have HB:=aa G;have t:=aa T;have v:=aa U;unfold Dc at aB aC;obtain⟨n,H⟩:=exq xs.length;obtain⟨m,hm⟩:=exq ys.length;rw[<-H]at⊢aF;rw[<-hm]at⊢aH;have A:=aa H;have z:=aa hm;clear F G T U H hm;by_cases W:n=m
 ·subst W;go_enter Tryz.func149,Tryz.ntmps149
  go_wp2_with fail
  go_loopw [13] (fun i wr=>∃k:Nat,k<=n/\i=.int .i64 k/\au w wr/\Hid (xs.take k=ys.take k)) (fun i _=>n - (intOf i).toNat);case atStart=>exact⟨0,C9 _,rfl,CT _ _,aa rfl⟩
  case round=>
   obtain⟨k,hk,rfl,S,R⟩:=hrel;have g:=aa S;clear S;by_cases V:k < n
   ·have p:k < xs.length:=by rw[<-A.out];exact V
    have r:k < ys.length:=by rw[<-z.out];exact V
    obtain⟨b1,o1,c1,I,ao,ap,al,X⟩:=et.pos (aX.ext HA g) t (by omega);obtain⟨b2,o2,c2,J,aw,ax,am,Y⟩:=et.pos (aX.ext HB g) v (by omega);injection I with I aq av;injection J with J az aA;clear aq av az aA;subst I J;have K:=dI X t (i:=k) p;have L:=dI Y v (i:=k) r;obtain⟨l,_⟩:=t.get (i:=k) p;obtain⟨o,_⟩:=v.get (i:=k) r;have P:=aa (jf xs k p);have Q:=aa (jf ys k r);obtain⟨x,hx⟩:=exq (xs.getD k []);obtain⟨y,hy⟩:=exq (ys.getD k []);rw[<-hx]at K l P;rw[<-hy]at L o Q;have N:Hid (∀c,au wr c->(EX 54 (.pointer (some ⟨b1,o1+k*32,none⟩))).run CO c=.ok (.agg (aj .u8 x).toArray) c):=aa fun c h2=>aZ (aL K h2) DF (by kernel_rfl) l
    have O:Hid (∀c,au wr c->(EX 54 (.pointer (some ⟨b2,o2+k*32,none⟩))).run CO c=.ok (.agg (aj .u8 y).toArray) c):=aa fun c h2=>aZ (aL L h2) DF (by kernel_rfl) o
    have Hx:=aa hx;have Hy:=aa hy;have j:Hid (∀w,(Op.equalIn 10000 54 (.agg (aj .u8 x).toArray) (.agg (aj .u8 y).toArray)).run CO w=.ok (decide (x=y)) w):=aa fun w=>tJ DF Ex (fun w=>by simp[go_sem]) x y l o w
    clear K L l o X Y al am hx hy p r ao ap aw ax;have aQ:(0:Int)<=(k:Int):=by omega
    have aR:(k:Int) < (n:Int):=by omega
    by_cases f:x=y
    ·have heq:=j.out;rw[decide_eq_true f]at heq;have af:=aa f;clear f j
     go_wp2_with fail
     apply aG 8 [16,17,18,19,20,21,22,23] [ar _,ar _,ar _,ar _,ar _,ar _,ar _,ar _] (by kernel_rfl) (by kernel_rfl) (by kernel_rfl) (by kernel_rfl);case hsteps=>
      refine⟨?_,?_,?_,?_,?_,?_,?_,?_,trivial⟩;all_goals
       intro ev M a b d;have C:=b 0 (by decide);have D:=b 1 (by decide);have E:=b 5 (by decide);clear b;simp only[sB]at C D E;simp only[sD]at d;have hc:=(ay a).1;simp only[dw,C8,if_true];first
       | ((with_reducible refine bX ?_ (N.out _ a) ?_);exact d;exact rfl) | ((with_reducible refine bX ?_ (O.out _ a) ?_);exact d;exact rfl)
       | (go_simp;first | exact⟨CT _ _,rfl⟩ | exact⟨CT _ _,rfl⟩)
     case hmono=>exact mL
     case hend=>
      intro u M a hend;simp only[sE]at hend;simp only[sF,hend];have s:=aa (g.trans a);clear a hend
      go_wp2_with fail
      go_roundw;case rel=>exact⟨k+1,by omega,by go_num,s,aa (by rw[P.out,Q.out,R.out,af.out])⟩
      case measure=>simp[intOf];omega
    ·have heq:=j.out;rw[decide_eq_false f]at heq;have B:Hid (¬xs=ys):=aa fun q=>f (by rw[Hx.out,Hy.out,q])
     clear f j
     go_wp2_with fail
     apply aG 8 [16,17,18,19,20,21,22,23] [ar _,ar _,ar _,ar _,ar _,ar _,ar _,ar _] (by kernel_rfl) (by kernel_rfl) (by kernel_rfl) (by kernel_rfl);case hsteps=>
      refine⟨?_,?_,?_,?_,?_,?_,?_,?_,trivial⟩;all_goals
       intro ev M a b d;have C:=b 0 (by decide);have D:=b 1 (by decide);have E:=b 5 (by decide);clear b;simp only[sB]at C D E;simp only[sD]at d;have hc:=(ay a).1;simp only[dw,C8,if_true];first
       | ((with_reducible refine bX ?_ (N.out _ a) ?_);exact d;exact rfl) | ((with_reducible refine bX ?_ (O.out _ a) ?_);exact d;exact rfl)
       | (go_simp;first | exact⟨CT _ _,rfl⟩ | exact⟨CT _ _,rfl⟩)
     case hmono=>exact mL
     case hend=>
      intro u M a hend;simp only[sE]at hend;simp only[sF,hend];have s:=aa (g.trans a);clear a hend
      go_wp2_with fail
      go_ret;exact⟨by rw[decide_eq_false B.out];rfl,s⟩
   ·obtain rfl:k=n:=by omega
    have ad:Hid (xs=ys):=aa (by
     have h:=R.out
     rwa[CX (by rw[<-A.out];exact CU _),CX (by rw[<-z.out];exact CU _)]at h)
    go_wp2_with fail
    go_ret;exact⟨by rw[decide_eq_true ad.out];rfl,g⟩
 ·have B:Hid (¬xs=ys):=aa fun q=>W (by rw[A.out,z.out,q])
  have aS:((n:Int)==(m:Int))=false:=by rw[beq_eq_false_iff_ne];omega
  go_enter Tryz.func149,Tryz.ntmps149
  go_wp2_with fail
  go_ret;exact⟨by rw[decide_eq_false B.out];rfl,CT _ _⟩
theorem qN (x y:Sv) (w:CP) (hx:rU w x) (hy:rU w y):
  CZ CO 124 #[.agg (cS x).toArray,.agg (cS y).toArray] w fun e w'=>e=.returned (.bool (decide (cC x=cC y)))/\au w w':=by
 obtain⟨a,⟨v1,d⟩,c,d1⟩:=x;obtain⟨i,⟨v2,f⟩,g,d2⟩:=y;obtain⟨u,n,s,p⟩:=hx;obtain⟨v,o,t,r⟩:=hy;have HEq:Hid (∀b,au w b->CZ CO 51 #[v1,v2] b fun e w'=>e=.returned (.bool (decide (d=f)))/\b=w'):=aa fun b h2=>ly v1 v2 d f b (u.ext h2) (v.ext h2) n o
 have z:Hid (∀b,au w b->CZ CO 149 #[c,g] b fun e w'=>e=.returned (.bool (decide (d1=d2)))/\au b w'):=aa fun b h2=>qM c g d1 d2 b (aX.ext s h2) (aX.ext t h2) p r
 have HD:Hid (decide (cC (a,(v1,d),c,d1)=cC (i,(v2,f),g,d2))=(decide (a=i)&&decide (d=f)&&decide (d1=d2))):=aa (by
  rw[F6];simp[cC,and_assoc])
 clear u n s p v o t r;have k:=aa ((ae w (.cells #[.int .i64 a,v1,c] 57)).trans (ae (w.alloc (.cells #[.int .i64 a,v1,c] 57)) (.cells #[.int .i64 i,v2,g] 57)));show CZ CO 124 #[.agg #[.int .i64 a,v1,c],.agg #[.int .i64 i,v2,g]] w _;go_enter Tryz.func124,Tryz.ntmps124;by_cases h1:a=i
 ·subst h1
  go_wp2_with fail
  refine(HEq _ k).mono ?_;rintro e B ⟨rfl,A⟩;subst A;by_cases h2:d=f
  ·have h:=decide_eq_true h2;rw[h];have j:Hid (decide (cC (a,(v1,d),c,d1)=cC (a,(v2,f),g,d2))=decide (d1=d2)):=aa (by rw[HD.out,h];simp);clear h2 h
   go_wp2_with fail
   refine(z _ k).mono ?_;rintro e B ⟨rfl,m⟩;have l:=aa (k.trans m);clear m;generalize decide (d1=d2)=q at*;cases q
   ·go_wp2_with fail
    go_ret;exact⟨by rw[j.out];rfl,l⟩
   ·go_wp2_with fail
    go_ret;exact⟨by rw[j.out];rfl,l⟩
  ·have h:=decide_eq_false h2;rw[h];have j:Hid (decide (cC (a,(v1,d),c,d1)=cC (a,(v2,f),g,d2))=false):=aa (by rw[HD.out,h];simp);clear h2 h
   go_wp2_with fail
   go_ret;exact⟨by rw[j.out];rfl,k⟩
 ·have C:(a==i)=false:=by rw[beq_eq_false_iff_ne];exact h1
  have j:Hid (decide (cC (a,(v1,d),c,d1)=cC (i,(v2,f),g,d2))=false):=aa (by rw[HD.out,decide_eq_false h1];rfl)
  go_wp2_with fail
  go_ret;exact⟨by rw[j.out];rfl,k⟩
theorem vl (va vb:CQ) (L M:List Sv) (w:CP) (v:ng w va L) (z:ng w vb M):
  CZ CO 123 #[va,vb,.func (.func 124) #[] #[]] w fun e w'=>e=.returned (.bool (decide (L.map cC=M.map cC)))/\au w w':=by
 obtain⟨pa,ca,aP,aR,aN⟩:=v.rd.form;obtain⟨pb,cb,aQ,aS,aO⟩:=z.rd.form;subst aP aQ;have F:=aa v;have G:=aa z;unfold Dc at aN aO;obtain⟨n,B⟩:=exq L.length;obtain⟨m,hm⟩:=exq M.length;rw[<-B]at⊢aR;rw[<-hm]at⊢aS;have u:=aa B;have t:=aa hm;clear v z B hm;by_cases ah:n=m
 ·subst ah;go_enter Tryz.func123,Tryz.ntmps123
  go_wp2_with fail
  go_loopw [17] (fun i wr=>∃k:Nat,k<=n/\i=.int .i64 k/\au w wr/\Hid ((L.map cC).take k=(M.map cC).take k)) (fun i _=>n - (intOf i).toNat);case atStart=>exact⟨0,C9 _,rfl,CT _ _,aa rfl⟩
  case round=>
   obtain⟨k,hk,rfl,W,T⟩:=hrel;have a:=aa W;clear W;by_cases ag:k < n
   ·have o:k < L.length:=by rw[<-u.out];exact ag
    have p:k < M.length:=by rw[<-t.out];exact ag
    obtain⟨b1,o1,c1,aE,_,_,_,ae⟩:=(F.ext a).pos (by omega);obtain⟨b2,o2,c2,aG,_,_,_,af⟩:=(G.ext a).pos (by omega);injection aE with aA aB aD;injection aG with aI aK aM;subst aA aI;have D:=ae k o;have E:=af k p;have r:=(F.ext a).ok _ (aJ s0 o);have C:=(G.ext a).ok _ (aJ s0 p);have R:Hid ((L.map cC).take (k+1)=(L.map cC).take k++[cC (L.getD k s0)]):=aa (by rw[<-dq];exact aF h0 (L.map cC) k (by simpa using o));have S:Hid ((M.map cC).take (k+1)=(M.map cC).take k++[cC (M.getD k s0)]):=aa (by rw[<-dq];exact aF h0 (M.map cC) k (by simpa using p));have d:Hid (¬cC (L.getD k s0)=cC (M.getD k s0)->¬L.map cC=M.map cC):=aa fun h q=>h (by rw[<-dq,<-dq,q])
    obtain⟨x,hx⟩:=exq (L.getD k s0);obtain⟨y,hy⟩:=exq (M.getD k s0);rw[<-hx]at D r R d;rw[<-hy]at E C S d;have J:=aa (DS (P:=CO) wr b1 (o1+k*3) 57 _ _ D Er rfl (by rw[bU];kernel_rfl));obtain⟨U,Y⟩:=aw.fresh (cs:=cS x) wr 57 eS rfl (kE x);have O:=aa (aH (P:=CO) (cs:=cS x) wr 57 eS rfl (gM r) (ty:=57) (by rw[bU];kernel_rfl));have g:=aa U;have j:=aa Y;have ap:=aa r;have N:=aa C;have aq:=aa E;clear ae af aB aD aK aM hx hy o p D E r C U Y;have a2:(0:Int)<=(k:Int):=by omega
    have a3:(k:Int) < (n:Int):=by omega
    go_wp2_with first | refine ao rfl J ?_ | (with_reducible refine aC (ty:=57) ?_)
    refine ax ?_;refine ak rfl rfl O ?_;obtain⟨b,Z⟩:=exq ((wr.alloc (.cells eS 57)).setCells wr.heap.size 0 (cS x));obtain⟨X8,ac⟩:=exq wr.heap.size;rw[<-Z]at g j⊢;rw[<-ac]at g⊢;clear Z ac O J;have K:=aa (DS (P:=CO) b b2 (o2+k*3) 57 _ _ (aL aq j) Er rfl (by rw[bU];kernel_rfl));obtain⟨V,A⟩:=aw.fresh (cs:=cS y) b 57 eS rfl (kE y);have Q:=aa (aH (P:=CO) (cs:=cS y) b 57 eS rfl (gM N) (ty:=57) (by rw[bU];kernel_rfl));have s:=aa V;have H:=aa (g.ext A);have l:=aa (j.trans A);clear V A
    go_wp2_with first | refine ao rfl K ?_ | (with_reducible refine aC (ty:=57) ?_)
    refine ax ?_;refine ak rfl rfl Q ?_;obtain⟨W9,ab⟩:=exq ((b.alloc (.cells eS 57)).setCells b.heap.size 0 (cS y));obtain⟨X9,ad⟩:=exq b.heap.size;rw[<-ab]at s H l⊢;rw[<-ad]at s⊢;clear ab ad Q K g j;have al:=aa (H.load (P:=CO) Er rfl (by rw[bU];kernel_rfl));have am:=aa (s.load (P:=CO) Er rfl (by rw[bU];kernel_rfl))
    go_wp2_with first | refine ao rfl al ?_ | refine ao rfl am ?_
    refine(qN x y W9 (ap.ext l) (N.ext l)).mono ?_;rintro e w1 ⟨rfl,X⟩;have I:=aa ((a.trans l).trans X);clear X;by_cases c:cC x=cC y
    ·have f:=decide_eq_true c;have ar:=aa c;rw[f];clear f c
     go_wp2_with fail
     go_roundw;case rel=>exact⟨k+1,by omega,by go_num,I,aa (by rw[R.out,S.out,T.out,ar.out])⟩
     case measure=>simp[intOf];omega
    ·have f:=decide_eq_false c;have an:=aa (d c);rw[f];clear f c
     go_wp2_with fail
     go_ret;exact⟨by rw[decide_eq_false an.out];rfl,I⟩
   ·obtain rfl:k=n:=by omega
    have aj:Hid (L.map cC=M.map cC):=aa (by
     have h:=T.out
     rwa[CX (by rw[CY,<-u.out];exact CU _),CX (by rw[CY,<-t.out];exact CU _)]at h)
    go_wp2_with fail
    go_ret;exact⟨by rw[decide_eq_true aj.out];rfl,a⟩
 ·have d:Hid (¬L.map cC=M.map cC):=aa fun q=>ah (by have:=congrArg List.length q;rw[CY,CY]at this;rw[u.out,t.out,this])
  have a4:((n:Int)==(m:Int))=false:=by rw[beq_eq_false_iff_ne];omega
  go_enter Tryz.func123,Tryz.ntmps123
  go_wp2_with fail
  go_ret;exact⟨by rw[decide_eq_false d.out];rfl,CT _ _⟩
theorem oN (M vb:CQ) (xs ys:List (List Int)) (w:CP) (W:aU w M xs) (X:aU w vb ys) (E:∀p∈xs,bI p) (F:∀p∈ys,bI p):
  CZ CO 74 #[M,vb,.func (.func 51) #[] #[]] w fun e w'=>e=.returned (.bool (decide (xs=ys)))/\au w w':=by
 obtain⟨wa,u,I,K⟩:=W;obtain⟨wb,v,J,L⟩:=X;obtain⟨pa,ca,af,ah,ad⟩:=u.form;obtain⟨pb,cb,ag,ai,ae⟩:=v.form;subst af ag;have C:=aa u;have D:=aa v;have T:=aa K;have U:=aa L;have R:=aa I;have S:=aa J;have N:=aa E;have O:=aa F;unfold Dc at ad ae;obtain⟨n,t⟩:=exq xs.length;obtain⟨m,hm⟩:=exq ys.length;rw[<-t]at C⊢ah;rw[<-hm]at D⊢ai;have j:=aa t;have g:=aa hm;clear u v K L I J E F t hm;by_cases H:n=m
 ·subst H;go_enter Tryz.func74,Tryz.ntmps74
  go_wp2_with fail
  go_loopw [17] (fun i wr=>∃k:Nat,k<=n/\i=.int .i64 k/\wr=w/\Hid (xs.take k=ys.take k)) (fun i _=>n - (intOf i).toNat);case atStart=>exact⟨0,C9 _,rfl,rfl,aa rfl⟩
  case round=>
   obtain⟨k,hk,rfl,ak,B⟩:=hrel;subst ak;by_cases G:k < n
   ·have d:k < xs.length:=by rw[<-j.out];exact G
    have f:k < ys.length:=by rw[<-g.out];exact G
    obtain⟨b1,o1,ab,Y,ar⟩:=aU.BK (ps:=xs) (n:=n) (by have:=C.out;rw[j.out]at this⊢;exact this) R k d;obtain⟨b2,o2,ac,Z,av⟩:=aU.BK (ps:=ys) (n:=n) (by have:=D.out;rw[g.out]at this⊢;exact this) S k f;subst ab ac;have l:=T k d;have o:=U k f;have r:bI (xs.getD k []):=N _ (aJ [] d);have s:bI (ys.getD k []):=O _ (aJ [] f);have z:=aa (aF [] xs k d);have A:=aa (aF [] ys k f);have b:Hid (¬xs.getD k []=ys.getD k []->¬xs=ys):=aa fun h q=>h (by rw[q])
    obtain⟨x,hx⟩:=exq (xs.getD k []);obtain⟨y,hy⟩:=exq (ys.getD k []);rw[<-hx]at l r z b;rw[<-hy]at o s A b;generalize wa.getD k undef=u1 at*;generalize wb.getD k undef=u2 at*;have HEq:=aa (ly u1 u2 x y wr l o r s);clear l o Y Z hx hy d f r s
    go_wp2_with fail
    refine HEq.mono ?_;rintro e w1 ⟨rfl,aj⟩;subst aj;by_cases a:x=y
    ·have c:=decide_eq_true a;have V:=aa a;rw[c];clear c a
     go_wp2_with fail
     go_roundw;case rel=>exact⟨k+1,by omega,by go_num,trivial,aa (by rw[z.out,A.out,B.out,V.out])⟩
     case measure=>simp[intOf];omega
    ·have c:=decide_eq_false a;have Q:=aa (b a);rw[c];clear c a
     go_wp2_with fail
     go_ret;exact⟨by rw[decide_eq_false Q.out];rfl,CT _ _⟩
   ·obtain rfl:k=n:=by omega
    have P:Hid (xs=ys):=aa (by
     have h:=B.out
     rwa[CX (by rw[<-j.out];exact CU _),CX (by rw[<-g.out];exact CU _)]at h)
    go_wp2_with fail
    go_ret;exact⟨by rw[decide_eq_true P.out];rfl,CT _ _⟩
 ·have b:Hid (¬xs=ys):=aa fun q=>H (by rw[j.out,g.out,q])
  have ax:((n:Int)==(m:Int))=false:=by rw[beq_eq_false_iff_ne];omega
  go_enter Tryz.func74,Tryz.ntmps74
  go_wp2_with fail
  go_ret;exact⟨by rw[decide_eq_false b.out];rfl,CT _ _⟩
theorem sS (X vb:CQ) (a b:BC) (w:CP) (Y:eg w X a) (Z:eg w vb b):
  CZ CO 71 #[X,vb] w fun e w'=>e=.returned (.bool (cQ a b))/\au w w':=by
 obtain⟨ac,pa,q,n,L,rfl,o⟩:=Y;obtain⟨ad,t,u,r,M,rfl,p⟩:=Z;obtain rfl:=o.eq;obtain rfl:=p.eq;have U:Hid (∀c,au w c->CZ CO 122 #[pa,t] c fun e w'=>e=.returned (.bool (decide (a.places=b.places)))/\au c w'):=aa fun c h2=>qL pa t _ _ c (o.pl.ext h2) (p.pl.ext h2)
 have V:Hid (∀c,au w c->CZ CO 123 #[q,u,.func (.func 124) #[] #[]] c fun e w'=>e=.returned (.bool (decide (a.shown=b.shown)))/\au c w'):=aa fun c h2=>by rw[<-o.sl,<-p.sl];exact vl q u L M c (o.sh.ext h2) (p.sh.ext h2)
 have O:Hid (∀c,au w c->CZ CO 74 #[n,r,.func (.func 51) #[] #[]] c fun e w'=>e=.returned (.bool (decide (a.blocks=b.blocks)))/\au c w'):=aa fun c h2=>oN n r _ _ c (o.bl.ext h2) (p.bl.ext h2) o.BJ p.BJ
 have HD:Hid (cQ a b=(decide (a.BN=b.BN)&&decide (a.places=b.places)&&decide (a.shown=b.shown)&&decide (a.blocks=b.blocks))):=aa (by
  rw[F6];simp[cQ,BC.BO,and_assoc])
 clear o p;obtain⟨g,i1,f,D,E,f1,d,A,d1⟩:=a;obtain⟨m,i2,l,x,y,f2,j,v,d2⟩:=b;have heq:∀w,(Op.equalIn 10000 177 (.agg #[.int .i64 g,.int .i64 i1,.int .i64 f,.int .i64 f1,.int .i64 d,.int .i64 d1]) (.agg #[.int .i64 m,.int .i64 i2,.int .i64 l,.int .i64 f2,.int .i64 j,.int .i64 d2])).run CO w=.ok (decide (BC.BN ⟨g,i1,f,D,E,f1,d,A,d1⟩=BC.BN ⟨m,i2,l,x,y,f2,j,v,d2⟩)) w:=fun w=>tJ (k:=.i64) Tryz.underlying177 DP (fun w=>by simp[go_sem]) [g,i1,f,f1,d,d1] [m,i2,l,f2,j,d2] rfl rfl w
 obtain⟨z,s⟩:=exq ((w.alloc (.cells #[.int .i64 g,.int .i64 i1,.int .i64 f,pa,q,.int .i64 f1,.int .i64 d,n,.int .i64 d1] 26)).alloc (.cells #[.int .i64 m,.int .i64 i2,.int .i64 l,t,u,.int .i64 f2,.int .i64 j,r,.int .i64 d2] 26));have H:Hid (au w z):=aa (by rw[s];exact(ae _ _).trans (ae _ _));have P:Hid (aw z w.heap.size (cL ⟨g,i1,f,D,E,f1,d,A,d1⟩ pa q n)):=aa (by rw[s];exact(aw.box w 26 (bR _ _ _ _)).ext (ae _ _))
 have R:Hid (aw z (w.heap.size+1) (cL ⟨m,i2,l,x,y,f2,j,v,d2⟩ t u r)):=aa (by
  rw[s];have h:=aw.box (w.alloc (.cells #[.int .i64 g,.int .i64 i1,.int .i64 f,pa,q,.int .i64 f1,.int .i64 d,n,.int .i64 d1] 26)) 26 (bR ⟨m,i2,l,x,y,f2,j,v,d2⟩ t u r);rw[show(w.alloc (.cells #[.int .i64 g,.int .i64 i1,.int .i64 f,pa,q,.int .i64 f1,.int .i64 d,n,.int .i64 d1] 26)).heap.size=w.heap.size+1 from by simp]at h
  exact h)
 generalize decide (BC.BN ⟨g,i1,f,D,E,f1,d,A,d1⟩=BC.BN ⟨m,i2,l,x,y,f2,j,v,d2⟩)=q1 at*;simp only at U V O HD;generalize decide (D=x)=q2 at*;generalize decide (E=y)=q3 at*;generalize decide (A=v)=q4 at*;show CZ CO 71 #[.agg #[.int .i64 g,.int .i64 i1,.int .i64 f,pa,q,.int .i64 f1,.int .i64 d,n,.int .i64 d1],.agg #[.int .i64 m,.int .i64 i2,.int .i64 l,t,u,.int .i64 f2,.int .i64 j,r,.int .i64 d2]] w _;go_enter Tryz.func71,Tryz.ntmps71;cases q1
 ·go_wp2_with fail
  go_ret;refine⟨by rw[HD.out];rfl,?_⟩;rw[<-s];exact H
 go_wp2_with fail
 rw[<-s];clear s;refine(U z H).mono ?_;rintro e w1 ⟨rfl,B⟩;have I:=aa (H.trans B);have F:=aa (P.ext B);have G:=aa (R.ext B);clear B P R;cases q2
 ·go_wp2_with fail
  go_ret;exact⟨by rw[HD.out];rfl,I⟩
 have K:=F.cell (i:=4) rfl;have N:=G.cell (i:=4) rfl
 go_wp2_with fail
 refine(V w1 I).mono ?_;rintro e c ⟨rfl,C⟩;have J:=aa (I.trans C);have Q:=aa (F.ext C);have S:=aa (G.ext C);clear C F G K N;cases q3
 ·go_wp2_with fail
  go_ret;exact⟨by rw[HD.out];rfl,J⟩
 have K:=Q.cell (i:=7) rfl;have N:=S.cell (i:=7) rfl
 go_wp2_with fail
 refine(O c J).mono ?_;rintro e w3 ⟨rfl,W⟩;have T:=aa (J.trans W);clear W K N Q S;cases q4
 ·go_wp2_with fail
  go_ret;exact⟨by rw[HD.out];rfl,T⟩
 ·go_wp2_with fail
  go_ret;exact⟨by rw[HD.out];rfl,T⟩
theorem oO (va vb:CQ) (a b:BC) (w:CP) (hA:eg w va a) (hB:eg w vb b):
  CZ CO 15 #[va,vb] w fun e w'=>e=.returned (.bool (cQ a b))/\au w w':=by
 obtain⟨dm,pa,sa,Z,L,rfl,U⟩:=hA;obtain⟨dn,pb,sb,bb,M,rfl,o⟩:=hB;obtain rfl:=U.eq;obtain rfl:=o.eq;have HI:Hid (∀l,au w l->CZ CO 47 #[pa,pb] l fun e w'=>e=.returned (.bool (decide (a.places=b.places)))/\au l w'):=aa fun l h2=>nF pa pb _ _ l (U.pl.ext h2) (o.pl.ext h2)
 have HB:Hid (∀l,au w l->CZ CO 31 #[Z,bb] l fun e w'=>e=.returned (.bool (decide (a.blocks=b.blocks)))/\au l w'):=aa fun l h2=>fT Z bb _ _ l (U.bl.ext h2) (o.bl.ext h2) U.BJ o.BJ
 have HD:Hid (cQ a b=(decide (a.BN=b.BN)&&decide (a.places=b.places)&&decide (a.shown=b.shown)&&decide (a.blocks=b.blocks))):=aa (by
  rw[F6];simp[cQ,BC.BO,and_assoc])
 have b0:=aa U.sh;have b1:=aa o.sh;have aI:=aa U.sl;have aK:=aa o.sl;obtain⟨sp,sc,z,cV,cR⟩:=U.sh.rd.form;obtain⟨tp,tc,A,cW,cT⟩:=o.sh.rd.form;subst z A;unfold Dc at cR cT;obtain⟨D,bB⟩:=exq L.length;obtain⟨n2,bC⟩:=exq M.length;have bg:=aa bB;have bh:=aa bC;rw[<-bB]at b0 cV⊢;rw[<-bC]at b1 cW⊢;clear U o bB bC;obtain⟨d,i1,g,B,n,f1,j,v,d1⟩:=a;obtain⟨k2,i2,N,t,m,f2,E,r,d2⟩:=b;simp only at HI HB aI aK;obtain⟨W0,C⟩:=exq ((w.alloc (.cells #[.int .i64 d,.int .i64 i1,.int .i64 g,pa,.slice sp D sc,.int .i64 f1,.int .i64 j,Z,.int .i64 d1] 43)).alloc (.cells #[.int .i64 k2,.int .i64 i2,.int .i64 N,pb,.slice tp n2 tc,.int .i64 f2,.int .i64 E,bb,.int .i64 d2] 43));have H:Hid (au w W0):=aa (by rw[C];exact(ae _ _).trans (ae _ _));have bT:Hid (aw W0 w.heap.size (cL ⟨d,i1,g,B,n,f1,j,v,d1⟩ pa (.slice sp D sc) Z)):=aa (by rw[C];exact(aw.box w 43 (bR _ _ _ _)).ext (ae _ _))
 have a9:Hid (aw W0 (w.heap.size+1) (cL ⟨k2,i2,N,t,m,f2,E,r,d2⟩ pb (.slice tp n2 tc) bb)):=aa (by
  rw[C];have h:=aw.box (w.alloc (.cells #[.int .i64 d,.int .i64 i1,.int .i64 g,pa,.slice sp D sc,.int .i64 f1,.int .i64 j,Z,.int .i64 d1] 43)) 43 (bR ⟨k2,i2,N,t,m,f2,E,r,d2⟩ pb (.slice tp n2 tc) bb);rw[show(w.alloc (.cells #[.int .i64 d,.int .i64 i1,.int .i64 g,pa,.slice sp D sc,.int .i64 f1,.int .i64 j,Z,.int .i64 d1] 43)).heap.size=w.heap.size+1 from by simp]at h
  exact h)
 show CZ CO 15 #[.agg #[.int .i64 d,.int .i64 i1,.int .i64 g,pa,.slice sp D sc,.int .i64 f1,.int .i64 j,Z,.int .i64 d1],.agg #[.int .i64 k2,.int .i64 i2,.int .i64 N,pb,.slice tp n2 tc,.int .i64 f2,.int .i64 E,bb,.int .i64 d2]] w _;go_enter Tryz.func15,Tryz.ntmps15;by_cases c:d=k2
 rotate_left
 ·have an:(d==k2)=false:=by rw[beq_eq_false_iff_ne];exact c
  have HV:Hid (cQ ⟨d,i1,g,B,n,f1,j,v,d1⟩ ⟨k2,i2,N,t,m,f2,E,r,d2⟩=false):=aa (by
   unfold cQ;rw[decide_eq_false];intro q;injection q with q1 O q3 q4 Q q6 q7 q8 q9;exact c (by assumption))
  go_wp2_with fail
  go_ret;refine⟨by rw[HV.out];rfl,?_⟩;rw[<-C];exact H
 subst c;by_cases c:i1=i2
 rotate_left
 ·have an:(i1==i2)=false:=by rw[beq_eq_false_iff_ne];exact c
  have HV:Hid (cQ ⟨d,i1,g,B,n,f1,j,v,d1⟩ ⟨d,i2,N,t,m,f2,E,r,d2⟩=false):=aa (by
   unfold cQ;rw[decide_eq_false];intro q;injection q with q1 O q3 q4 Q q6 q7 q8 q9;exact c (by assumption))
  go_wp2_with fail
  go_ret;refine⟨by rw[HV.out];rfl,?_⟩;rw[<-C];exact H
 subst c;by_cases c:g=N
 rotate_left
 ·have an:(g==N)=false:=by rw[beq_eq_false_iff_ne];exact c
  have HV:Hid (cQ ⟨d,i1,g,B,n,f1,j,v,d1⟩ ⟨d,i1,N,t,m,f2,E,r,d2⟩=false):=aa (by
   unfold cQ;rw[decide_eq_false];intro q;injection q with q1 O q3 q4 Q q6 q7 q8 q9;exact c (by assumption))
  go_wp2_with fail
  go_ret;refine⟨by rw[HV.out];rfl,?_⟩;rw[<-C];exact H
 subst c;by_cases c:f1=f2
 rotate_left
 ·have an:(f1==f2)=false:=by rw[beq_eq_false_iff_ne];exact c
  have HV:Hid (cQ ⟨d,i1,g,B,n,f1,j,v,d1⟩ ⟨d,i1,g,t,m,f2,E,r,d2⟩=false):=aa (by
   unfold cQ;rw[decide_eq_false];intro q;injection q with q1 O q3 q4 Q q6 q7 q8 q9;exact c (by assumption))
  go_wp2_with fail
  go_ret;refine⟨by rw[HV.out];rfl,?_⟩;rw[<-C];exact H
 subst c;by_cases c:j=E
 rotate_left
 ·have an:(j==E)=false:=by rw[beq_eq_false_iff_ne];exact c
  have HV:Hid (cQ ⟨d,i1,g,B,n,f1,j,v,d1⟩ ⟨d,i1,g,t,m,f1,E,r,d2⟩=false):=aa (by
   unfold cQ;rw[decide_eq_false];intro q;injection q with q1 O q3 q4 Q q6 q7 q8 q9;exact c (by assumption))
  go_wp2_with fail
  go_ret;refine⟨by rw[HV.out];rfl,?_⟩;rw[<-C];exact H
 subst c;by_cases c:d1=d2
 rotate_left
 ·have an:(d1==d2)=false:=by rw[beq_eq_false_iff_ne];exact c
  have HV:Hid (cQ ⟨d,i1,g,B,n,f1,j,v,d1⟩ ⟨d,i1,g,t,m,f1,j,r,d2⟩=false):=aa (by
   unfold cQ;rw[decide_eq_false];intro q;injection q with q1 O q3 q4 Q q6 q7 q8 q9;exact c (by assumption))
  go_wp2_with fail
  go_ret;refine⟨by rw[HV.out];rfl,?_⟩;rw[<-C];exact H
 subst c;by_cases c:D=n2
 rotate_left
 ·have an:((D:Int)==(n2:Int))=false:=by rw[beq_eq_false_iff_ne];omega
  have HV:Hid (cQ ⟨d,i1,g,B,n,f1,j,v,d1⟩ ⟨d,i1,g,t,m,f1,j,r,d1⟩=false):=aa (by
   unfold cQ;rw[decide_eq_false];intro q;injection q with q1 O q3 q4 Q;refine c ?_
   rw[bg.out,bh.out,<-CY (f:=cC),<-CY (f:=cC),aI.out,aK.out,Q])
  go_wp2_with fail
  go_ret;refine⟨by rw[HV.out];rfl,?_⟩;rw[<-C];exact H
 subst c
 go_wp2_with fail
 rw[<-C];clear C;have HV:Hid (¬n=m->cQ ⟨d,i1,g,B,n,f1,j,v,d1⟩ ⟨d,i1,g,t,m,f1,j,r,d1⟩=false):=aa fun h=>by unfold cQ;rw[decide_eq_false];intro q;injection q with q1 O q3 q4 Q;exact h Q
 go_loopw [61] (fun x wr=>∃i:Nat,i<=D/\x=.int .i64 i/\Hid (n.take i=m.take i)/\au W0 wr) (fun x _=>D - (intOf x).toNat);case atStart=>exact⟨0,C9 _,rfl,aa rfl,CT _ _⟩
 case round=>
  obtain⟨i,hi,rfl,bm,hE⟩:=hrel;have R:=aa hE;clear hE;by_cases bx:i < D
  ·have a4:i < L.length:=by rw[<-bg.out];exact bx
   have a5:i < M.length:=by rw[<-bh.out];exact bx
   have I:=aa (H.trans R);have bu:=b0.ext I;have bv:=b1.ext I;obtain⟨g1,o1,dk,c4,_,_,_,cm⟩:=bu.pos (by omega);obtain⟨g2,o2,dl,c5,_,_,_,cn⟩:=bv.pos (by omega);injection c4 with cX cY cZ;injection c5 with c6 cp c7;subst cX c6;have J:=cm i a4;have K:=cn i a5;have ab:=bu.ok _ (aJ s0 a4);have ap:=bv.ok _ (aJ s0 a5);have aq:cC (L.getD i s0)=n.getD i h0:=by rw[<-dq,aI.out]
   have av:cC (M.getD i s0)=m.getD i h0:=by rw[<-dq,aK.out]
   have bj:Hid (n.take (i+1)=n.take i++[cC (L.getD i s0)]):=aa (by rw[aq];exact aF h0 n i (by rw[<-aI.out,CY];exact a4));have bk:Hid (m.take (i+1)=m.take i++[cC (M.getD i s0)]):=aa (by rw[av];exact aF h0 m i (by rw[<-aK.out,CY];exact a5));have S:Hid (¬cC (L.getD i s0)=cC (M.getD i s0)->cQ ⟨d,i1,g,B,n,f1,j,v,d1⟩ ⟨d,i1,g,t,m,f1,j,r,d1⟩=false):=aa fun h=>HV fun q=>h (by rw[aq,av,q])
   clear aq av;obtain⟨x,hx⟩:=exq (L.getD i s0);obtain⟨y,hy⟩:=exq (M.getD i s0);rw[<-hx]at J ab bj S;rw[<-hy]at K ap bk S;clear hx hy;obtain⟨z1,⟨v1,G⟩,u1,z⟩:=x;obtain⟨z2,⟨v2,V⟩,u2,A⟩:=y;have Y:=aa ab;have T:=aa ap;obtain⟨bN,bL,cx,_,_⟩:=ab.st.form;obtain⟨bO,bM,cy,_,_⟩:=ap.st.form;obtain⟨bK,bI,ct,cv,c8⟩:=ab.pa.form;unfold Dc at c8;obtain⟨up2,bJ,cu,cw,_⟩:=ap.pa.form;simp only at cx cy ct cu cv cw;subst cx cy ct cu;obtain⟨m1,bz⟩:=exq z.length;obtain⟨m2,bA⟩:=exq A.length;have be:=aa bz;have bf:=aa bA;rw[<-bz]at Y ab J cv bj S;rw[<-bA]at T ap K cw bk S;have b5:=aa (DS (P:=CO) wr g1 (o1+i*3) 100 _ _ J E5 rfl (by rw[bU];kernel_rfl));obtain⟨ca,ce⟩:=aw.fresh (cs:=cS (z1,(.slice bN G.length bL,G),.slice bK m1 bI,z)) wr 100 eS rfl (kE _);have b8:=aa (aH (P:=CO) (cs:=cS (z1,(.slice bN G.length bL,G),.slice bK m1 bI,z)) wr 100 eS rfl (gM ab) (ty:=100) (by rw[bU];kernel_rfl));have aW:=aa ca;have aE:=aa ce;have b7:=aa K;have dp:(0:Int)<=(i:Int):=by omega
   have dr:(i:Int) < (D:Int):=by omega
   clear cm cn cY cZ cp c7 a4 a5 J K ab ap ca ce bu bv bz bA
   go_wp2_with first | refine ao rfl b5 ?_ | (with_reducible refine aC (ty:=100) ?_)
   refine ax ?_;refine ak rfl rfl b8 ?_;obtain⟨W6,cg⟩:=exq ((wr.alloc (.cells eS 100)).setCells wr.heap.size 0 (cS (z1,(.slice bN G.length bL,G),.slice bK m1 bI,z)));obtain⟨X6,ci⟩:=exq wr.heap.size;rw[<-cg]at aW aE⊢;rw[<-ci]at aW⊢;clear cg ci b8 b5;have b6:=aa (DS (P:=CO) W6 g2 (o2+i*3) 100 _ _ (aL b7 aE) E5 rfl (by rw[bU];kernel_rfl));obtain⟨cb,bt⟩:=aw.fresh (cs:=cS (z2,(.slice bO V.length bM,V),.slice up2 m2 bJ,A)) W6 100 eS rfl (kE _);have b9:=aa (aH (P:=CO) (cs:=cS (z2,(.slice bO V.length bM,V),.slice up2 m2 bJ,A)) W6 100 eS rfl (gM T) (ty:=100) (by rw[bU];kernel_rfl));have ai:=aa cb;have aD:=aa (aW.ext bt);have F:=aa (aE.trans bt);have cM:=(a9.ext (R.trans aE)).cell (i:=4) rfl;clear cb bt
   go_wp2_with first | refine ao rfl b6 ?_ | (with_reducible refine aC (ty:=100) ?_)
   refine ax ?_;refine ak rfl rfl b9 ?_;obtain⟨W7,ch⟩:=exq ((W6.alloc (.cells eS 100)).setCells W6.heap.size 0 (cS (z2,(.slice bO V.length bM,V),.slice up2 m2 bJ,A)));obtain⟨X7,cj⟩:=exq W6.heap.size;rw[<-ch]at ai aD F⊢;rw[<-cj]at ai⊢;clear ch cj b9 b6 aW aE cM b7;have db:=aD.cell (i:=0) rfl;have dc:=aD.cell (i:=1) rfl;have bG:=aD.cell (i:=2) rfl;have dd:=ai.cell (i:=0) rfl;have de:=ai.cell (i:=1) rfl;have bH:=ai.cell (i:=2) rfl;by_cases hz:z1=z2
   rotate_left
   ·have dx:(z1==z2)=false:=by rw[beq_eq_false_iff_ne];exact hz
    have X:=aa (S (fun q=>hz (congrArg Prod.fst q)))
    go_wp2_with fail
    go_ret;exact⟨by rw[X.out];rfl,(I.trans F)⟩
   subst hz;have ck:=dG (P:=CO) (Y.st.ext F) Ef Ex EY;have cl:=dG (P:=CO) (T.st.ext F) Ef Ex EY;simp only at ck cl;by_cases hl:G=V
   rotate_left
   ·have hq:=lj Y.bs T.bs;simp only at hq;rw[decide_eq_false hl]at hq;have cp:¬(fX G=fX V):=fun q=>by rw[q]at hq;simp at hq
    have X:=aa (S (fun q=>hl (congrArg (fun s:Sh=>s.2.1) q)))
    go_wp2_with fail
    go_ret;exact⟨by rw[X.out];rfl,(I.trans F)⟩
   subst hl;by_cases hm:m1=m2
   rotate_left
   ·have dv:((m1:Int)==(m2:Int))=false:=by rw[beq_eq_false_iff_ne];omega
    have X:=aa (S (fun q=>hm (by rw[be.out,bf.out];exact congrArg (fun s:Sh=>s.2.2.length) q)))
    go_wp2_with fail
    go_ret;exact⟨by rw[X.out];rfl,(I.trans F)⟩
   subst hm
   go_wp2_with fail
   clear ck cl db dc bG dd de bH;go_loopw [97] (fun y wr=>∃k:Nat,k<=m1/\y=.int .i64 k/\Hid (z.take k=A.take k)/\au W7 wr) (fun y _=>m1 - (intOf y).toNat);case atStart=>exact⟨0,C9 _,rfl,aa rfl,CT _ _⟩
   case round=>
    obtain⟨k,hk,rfl,b2,cf⟩:=hrel;have W:=aa cf;clear cf;by_cases co:k < m1
    ·have a2:k < z.length:=by rw[<-be.out];exact co
     have a3:k < A.length:=by rw[<-bf.out];exact co
     obtain⟨cI,p1,di,bD,_,_,_,cq⟩:=et.pos (aX.ext (aX.ext Y.pa F) W) Y.dg (by simp only;omega);obtain⟨cJ,p2,dj,bE,_,_,_,cr⟩:=et.pos (aX.ext (aX.ext T.pa F) W) T.dg (by simp only;omega);injection bD with bD c0 c1;injection bE with bE c2 c3;clear c0 c1 c2 c3;subst bD bE;have J:=dI cq Y.dg (i:=k) a2;have K:=dI cr T.dg (i:=k) a3;obtain⟨aM,_⟩:=Y.dg.get (i:=k) a2;obtain⟨aN,_⟩:=T.dg.get (i:=k) a3;have b3:=aa (aF [] z k a2);have b4:=aa (aF [] A k a3)
     have bi:Hid (¬z.getD k []=A.getD k []->cQ ⟨d,i1,g,B,n,f1,j,v,d1⟩ ⟨d,i1,g,t,m,f1,j,r,d1⟩=false):=aa fun h=>S fun q=>h (by
      have O:z=A:=congrArg (fun s:Sh=>s.2.2) q
      rw[O])
     simp only at J K aM aN;obtain⟨x1,aq⟩:=exq (z.getD k []);obtain⟨x2,av⟩:=exq (A.getD k []);rw[<-aq]at J aM b3 bi;rw[<-av]at K aN b4 bi;have bY:Hid (∀l,au wr l->(EX 52 (.pointer (some ⟨cI,p1+k*32,none⟩))).run CO l=.ok (.agg (aj .u8 x1).toArray) l):=aa fun l h2=>aZ (aL J h2) EA (by kernel_rfl) aM
     have bZ:Hid (∀l,au wr l->(EX 52 (.pointer (some ⟨cJ,p2+k*32,none⟩))).run CO l=.ok (.agg (aj .u8 x2).toArray) l):=aa fun l h2=>aZ (aL K h2) EA (by kernel_rfl) aN
     have Hq:Hid (∀w,(Op.equalIn 10000 52 (.agg (aj .u8 x1).toArray) (.agg (aj .u8 x2).toArray)).run CO w=.ok (decide (x1=x2)) w):=aa fun w=>tJ EA Ex (fun w=>by simp[go_sem]) x1 x2 aM aN w
     have bQ:=aa (aD.ext W);have bS:=aa (ai.ext W);clear J K aM aN cq cr aq av a2 a3;have dt:(0:Int)<=(k:Int):=by omega
     have du:(k:Int) < (m1:Int):=by omega
     by_cases az:x1=x2
     ·have heq:=Hq.out;rw[decide_eq_true az]at heq;have cG:=aa az;clear az Hq
      go_wp2_with fail
      apply aG 10 [100,101,102,103,104,105,106,107,108,109] [ar _,ar _,ar _,ar _,ar _,ar _,ar _,ar _,ar _,ar _] (by kernel_rfl) (by kernel_rfl) (by kernel_rfl) (by kernel_rfl);case hsteps=>
       refine⟨?_,?_,?_,?_,?_,?_,?_,?_,?_,?_,trivial⟩;all_goals
        intro ev w1 p o c;have e6:=o 6 (by decide);have e7:=o 7 (by decide);have e8:=o 8 (by decide);clear o;simp only[sB]at e6 e7 e8;simp only[sD]at c;have hc:=(ay p).1;have bG:=(bQ.ext p).cell (i:=2) rfl;have bH:=(bS.ext p).cell (i:=2) rfl;simp only[dw,C8,if_true];first
        | ((with_reducible refine bX ?_ (bY.out _ p) ?_);exact c;exact rfl) | ((with_reducible refine bX ?_ (bZ.out _ p) ?_);exact c;exact rfl)
        | (go_simp;first | exact⟨CT _ _,rfl⟩ | exact⟨CT _ _,rfl⟩)
      case hmono=>exact mL
      case hend=>
       intro u w1 p hend;simp only[sE]at hend;simp only[sF,hend];have bd:=aa (W.trans p);clear p hend
       go_wp2_with fail
       go_roundw;case rel=>exact⟨k+1,by omega,by go_num,aa (by rw[b3.out,b4.out,b2.out,cG.out]),bd⟩
       case measure=>simp[intOf];omega
     ·have heq:=Hq.out;rw[decide_eq_false az]at heq;have X:=aa (bi az);clear az Hq
      go_wp2_with fail
      apply aG 10 [100,101,102,103,104,105,106,107,108,109] [ar _,ar _,ar _,ar _,ar _,ar _,ar _,ar _,ar _,ar _] (by kernel_rfl) (by kernel_rfl) (by kernel_rfl) (by kernel_rfl);case hsteps=>
       refine⟨?_,?_,?_,?_,?_,?_,?_,?_,?_,?_,trivial⟩;all_goals
        intro ev w1 p o c;have e6:=o 6 (by decide);have e7:=o 7 (by decide);have e8:=o 8 (by decide);clear o;simp only[sB]at e6 e7 e8;simp only[sD]at c;have hc:=(ay p).1;have bG:=(bQ.ext p).cell (i:=2) rfl;have bH:=(bS.ext p).cell (i:=2) rfl;simp only[dw,C8,if_true];first
        | ((with_reducible refine bX ?_ (bY.out _ p) ?_);exact c;exact rfl) | ((with_reducible refine bX ?_ (bZ.out _ p) ?_);exact c;exact rfl)
        | (go_simp;first | exact⟨CT _ _,rfl⟩ | exact⟨CT _ _,rfl⟩)
      case hmono=>exact mL
      case hend=>
       intro u w1 p hend;simp only[sE]at hend;simp only[sF,hend];have bd:=aa ((I.trans (F.trans W)).trans p);clear p hend
       go_wp2_with fail
       go_ret;exact⟨by rw[X.out];rfl,bd⟩
    ·obtain rfl:k=m1:=by omega
     have cE:Hid (z=A):=aa (by
      have h:=b2.out
      rwa[CX (by rw[<-be.out];exact CU _),CX (by rw[<-bf.out];exact CU _)]at h)
     have cD:=aa (R.trans (F.trans W))
     go_wp2_with fail
     go_roundw;case rel=>exact⟨i+1,by omega,by go_num,aa (by rw[bj.out,bk.out,bm.out];show _++[(z1,G,z)]=_++[(z1,G,A)];rw[cE.out]),cD⟩
     case measure=>simp[intOf];omega
  ·obtain rfl:i=D:=by omega
   have cF:Hid (n=m):=aa (by
    have h:=bm.out
    rwa[CX (by rw[<-aI.out,CY,<-bg.out];exact CU _),CX (by rw[<-aK.out,CY,<-bh.out];exact CU _)]at h)
   have ba:Hid (cQ ⟨d,i1,g,B,n,f1,j,v,d1⟩ ⟨d,i1,g,t,m,f1,j,r,d1⟩=(decide (B=t)&&decide (v=r))):=aa (by rw[HD.out];simp[BC.BN,cF.out]);have I:=aa (H.trans R);have ga:=(bT.ext R).cell (i:=3) rfl;have gb:=(a9.ext R).cell (i:=3) rfl;clear HD HV bx hi bm;generalize decide (B=t)=y1 at*;generalize decide (v=r)=y2 at*
   go_wp2_with fail
   refine(HI wr I).mono ?_;rintro e w1 ⟨rfl,a1⟩;have bc:=aa (I.trans a1);have cA:=aa ((bT.ext R).ext a1);have cB:=aa ((a9.ext R).ext a1);clear a1 ga gb;cases y1
   ·go_wp2_with fail
    go_ret;exact⟨by rw[ba.out];rfl,bc⟩
   have ga:=cA.cell (i:=7) rfl;have gb:=cB.cell (i:=7) rfl
   go_wp2_with fail
   refine(HB w1 bc).mono ?_;rintro e l ⟨rfl,cd⟩;have bV:=aa (bc.trans cd);clear cd ga gb;cases y2
   ·go_wp2_with fail
    go_ret;exact⟨by rw[ba.out];rfl,bV⟩
   ·go_wp2_with fail
    go_ret;exact⟨by rw[ba.out];rfl,bV⟩
theorem fB (v:CQ) (l:BC) (w:CP) (S:List Nat) (a:Nat->Addr) (h:eg w v l) (he:ix S a w) (s1:1∈S) (s3:3∈S) (s4:4∈S) (s7:7∈S) (s8:8∈S):
  CZ CO 36 #[v] w fun e w'=>e=.returned (nY a (aR l))/\au w w':=by
 have k:=aa h;obtain⟨cs,vp,vs,vb,L,rfl,Z⟩:=h;obtain rfl:=Z.eq;have c:=aa he;clear Z he;obtain⟨G,r⟩:=exq (wi l.kind 1 7);obtain⟨q2,D⟩:=exq (br l);obtain⟨q3,E⟩:=exq (bA l);obtain⟨H,F⟩:=exq (dU l);obtain⟨N,C⟩:=exq ((bE l).length);have HV:Hid (aR l=if G=false then 7 else if q2=false then 1 else if q3=false then 8 else if H=false then 4 else if 8000 < N then 3 else 0):=aa (by unfold aR;rw[r,D,E,F,C]);have ak:=aa r;have V:=aa D;have W:=aa E;have al:=aa F;have HN:=aa C;have M:Hid (G=true->1<=l.kind/\l.kind<=7):=aa fun q=>bj.1 (by rw[<-r];exact q)
 clear r D E F C;obtain⟨n,d⟩:=exq (w.alloc (.cells (cL l vp vs vb).toArray 26));have s:Hid (aw n w.heap.size (cL l vp vs vb)):=aa (by rw[d];exact aw.box w 26 (bR _ _ _ _));have f:Hid (au w n):=aa (by rw[d];exact ae _ _);unfold cL at d;show CZ CO 36 #[.agg #[.int .i64 l.kind,.int .i64 l.id,.int .i64 l.obj,vp,vs,.int .i64 l.BE,.int .i64 l.BG,vb,.int .i64 l.code]] w _;go_enter Tryz.func36,Tryz.ntmps36
 go_wp2_with fail
 rw[<-d];clear d;refine(aT _ _ _ _).mono ?_;rintro e I ⟨rfl,hw⟩;subst hw;rw[<-ak.out];cases G
 ·have p:n.cell? ⟨2,0,none⟩=some (.iface 233 (.pointer (some (a 7)))):=(c.ext f).cell 7 s7
  go_wp2_with fail
  go_ret;have b:aR l=7:=by rw[HV.out];rfl
  exact⟨by rw[b,da a 7 (by decide)];rfl,f⟩
 have m:=aa (M rfl);clear M;have Q:=aa (s.load (P:=CO) C5 rfl (by kernel_rfl))
 go_wp2_with refine ao rfl Q ?_
 refine(om _ l n (k.ext f) m).mono ?_;rintro e I ⟨rfl,y⟩;have g:=aa (f.trans y);have t:=aa (s.ext y);clear y Q s;rw[<-V.out];cases q2
 ·have p:I.cell? ⟨3,0,none⟩=some (.iface 233 (.pointer (some (a 1)))):=(c.ext g).cell 1 s1
  go_wp2_with fail
  go_ret;have b:aR l=1:=by rw[HV.out];rfl
  exact⟨by rw[b,da a 1 (by decide)];rfl,g⟩
 have R:=aa (t.load (P:=CO) C5 rfl (by kernel_rfl))
 go_wp2_with refine ao rfl R ?_
 refine(r9 _ l I (k.ext g) m).mono ?_;rintro e w3 ⟨rfl,z⟩;have i:=aa (g.trans z);have u:=aa (t.ext z);clear z R t;rw[<-W.out];cases q3
 ·have p:w3.cell? ⟨4,0,none⟩=some (.iface 233 (.pointer (some (a 8)))):=(c.ext i).cell 8 s8
  go_wp2_with fail
  go_ret;have b:aR l=8:=by rw[HV.out];rfl
  exact⟨by rw[b,da a 8 (by decide)];rfl,i⟩
 have T:=aa (u.load (P:=CO) C5 rfl (by kernel_rfl))
 go_wp2_with refine ao rfl T ?_
 refine(uG _ l w3 (k.ext i) m).mono ?_;rintro e w4 ⟨v4,rfl,Y,A⟩;have ai:=aa (i.trans A);have J:=aa (u.ext A);have O:=aa Y;clear A T u Y
 go_wp2_with fail
 refine(sS v4 _ (lF l) dW w4 O ⟨_,_,_,_,_,rfl,iE.zero w4⟩).mono ?_;rintro e w5 ⟨rfl,B⟩;have j:=aa (ai.trans B);have K:=aa (J.ext B);clear B J O;rw[show cQ (lF l) dW=H from al.out.symm];cases H
 ·have p:w5.cell? ⟨5,0,none⟩=some (.iface 233 (.pointer (some (a 4)))):=(c.ext j).cell 4 s4
  go_wp2_with fail
  go_ret;have b:aR l=4:=by rw[HV.out];rfl
  exact⟨by rw[b,da a 4 (by decide)];rfl,j⟩
 have U:=aa (K.load (P:=CO) C5 rfl (by kernel_rfl))
 go_wp2_with refine ao rfl U ?_
 refine(mE _ l w5 (k.ext j) m V.symm W.symm).mono ?_;rintro e w6 ⟨v6,rfl,ab,X⟩;obtain⟨p6,c6,an,_,_⟩:=ab.form;subst an;rw[<-HN.out];have x:=aa (j.trans X);clear X U K ab;by_cases o:8000 < N
 ·have am:(8000:Int) < (N:Int):=by omega
  have p:w6.cell? ⟨6,0,none⟩=some (.iface 233 (.pointer (some (a 3)))):=(c.ext x).cell 3 s3;have b:Hid (aR l=3):=aa (by rw[HV.out,if_neg (by decide),if_neg (by decide),if_neg (by decide),if_neg (by decide),if_pos o]);clear o
  go_wp2_with fail
  go_ret;exact⟨by rw[b.out,da a 3 (by decide)];rfl,x⟩
 ·have am:¬((8000:Int) < (N:Int)):=by omega
  have b:Hid (aR l=0):=aa (by rw[HV.out,if_neg (by decide),if_neg (by decide),if_neg (by decide),if_neg (by decide),if_neg o]);clear o
  go_wp2_with fail
  go_ret;exact⟨by rw[b.out];rfl,x⟩
theorem nG {l:BC} (h:aR l=0):(1<=l.kind/\l.kind<=7)/\br l=true/\bA l=true/\dU l=true/\(bE l).length<=8000:=by
 unfold aR at h;split at h
 ·cases h
 split at h
 ·cases h
 split at h
 ·cases h
 split at h
 ·cases h
 split at h
 ·cases h
 rename_i h1 h2 a b c;exact⟨bj.1 (by simpa using h1),by simpa using h2,by simpa using a,by simpa using b,by omega⟩
theorem lW (v:CQ) (l:BC) (w:CP) (S:List Nat) (a:Nat->Addr) (h:eg w v l) (he:ix S a w) (s1:1∈S) (F:3∈S) (G:4∈S) (H:7∈S) (I:8∈S):
  CZ CO 27 #[v] w fun e w'=>∃z,e=.returned (.tuple #[z,nY a (aR l)])/\Bu w' .u8 z (if aR l=0 then bE l else [])/\au w w':=by
 have p:=aa h;obtain⟨cs,vp,vs,vb,L,rfl,t⟩:=h;obtain rfl:=t.eq;have g:Hid (∀c,au w c->CZ CO 36 #[.agg (cL l vp vs vb).toArray] c fun e w'=>e=.returned (nY a (aR l))/\au c w'):=aa fun c h2=>fB _ l c S a (p.ext h2) (he.ext h2) s1 F G H I
 obtain⟨K,n⟩:=exq (aR l);have C:=aa n;rw[<-n]at g⊢;clear t he n;obtain⟨k,d⟩:=exq (w.alloc (.cells (cL l vp vs vb).toArray 26));have f:Hid (aw k w.heap.size (cL l vp vs vb)):=aa (by rw[d];exact aw.box w 26 (bR _ _ _ _));have o:Hid (au w k):=aa (by rw[d];exact ae _ _);have r:=aa (f.load (P:=CO) C5 rfl (by kernel_rfl));unfold cL at d;show CZ CO 27 #[.agg #[.int .i64 l.kind,.int .i64 l.id,.int .i64 l.obj,vp,vs,.int .i64 l.BE,.int .i64 l.BG,vb,.int .i64 l.code]] w _;go_enter Tryz.func27,Tryz.ntmps27
 go_wp2_with (with_reducible refine aV (ty:=26) ?_)
 refine ax ?_;rw[<-d];clear d;refine ao rfl r ?_
 go_wp2_with fail
 refine(g k o).mono ?_;rintro e c ⟨rfl,m⟩;have i:=aa (o.trans m);have A:=aa (f.ext m);clear m f r g;by_cases b:K=0
 ·subst b;rw[ef];obtain⟨b,u,y,_,_⟩:=nG C.symm;have j:=aa (Dj b (Dj u y));have D:=aa (A.load (P:=CO) C5 rfl (by kernel_rfl));clear b u y
  go_wp2_with refine ao rfl D ?_
  refine(mE _ l c (p.ext i) j.1 j.2.1 j.2.2).mono ?_;rintro e J ⟨v3,rfl,x,s⟩;have E:=aa x;have B:=aa (i.trans s);clear x s
  go_wp2_with fail
  exact De (v:=.tuple #[v3,.nilIface]) (eX rfl rfl rfl) rfl ⟨v3,rfl,E,B⟩
 ·rw[da a K b];have q:=aa b;clear b
  go_wp2_with fail
  exact De (v:=.tuple #[.slice none 0 0,.iface 233 (.pointer (some (a K)))]) (eX rfl rfl rfl) rfl ⟨_,by rw[da a K q.out],by first | exact Bu.nil _ _ | (rw[if_neg q.out];exact Bu.nil _ _),i⟩
def dh (l:BC) (code:Int):BC:=⟨7,l.id,l.obj,[],[],0,0,[],code⟩
abbrev ag:CQ:=.slice none 0 0
theorem iE.Cl (w:CP) (l:BC) (code:Int):iE w (cL (dh l code) ag ag ag) (dh l code) ag ag ag []:=⟨rfl,Bu.nil _ _,ng.nil _,rfl,aU.nil _,fun b a=>by cases a⟩
theorem dK (v:CQ) (l:BC) (code:Int) (w:CP) (h:eg w v l):
  CZ CO 67 #[v,.int .i64 code] w fun e w'=>e=.returned (.agg (cL (dh l code) ag ag ag).toArray)/\au w w':=by
 obtain⟨k,vp,vs,vb,L,rfl,b⟩:=h;obtain rfl:=b.eq;obtain⟨i,id,a,pl,sh,g,f,j,d⟩:=l;clear b;show CZ CO 67 #[.agg #[.int .i64 i,.int .i64 id,.int .i64 a,vp,vs,.int .i64 g,.int .i64 f,vb,.int .i64 d],.int .i64 code] w _;have c:Hid (∀A R,au w ((w.alloc (.cells A 26)).alloc (.cells R 26))):=aa fun A R=>(ae _ _).trans (ae _ _)
 go_enter Tryz.func67,Tryz.ntmps67
 go_wp2_with fail
 exact De (v:=.agg ([.int .i64 7,.int .i64 id,.int .i64 a,ag,ag,.int .i64 0,.int .i64 0,ag,.int .i64 code]:List CQ).toArray) (aB rfl rfl ((fQ w _ [.int .i64 7,.int .i64 id,.int .i64 a,ag,ag,.int .i64 0,.int .i64 0,ag,.int .i64 code] _ _ (fun h=>by cases h)).loadVar (P:=CO) C5 rfl (by kernel_rfl))) rfl ⟨rfl,c _ _⟩
structure oP (w:CP) (b m sb:Nat):Prop where
 c0:w.cell? ⟨b,0,none⟩=some (.map (some m))
 c1:w.cell? ⟨b,1,none⟩=some (.pointer (some ⟨sb,0,none⟩))
theorem oP.lt {w:CP} (h:oP w b m sb):b < w.heap.size:=World.block_lt_of_cell? _ _ h.c0
theorem oP.ext {w w':CP} (h:oP w b m sb) (a:au w w'):oP w' b m sb:=⟨((ay a).1 _ _ h.lt).trans h.c0,((ay a).1 _ _ h.lt).trans h.c1⟩
theorem vm (w:CP):CZ CO 35 #[] w fun e w'=>e=.returned (.pointer (some ⟨w.heap.size,0,none⟩))/\aw w' w.heap.size [.bool false,.int .i64 0,.int .u64 0]/\au w w':=by
 have a:=aa (aw.box (cs:=[.bool false,.int .i64 0,.int .u64 0]) w 134 (fun h=>by cases h));have b:=aa (ae w (.cells ([.bool false,.int .i64 0,.int .u64 0]:List CQ).toArray 134));go_enter Tryz.func35,Tryz.ntmps35
 go_wp2_with fail
 go_ret;exact⟨rfl,a,b⟩
theorem oQ (w:CP):CZ CO 9 #[] w fun e w'=>∃b m a,e=.returned (.pointer (some ⟨b,0,none⟩))/\w.heap.size<=b/\w.heap.size<=m/\w.heap.size<=a/\b≠m/\b≠a/\m≠a/\oP w' b m a/\aw w' b [.map (some m),.pointer (some ⟨a,0,none⟩)]/\bJ w' m []/\aw w' a [.bool false,.int .i64 0,.int .u64 0]/\au w w':=by
 have t:=@run_makeMap CO;go_enter Tryz.func9,Tryz.ntmps9
 go_wp2_with fail
 have l:=bJ.new w;have k:=ae w (.map #[] 0);have n:(w.alloc (.map #[] 0)).heap.size=w.heap.size+1:=World.size_alloc _ _;generalize w.alloc (.map #[] 0)=W1 at l k n⊢;refine(vm W1).mono ?_;rintro e d ⟨rfl,j,f⟩;have o:=aa j;have q:=aa (l.ext f);have p:=aa (k.trans f);have s:=f.size;have g:=aa (aw.box (cs:=[.map (some w.heap.size),.pointer (some ⟨W1.heap.size,0,none⟩)]) d 88 (fun h=>by cases h));have i:=aa (ae d (.cells ([.map (some w.heap.size),.pointer (some ⟨W1.heap.size,0,none⟩)]:List CQ).toArray 88));have r:=j.lt;have c:Hid (w.heap.size<=d.heap.size/\w.heap.size<=W1.heap.size/\d.heap.size≠w.heap.size/\d.heap.size≠W1.heap.size/\w.heap.size≠W1.heap.size):=aa (by omega);clear l k n j f s r
 go_wp2_with fail
 go_ret;exact⟨_,_,_,rfl,c.1,CU _,c.2.1,c.2.2.1,c.2.2.2.1,c.2.2.2.2,⟨g.cell rfl,g.cell rfl⟩,g,q.ext i,o.ext i,p.trans i⟩
theorem oR (b m sb:Nat) (mp:List (Int × CQ)) (v:CQ) (l:BC) (w:CP) (K:oP w b m sb) (J:bJ w m mp) (I:eg w v l) (N:dF mp l.obj=none):
  CZ CO 38 #[.pointer (some ⟨b,0,none⟩),v] w fun e w'=>e=.returned (.agg (cL (dh l 11) ag ag ag).toArray)/\au w w':=by
 have Z:=aa I;obtain⟨aq,vp,vs,vb,L,rfl,p⟩:=I;obtain rfl:=p.eq;clear p;obtain⟨s,g⟩:=exq ((w.alloc (.cells (cL l vp vs vb).toArray 26)).alloc (.cells zL 26));have H:=ae w (.cells (cL l vp vs vb).toArray 26);have o:=H.trans (ae (w.alloc (.cells (cL l vp vs vb).toArray 26)) (.cells zL 26));have q:Hid (aw s w.heap.size (cL l vp vs vb)):=aa (by rw[g];exact(aw.box w 26 (bR _ _ _ _)).ext (ae _ _));have z:Hid (aw s (w.heap.size+1) zL.toList):=aa (by rw[g];exact fQ w _ zL.toList _ _ (fun h=>by cases h));rw[<-g]at o;have B:=aa o;have ab:=aa (J.ext o);have x:=K.ext o;have r:Hid (∀n,au s n->(Instr.lookup 84 (.map (some m)) (.int .i64 l.obj) true).run CO n=.ok (.tuple #[.slice none 0 0,.bool false]) n):=aa fun n h2=>by
  have hz:(zeroValue 22).run CO n=.ok (.slice none 0 0) n:=by first | rfl | kernel_rfl | (simp[go_sem];done)
  have h:=(ab.ext h2).lookup (P:=CO) Tryz.underlying84 DP hz l.obj;rw[N]at h;exact h
 have M:=x.c0;have j:=x.lt;have y:=q.cell (i:=2) (v:=.int .i64 l.obj) rfl;have S:=q.lt;obtain⟨oj,Q⟩:=exq l.obj;rw[<-Q]at r y;clear K J N H o x Q;unfold cL at g;show CZ CO 38 #[.pointer (some ⟨b,0,none⟩),.agg #[.int .i64 l.kind,.int .i64 l.id,.int .i64 l.obj,vp,vs,.int .i64 l.BE,.int .i64 l.BG,vb,.int .i64 l.code]] w _;go_enter Tryz.func38,Tryz.ntmps38
 go_wp2_with fail
 rw[<-g];clear g;apply az (au) (fun _ _ _=>True) 12 [13,14,15,16,17,18,19,12,20,21,5,6] [ar _,ar _,ar _,ar _,ar _,ar _,ar _,ar _,ar _,ar _,ar _,ar _] (fun w=>CT _ w) (fun a b c h k=>au.trans h k) (by kernel_rfl) (by kernel_rfl) (by kernel_rfl) (by kernel_rfl);case hsteps=>
  refine⟨?_,?_,?_,?_,?_,?_,?_,?_,?_,?_,?_,?_,trivial⟩;all_goals
   intro d ev T f D E F O j hd;replace E:=aa E;replace D:=aa D;replace F:=aa F;replace O:=aa O;have e0:=j 0 (by decide);have e3:=j 3 (by decide);clear j;simp only[sB]at e0 e3;simp only[sG]at hd;have p:=(ay f).1;have c0:=(p _ 0 j).trans M;have c2:=(p _ 2 S).trans y;have lk:=r _ f;simp only[C8,if_true];go_simp;first | exact⟨CT _ _,rfl,trivial⟩ | exact⟨CT _ _,rfl⟩ | exact CT _ _
 case hmono=>exact mR
 case hR0=>exact(CT _ _).drew
 case hend=>
  intro u T f hJ hend;simp only[sE]at hend;simp only[sF,hend];have C:=aa f;have V:=aa (q.ext f);have W:=aa (z.ext f);clear f hend hJ M j y S q z r;have G:=aa (V.load (P:=CO) C5 rfl (by kernel_rfl))
  go_wp2_with refine ao rfl G ?_
  refine(dK _ l 11 T (Z.ext (B.trans C))).mono ?_;rintro e w3 ⟨rfl,t⟩;have X:=aa ((B.trans C).trans t);have A:=aa (W.ext t);clear t G;have R:=(iE.Cl w3 l 11).one;have ac:=aa (A.store (P:=CO) (cs':=cL (dh l 11) ag ag ag) rfl R (ty:=26) (by kernel_rfl));have U:=aa (A.set (cs':=cL (dh l 11) ag ag ag) rfl);have Y:=aa (aA (cL (dh l 11) ag ag ag) (w.heap.size+1) 0 _ X (ET _));clear R
  go_wp2_with refine ak rfl rfl ac ?_
  exact De (v:=.agg (cL (dh l 11) ag ag ag).toArray) (aB rfl rfl (U.loadVar (P:=CO) C5 rfl (by kernel_rfl))) rfl ⟨rfl,Y⟩
 case hJ0=>trivial
def yc:BC:=⟨3,0,0,[0],[],0,0,[],0⟩
theorem yd:aR yc=0:=by decide
theorem oS (b m T:Nat) (mp:List (Int × CQ)) (v:CQ) (l:BC) (w:CP) (S:List Nat) (a:Nat->Addr) (J:oP w b m T) (I:bJ w m mp) (t:eg w v l) (N:dF mp l.obj=none) (M:l.kind=3) (O:aR l=0) (he:ix S a w) (s1:1∈S) (s3:3∈S) (s4:4∈S) (s7:7∈S) (s8:8∈S):
  CZ CO 10 #[.pointer (some ⟨b,0,none⟩),v] w fun e w'=>e=.returned (.tuple #[.agg (cL (dh l 11) ag ag ag).toArray,.bool true])/\au w w':=by
 have k:=aa (fun c (h2:au w c)=>fB v l c S a (t.ext h2) (he.ext h2) s1 s3 s4 s7 s8);have u:=aa (fun c (h2:au w c)=>oR b m T mp v l c (J.ext h2) (I.ext h2) (t.ext h2) N);rw[O,ef]at k;obtain⟨al,vp,vs,vb,L,rfl,K⟩:=t;obtain rfl:=K.eq;clear K J I N O he;obtain⟨kd,id,R,pl,sh,G,F,Z,E⟩:=l;simp only at M;subst M;obtain⟨l,n⟩:=exq ((⟨3,id,R,pl,sh,G,F,Z,E⟩:BC));rw[<-n]at k u⊢;obtain⟨q,d⟩:=exq ((w.alloc (.cells (cL l vp vs vb).toArray 26)).alloc (.cells zL 26));have H:=ae w (.cells (cL l vp vs vb).toArray 26);have r:=H.trans (ae (w.alloc (.cells (cL l vp vs vb).toArray 26)) (.cells zL 26));have f:Hid (aw q w.heap.size (cL l vp vs vb)):=aa (by rw[d];exact(aw.box w 26 (bR _ _ _ _)).ext (ae _ _));have y:Hid (aw q (w.heap.size+1) zL.toList):=aa (by rw[d];exact fQ w _ zL.toList _ _ (fun h=>by cases h));rw[<-d]at r;have p:=aa r;have aj:Hid (l.kind=3):=aa (by rw[n]);have j:cL l vp vs vb=[.int .i64 3,.int .i64 id,.int .i64 R,vp,vs,.int .i64 G,.int .i64 F,vb,.int .i64 E]:=by rw[n];rfl
 have o:=f.cell (i:=0) (v:=.int .i64 3) (by rw[j];rfl);have C:=aa (f.load (P:=CO) C5 rfl (by kernel_rfl));rw[j]at d;have X:=aa o;clear H r o;show CZ CO 10 #[.pointer (some ⟨b,0,none⟩),.agg (cL l vp vs vb).toArray] w _;have ai:=aa j;rw[j];clear j n;go_enter Tryz.func10,Tryz.ntmps10
 go_wp2_with (with_reducible refine aV (ty:=26) ?_)
 rw[<-d];clear d;refine ax ?_;refine ao rfl C ?_
 go_wp2_with fail
 refine(k q p).mono ?_;rintro e c ⟨rfl,g⟩;have x:=aa (f.ext g);have z:=aa (y.ext g);have B:=aa (p.trans g);have o:c.cell? ⟨w.heap.size,0,none⟩=some (.int .i64 3):=((ay g).1 _ _ f.lt).trans X;have D:=aa (x.load (P:=CO) C5 rfl (by kernel_rfl));clear g f y p C k
 go_wp2_with refine ao rfl D ?_
 refine(u c B).mono ?_;rintro e w3 ⟨rfl,s⟩;have V:=aa (B.trans s);have A:=aa (z.ext s);clear s D o x z;have Q:=(iE.Cl w3 l 11).one;have Y:=aa (A.store (P:=CO) (cs':=cL (dh l 11) ag ag ag) rfl Q (ty:=26) (by kernel_rfl));have U:=aa (A.set (cs':=cL (dh l 11) ag ag ag) rfl);have W:=aa (aA (cL (dh l 11) ag ag ag) (w.heap.size+1) 0 _ V (ET _));clear Q
 go_wp2_with refine ak rfl rfl Y ?_
 exact De (v:=.tuple #[.agg (cL (dh l 11) ag ag ag).toArray,.bool true]) (aI rfl rfl (U.loadVar (P:=CO) C5 rfl (by kernel_rfl)) rfl) rfl ⟨rfl,W⟩
theorem xa (w:CP) (S:List Nat) (a:Nat->Addr) (he:ix S a w) (s1:1∈S) (A:3∈S) (B:4∈S) (C:7∈S) (D:8∈S):
  CZ CO 22 #[] w fun e w'=>e=.returned (.bool true)/\au w w':=by
 have y:=aa he;clear he;go_enter Tryz.func22,Tryz.ntmps22
 go_wp2_with fail
 refine(oQ w).mono ?_;rintro e c ⟨b,m,E,rfl,-,-,-,-,-,-,r,-,p,-,k⟩;have x:=aa r;have u:=aa p;have h:=aa k;clear r p k
 go_wp2_with fail
 have f:=ae c (.cells #[.int .i64 0] 3);have q:Bu (c.alloc (.cells #[.int .i64 0] 3)) .i64 (.slice (some ⟨c.heap.size,0,none⟩) 1 1) [0]:=eI c 3 .i64 0;have o:eg (c.alloc (.cells #[.int .i64 0] 3)) (.agg #[.int .i64 3,.int .i64 0,.int .i64 0,.slice (some ⟨c.heap.size,0,none⟩) 1 1,.slice none 0 0,.int .i64 0,.int .i64 0,.slice none 0 0,.int .i64 0]) yc:=
  ⟨_,_,_,_,[],rfl,rfl,q,ng.nil _,rfl,aU.nil _,fun b z=>by cases z⟩
 refine(oS b m E [] _ yc _ S a (x.ext f) (u.ext f) o rfl rfl yd (y.ext (h.trans f)) s1 A B C D).mono ?_;rintro e d ⟨rfl,l⟩;have s:=aa ((h.trans f).trans l);clear f q o l;obtain⟨g,n⟩:=aw.fresh (cs:=cL (dh yc 11) ag ag ag) d 26 zL rfl (bR _ _ _ _);have j:=aa (aH (P:=CO) (cs:=cL (dh yc 11) ag ag ag) d 26 zL rfl (iE.Cl d yc 11).one (ty:=26) (by kernel_rfl));have t:=aa (s.trans n);have F:=g.cell (i:=0) (v:=.int .i64 7) rfl;have G:=g.cell (i:=8) (v:=.int .i64 11) rfl;clear g n
 go_wp2_with (with_reducible refine aC (ty:=26) ?_)
 refine ax ?_;refine ak rfl rfl j ?_;generalize (d.alloc (.cells zL 26)).setCells d.heap.size 0 (cL (dh yc 11) ag ag ag)=W4 at*;generalize d.heap.size=X4 at*;clear j
 go_wp2_with fail
 go_ret;exact⟨rfl,t⟩
end Go.Proofs.Bl
