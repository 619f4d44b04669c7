/- Texts that stood apart, in one: LW6, LetP, LetB, LW7, LW8, LW9. -/
import Derived.Test.YtglenbikdahgjaaGreatDoorPk06
import Derived.Test.YtglenbikdahgjaaGreatDoorPk05
import Derived.Test.YtglenbikdahgjaaGreatDoorPk09
set_option maxRecDepth 100000
set_option maxHeartbeats 16000000
namespace Go.Proofs.Bl
open Go Go.RowKit
def wi (n a b:Int):Bool:=decide (a<=n)&&decide (n<=b)
theorem wi_iff {n a b:Int}:wi n a b=true↔a<=n/\n<=b:=by unfold wi;simp
theorem wi_no {n a b:Int}:wi n a b=false↔n < a\/b < n:=by
 rw [<-Bool.not_eq_true,wi_iff];omega
theorem any_drop_none {α :Type} {p: α ->Bool} {l:List α} {k:Nat} (h:∀q x,q < k->l[q]? =some x->p x=false) (hk:l.length<=k):l.any p=false:=by
 rw [List.any_eq_false]
 intro x hx
 obtain⟨q,hq,rfl⟩:=List.getElem_of_mem hx
 rw [h q _ (by omega) (List.getElem?_eq_getElem hq)]
 decide
theorem any_at {α :Type} {p: α ->Bool} {l:List α} (d: α) {k:Nat} (hk:k < l.length) (h:p (l.getD k d)=true):l.any p=true:=List.any_eq_true.2 ⟨_,getD_mem d hk,h⟩
end Go.Proofs.Bl
namespace Go.Proofs.YtglenbikdahgjaaGreatDoor
open Go Go.RowKit Go.Proofs Go.Proofs.Bl
theorem within_any (n a b:Int) (w:World):Calls Tryz.prog 68 #[.int .i64 n,.int .i64 a,.int .i64 b] w fun e w'=>e= .returned (.bool (wi n a b))/\w=w':=by
 by_cases h1:a<=n
 ·by_cases h2:n<=b
  ·have Hv:Hid (wi n a b=true):=Bl.hid (wi_iff.2 ⟨h1,h2⟩)
   go_enter Tryz.func68,Tryz.ntmps68
   go_wp2
   go_ret
   exact⟨by rw [Hv.out];rfl,rfl⟩
  ·have Hv:Hid (wi n a b=false):=Bl.hid (wi_no.2 (by omega))
   go_enter Tryz.func68,Tryz.ntmps68
   go_wp2
   go_ret
   exact⟨by rw [Hv.out];rfl,rfl⟩
 ·have Hv:Hid (wi n a b=false):=Bl.hid (wi_no.2 (by omega))
  go_enter Tryz.func68,Tryz.ntmps68
  go_wp2
  go_ret
  exact⟨by rw [Hv.out];rfl,rfl⟩
theorem out_any (n a b:Int) (w:World):Calls Tryz.prog 75 #[.int .i64 n,.int .i64 a,.int .i64 b] w fun e w'=>e= .returned (.bool (!wi n a b))/\w=w':=by
 by_cases h1:n < a
 ·have Hv:Hid (wi n a b=false):=Bl.hid (wi_no.2 (by omega))
  go_enter Tryz.func75,Tryz.ntmps75
  go_wp2
  go_ret
  exact⟨by rw [Hv.out];rfl,rfl⟩
 ·by_cases h2:b < n
  ·have Hv:Hid (wi n a b=false):=Bl.hid (wi_no.2 (by omega))
   go_enter Tryz.func75,Tryz.ntmps75
   go_wp2
   go_ret
   exact⟨by rw [Hv.out];rfl,rfl⟩
  ·have Hv:Hid (wi n a b=true):=Bl.hid (wi_iff.2 (by omega))
   go_enter Tryz.func75,Tryz.ntmps75
   go_wp2
   go_ret
   exact⟨by rw [Hv.out];rfl,rfl⟩
theorem placed_any (n:Int) (w:World):Calls Tryz.prog 115 #[.int .i64 n] w fun e w'=>e= .returned (.bool (wi n 0 511))/\w=w':=by
 go_enter Tryz.func115,Tryz.ntmps115
 go_wp2_with fail
 refine(within_any _ _ _ _).mono ?_
 rintro e w' ⟨rfl,hw⟩
 subst hw
 go_wp2_with fail
 go_ret
 exact⟨rfl,rfl⟩
theorem strange_any (n:Int) (w:World):Calls Tryz.prog 114 #[.int .i64 n] w fun e w'=>e= .returned (.bool (!wi n 0 511))/\w=w':=by
 go_enter Tryz.func114,Tryz.ntmps114
 go_wp2_with fail
 refine(placed_any _ _).mono ?_
 rintro e w' ⟨rfl,hw⟩
 subst hw
 obtain⟨q,hq⟩:∃q,q=wi n 0 511:=⟨_,rfl⟩
 rw [<-hq]
 have Hq:=Bl.hid hq
 clear hq
 cases q
 ·go_wp2_with fail
  go_ret
  exact⟨by rw [<-Hq.out];rfl,rfl⟩
 ·go_wp2_with fail
  go_ret
  exact⟨by rw [<-Hq.out];rfl,rfl⟩
theorem strangeS_any (x:Sv) (w:World):Calls Tryz.prog 118 #[.agg (cS x).toArray] w fun e w'=>e= .returned (.bool (!wi x.1 0 511))/\Ext w w':=by
 obtain⟨n,⟨v,l⟩,u,d⟩:=x
 have HE0:=Bl.hid (ext_alloc w (.cells #[.int .i64 n,v,u] 57))
 show Calls Tryz.prog 118 #[.agg #[.int .i64 n,v,u]] w _
 go_enter Tryz.func118,Tryz.ntmps118
 go_wp2_with fail
 refine(placed_any _ _).mono ?_
 rintro e w' ⟨rfl,hw⟩
 subst hw
 obtain⟨q,hq⟩:∃q,q=wi n 0 511:=⟨_,rfl⟩
 rw [<-hq]
 have Hq:=Bl.hid hq
 clear hq
 cases q
 ·go_wp2_with fail
  go_ret
  exact⟨by rw [<-Hq.out];rfl,HE0.out⟩
 ·go_wp2_with fail
  go_ret
  exact⟨by rw [<-Hq.out];rfl,HE0.out⟩
theorem wrongB_any (p:Option Addr) (n c:Nat) (w:World):Calls Tryz.prog 119 #[.slice p n c] w fun e w'=>e= .returned (.bool (!decide (n=16)))/\w=w':=by
 by_cases h:n=16
 ·subst h
  go_enter Tryz.func119,Tryz.ntmps119
  go_wp2
  go_ret
  exact⟨rfl,rfl⟩
 ·have h2:((n:Int)==16)=false:=by rw [beq_eq_false_iff_ne];omega
  have Hv:Hid (decide (n=16)=false):=Bl.hid (decide_eq_false h)
  clear h
  go_enter Tryz.func119,Tryz.ntmps119
  go_wp2
  go_ret
  refine⟨?_,rfl⟩
  rw [Hv.out]
  show Ending.returned (.bool (!((n:Int)==16)))=_
  rw [h2]
  try rfl
theorem wrongS_any (x:Sv) (w:World) (hx:OkS w x):Calls Tryz.prog 121 #[.agg (cS x).toArray] w fun e w'=>e= .returned (.bool (!decide (x.2.1.2.length=16)|| !decide (x.2.2.2.length<=10)))/\Ext w w':=by
 obtain⟨n,⟨v,l⟩,u,d⟩:=x
 obtain⟨p1,c1,e1,_,_⟩:=hx.st.form
 obtain⟨p2,c2,e2,_,_⟩:=hx.pa.form
 simp only at e1 e2
 subst e1 e2
 clear hx
 show Calls Tryz.prog 121 #[.agg #[.int .i64 n,.slice p1 l.length c1,.slice p2 d.length c2]] w fun e w'=>e= .returned (.bool (!decide (l.length=16)|| !decide (d.length<=10)))/\Ext w w'
 generalize l.length=m
 generalize d.length=k
 have HE0:=Bl.hid (ext_alloc w (.cells #[.int .i64 n,.slice p1 m c1,.slice p2 k c2] 57))
 by_cases h1:m=16
 ·subst h1
  by_cases h2:k<=10
  ·have h2i:¬((10:Int) < (k:Int)):=by omega
   have Hv:Hid (decide (k<=10)=true):=Bl.hid (decide_eq_true h2)
   clear h2
   go_enter Tryz.func121,Tryz.ntmps121
   go_wp2_with fail
   go_ret
   first
   | exact⟨by rw [Hv.out];rfl,HE0.out⟩
   | (refine⟨?_,HE0.out⟩;rw [Hv.out];simp [h2i])
  ·have h2i:(10:Int) < (k:Int):=by omega
   have Hv:Hid (decide (k<=10)=false):=Bl.hid (decide_eq_false h2)
   clear h2
   go_enter Tryz.func121,Tryz.ntmps121
   go_wp2_with fail
   go_ret
   first
   | exact⟨by rw [Hv.out];rfl,HE0.out⟩
   | (refine⟨?_,HE0.out⟩;rw [Hv.out];simp [h2i])
 ·have h3:((m:Int) != 16)=true:=by rw [bne_iff_ne];omega
  have h2:((m:Int)==16)=false:=by rw [beq_eq_false_iff_ne];omega
  have Hv:Hid (decide (m=16)=false):=Bl.hid (decide_eq_false h1)
  clear h1
  go_enter Tryz.func121,Tryz.ntmps121
  go_wp2_with fail
  go_ret
  exact⟨by rw [Hv.out];rfl,HE0.out⟩
theorem idxI_any (v:Value) (l:List Int) (w:World) (h:Rd w .i64 v l):
  Calls Tryz.prog 146 #[v,.func (.func 114) #[] #[]] w fun e w'=>(∃z:Int,e= .returned (.int .i64 z)/\decide (0<=z)=l.any (fun x=> !wi x 0 511))/\Ext w w':=by
 obtain⟨p,c,hvf,hvn,hvc⟩:=h.form
 subst hvf
 unfold maxLen at hvc
 have H:=Bl.hid h
 obtain⟨n,hn⟩:∃n,n=l.length:=⟨_,rfl⟩
 have Hn:=Bl.hid hn
 rw [<-hn]at hvn⊢
 skip
 clear h hn
 go_enter Tryz.func146,Tryz.ntmps146
 go_wp2_with fail
 go_loopw [8] (fun i wr=>∃k:Nat,k<=n/\i= .int .i64 k/\Ext w wr/\Hid (∀q x,q < k->l[q]? =some x->(fun x=> !wi x 0 511) x=false)) (fun i _=>n - (intOf i).toNat)
 case atStart=>exact⟨0,Nat.zero_le _,rfl,Below.refl _ _,Bl.hid fun q x h=>absurd h (Nat.not_lt_zero _)⟩
 case round=>
  obtain⟨k,hk,rfl,hE,Hq⟩:=hrel
  have HE:=Bl.hid hE
  clear hE
  by_cases hlt:k < n
  ·have hla:k < l.length:=by rw [<-Hn.out];exact hlt
   have Hla:=Bl.hid hla
   obtain⟨b1,o1,c1,hpa,_,_,_,_,hel1⟩:=Rd.pos (H.out.ext HE.out) (by omega)
   injection hpa with hp1 hp2 hp3
   subst hp1
   have hcell1:=hel1 k hla
   obtain⟨x,hx⟩:∃x,x=l.getD k 0:=⟨_,rfl⟩
   rw [<-hx]at hcell1
   have Hx:=Bl.hid hx
   clear hel1 hp2 hp3 hx hla
   go_wp2_with fail
   refine(strange_any x wr).mono ?_
   rintro e w1 ⟨rfl,hw1⟩
   subst hw1
   have HE1:=HE
   have Hnx:Hid (∀b,(fun x=> !wi x 0 511) x=b->∀y,l[k]? =some y->(fun x=> !wi x 0 511) y=b):=Bl.hid fun b hb y hy=>by
    rw [<-hb,Hx.out,List.getD_eq_getElem?_getD,hy];rfl
   have Hat:Hid ((fun x=> !wi x 0 511) x=true->l.any (fun x=> !wi x 0 511)=true):=Bl.hid fun h=>any_at 0 Hla.out (by rw [<-Hx.out];exact h)
   obtain⟨b,hb⟩:∃b,b=(!wi x 0 511):=⟨_,rfl⟩
   rw [<-hb]
   have Hb:=Bl.hid hb
   clear hb
   cases b
   ·go_wp2_with fail
    go_roundw
    case rel=>exact⟨k+1,by omega,by go_num,HE1.out,Bl.hid fun q y hq hy=>by
     rcases Nat.lt_succ_iff_lt_or_eq.1 hq with g | g
     ·exact Hq.out q y g hy
     ·subst g;exact Hnx.out false Hb.out.symm y hy⟩
    case measure=>simp [intOf];omega
   ·go_wp2_with fail
    go_ret
    exact⟨⟨k,rfl,by rw [Hat.out Hb.out.symm];simp⟩,HE1.out⟩
  ·obtain rfl:k=n:=by omega
   have Hv:Hid (l.any (fun x=> !wi x 0 511)=false):=Bl.hid (any_drop_none Hq.out (by rw [<-Hn.out];exact Nat.le_refl _))
   go_wp2_with fail
   go_ret
   exact⟨⟨-1,rfl,by rw [Hv.out];rfl⟩,HE.out⟩
theorem hasI_any (v:Value) (l:List Int) (w:World) (h:Rd w .i64 v l):
  Calls Tryz.prog 116 #[v,.func (.func 114) #[] #[]] w fun e w'=>e= .returned (.bool (l.any (fun x=> !wi x 0 511)))/\Ext w w':=by
 have HC:=Bl.hid (idxI_any v l w h)
 obtain⟨q,hq⟩:∃q,q=l.any (fun x=> !wi x 0 511):=⟨_,rfl⟩
 rw [<-hq]at HC⊢
 clear h
 go_enter Tryz.func116,Tryz.ntmps116
 go_wp2_with fail
 refine HC.out.mono ?_
 rintro e w1 ⟨⟨z,rfl,hz⟩,hE⟩
 have HE:=Bl.hid hE
 clear hE
 have Hz:=Bl.hid hz
 clear hz
 go_wp2_with fail
 go_ret
 exact⟨by rw [<-Hz.out];rfl,HE.out⟩
theorem idxS1_any (v:Value) (l:List Sv) (w:World) (h:RdS w v l):
  Calls Tryz.prog 147 #[v,.func (.func 118) #[] #[]] w fun e w'=>(∃z:Int,e= .returned (.int .i64 z)/\decide (0<=z)=l.any (fun x=> !wi x.1 0 511))/\Ext w w':=by
 obtain⟨p,c,hvf,hvn,hvc⟩:=h.rd.form
 subst hvf
 unfold maxLen at hvc
 have H:=Bl.hid h
 obtain⟨n,hn⟩:∃n,n=l.length:=⟨_,rfl⟩
 have Hn:=Bl.hid hn
 rw [<-hn]at hvn⊢
 rw [<-hn]at H
 clear h hn
 go_enter Tryz.func147,Tryz.ntmps147
 go_wp2_with fail
 go_loopw [8] (fun i wr=>∃k:Nat,k<=n/\i= .int .i64 k/\Ext w wr/\Hid (∀q x,q < k->l[q]? =some x->(fun x=> !wi x.1 0 511) x=false)) (fun i _=>n - (intOf i).toNat)
 case atStart=>exact⟨0,Nat.zero_le _,rfl,Below.refl _ _,Bl.hid fun q x h=>absurd h (Nat.not_lt_zero _)⟩
 case round=>
  obtain⟨k,hk,rfl,hE,Hq⟩:=hrel
  have HE:=Bl.hid hE
  clear hE
  by_cases hlt:k < n
  ·have hla:k < l.length:=by rw [<-Hn.out];exact hlt
   have Hla:=Bl.hid hla
   obtain⟨b1,o1,c1,hpa,_,_,_,hel1⟩:=(H.out.ext HE.out).pos (by omega)
   injection hpa with hp1 hp2 hp3
   subst hp1
   have hr1:=hel1 k hla
   have hok1:=(H.out.ext HE.out).ok _ (getD_mem s0 hla)
   obtain⟨x,hx⟩:∃x,x=l.getD k s0:=⟨_,rfl⟩
   rw [<-hx]at hr1 hok1
   have Hx:=Bl.hid hx
   have Hok:=Bl.hid hok1
   have Hld1:=Bl.hid (run_loadAt_mid (P:=Tryz.prog) wr b1 (o1+k*3) 57 _ _ hr1 Tryz.underlying57 rfl (by rw [cS_len];kernel_rfl))
   clear hel1 hp2 hp3 hx hla hr1 hok1
   have hk0:(0:Int)<=(k:Int):=by omega
   have hkl:(k:Int) < (n:Int):=by omega
   go_wp2_with (with_reducible refine stop_load (ty:=57) ?_)
   refine go_on ?_
   refine wpL_load rfl Hld1.out ?_
   go_wp2_with fail
   refine(strangeS_any x wr).mono ?_
   rintro e w1 ⟨rfl,hE1⟩
   have HE1:=Bl.hid (HE.out.trans hE1)
   clear hE1
   have Hnx:Hid (∀b,(fun x=> !wi x.1 0 511) x=b->∀y,l[k]? =some y->(fun x=> !wi x.1 0 511) y=b):=Bl.hid fun b hb y hy=>by
    rw [<-hb,Hx.out,List.getD_eq_getElem?_getD,hy];rfl
   have Hat:Hid ((fun x=> !wi x.1 0 511) x=true->l.any (fun x=> !wi x.1 0 511)=true):=Bl.hid fun h=>any_at s0 Hla.out (by rw [<-Hx.out];exact h)
   obtain⟨b,hb⟩:∃b,b=(!wi x.1 0 511):=⟨_,rfl⟩
   rw [<-hb]
   have Hb:=Bl.hid hb
   clear hb
   cases b
   ·go_wp2_with fail
    go_roundw
    case rel=>exact⟨k+1,by omega,by go_num,HE1.out,Bl.hid fun q y hq hy=>by
     rcases Nat.lt_succ_iff_lt_or_eq.1 hq with g | g
     ·exact Hq.out q y g hy
     ·subst g;exact Hnx.out false Hb.out.symm y hy⟩
    case measure=>simp [intOf];omega
   ·go_wp2_with fail
    go_ret
    exact⟨⟨k,rfl,by rw [Hat.out Hb.out.symm];simp⟩,HE1.out⟩
  ·obtain rfl:k=n:=by omega
   have Hv:Hid (l.any (fun x=> !wi x.1 0 511)=false):=Bl.hid (any_drop_none Hq.out (by rw [<-Hn.out];exact Nat.le_refl _))
   go_wp2_with fail
   go_ret
   exact⟨⟨-1,rfl,by rw [Hv.out];rfl⟩,HE.out⟩
theorem hasS1_any (v:Value) (l:List Sv) (w:World) (h:RdS w v l):
  Calls Tryz.prog 117 #[v,.func (.func 118) #[] #[]] w fun e w'=>e= .returned (.bool (l.any (fun x=> !wi x.1 0 511)))/\Ext w w':=by
 have HC:=Bl.hid (idxS1_any v l w h)
 obtain⟨q,hq⟩:∃q,q=l.any (fun x=> !wi x.1 0 511):=⟨_,rfl⟩
 rw [<-hq]at HC⊢
 clear h
 go_enter Tryz.func117,Tryz.ntmps117
 go_wp2_with fail
 refine HC.out.mono ?_
 rintro e w1 ⟨⟨z,rfl,hz⟩,hE⟩
 have HE:=Bl.hid hE
 clear hE
 have Hz:=Bl.hid hz
 clear hz
 go_wp2_with fail
 go_ret
 exact⟨by rw [<-Hz.out];rfl,HE.out⟩
theorem idxS2_any (v:Value) (l:List Sv) (w:World) (h:RdS w v l):
  Calls Tryz.prog 147 #[v,.func (.func 121) #[] #[]] w fun e w'=>(∃z:Int,e= .returned (.int .i64 z)/\decide (0<=z)=l.any (fun x=> !decide (x.2.1.2.length=16)|| !decide (x.2.2.2.length<=10)))/\Ext w w':=by
 obtain⟨p,c,hvf,hvn,hvc⟩:=h.rd.form
 subst hvf
 unfold maxLen at hvc
 have H:=Bl.hid h
 obtain⟨n,hn⟩:∃n,n=l.length:=⟨_,rfl⟩
 have Hn:=Bl.hid hn
 rw [<-hn]at hvn⊢
 rw [<-hn]at H
 clear h hn
 go_enter Tryz.func147,Tryz.ntmps147
 go_wp2_with fail
 go_loopw [8] (fun i wr=>∃k:Nat,k<=n/\i= .int .i64 k/\Ext w wr/\Hid (∀q x,q < k->l[q]? =some x->(fun x=> !decide (x.2.1.2.length=16)|| !decide (x.2.2.2.length<=10)) x=false)) (fun i _=>n - (intOf i).toNat)
 case atStart=>exact⟨0,Nat.zero_le _,rfl,Below.refl _ _,Bl.hid fun q x h=>absurd h (Nat.not_lt_zero _)⟩
 case round=>
  obtain⟨k,hk,rfl,hE,Hq⟩:=hrel
  have HE:=Bl.hid hE
  clear hE
  by_cases hlt:k < n
  ·have hla:k < l.length:=by rw [<-Hn.out];exact hlt
   have Hla:=Bl.hid hla
   obtain⟨b1,o1,c1,hpa,_,_,_,hel1⟩:=(H.out.ext HE.out).pos (by omega)
   injection hpa with hp1 hp2 hp3
   subst hp1
   have hr1:=hel1 k hla
   have hok1:=(H.out.ext HE.out).ok _ (getD_mem s0 hla)
   obtain⟨x,hx⟩:∃x,x=l.getD k s0:=⟨_,rfl⟩
   rw [<-hx]at hr1 hok1
   have Hx:=Bl.hid hx
   have Hok:=Bl.hid hok1
   have Hld1:=Bl.hid (run_loadAt_mid (P:=Tryz.prog) wr b1 (o1+k*3) 57 _ _ hr1 Tryz.underlying57 rfl (by rw [cS_len];kernel_rfl))
   clear hel1 hp2 hp3 hx hla hr1 hok1
   have hk0:(0:Int)<=(k:Int):=by omega
   have hkl:(k:Int) < (n:Int):=by omega
   go_wp2_with (with_reducible refine stop_load (ty:=57) ?_)
   refine go_on ?_
   refine wpL_load rfl Hld1.out ?_
   go_wp2_with fail
   refine(wrongS_any x wr Hok.out).mono ?_
   rintro e w1 ⟨rfl,hE1⟩
   have HE1:=Bl.hid (HE.out.trans hE1)
   clear hE1
   have Hnx:Hid (∀b,(fun x=> !decide (x.2.1.2.length=16)|| !decide (x.2.2.2.length<=10)) x=b->∀y,l[k]? =some y->(fun x=> !decide (x.2.1.2.length=16)|| !decide (x.2.2.2.length<=10)) y=b):=Bl.hid fun b hb y hy=>by
    rw [<-hb,Hx.out,List.getD_eq_getElem?_getD,hy];rfl
   have Hat:Hid ((fun x=> !decide (x.2.1.2.length=16)|| !decide (x.2.2.2.length<=10)) x=true->l.any (fun x=> !decide (x.2.1.2.length=16)|| !decide (x.2.2.2.length<=10))=true):=Bl.hid fun h=>any_at s0 Hla.out (by rw [<-Hx.out];exact h)
   obtain⟨b,hb⟩:∃b,b=(!decide (x.2.1.2.length=16)|| !decide (x.2.2.2.length<=10)):=⟨_,rfl⟩
   rw [<-hb]
   have Hb:=Bl.hid hb
   clear hb
   cases b
   ·go_wp2_with fail
    go_roundw
    case rel=>exact⟨k+1,by omega,by go_num,HE1.out,Bl.hid fun q y hq hy=>by
     rcases Nat.lt_succ_iff_lt_or_eq.1 hq with g | g
     ·exact Hq.out q y g hy
     ·subst g;exact Hnx.out false Hb.out.symm y hy⟩
    case measure=>simp [intOf];omega
   ·go_wp2_with fail
    go_ret
    exact⟨⟨k,rfl,by rw [Hat.out Hb.out.symm];simp⟩,HE1.out⟩
  ·obtain rfl:k=n:=by omega
   have Hv:Hid (l.any (fun x=> !decide (x.2.1.2.length=16)|| !decide (x.2.2.2.length<=10))=false):=Bl.hid (any_drop_none Hq.out (by rw [<-Hn.out];exact Nat.le_refl _))
   go_wp2_with fail
   go_ret
   exact⟨⟨-1,rfl,by rw [Hv.out];rfl⟩,HE.out⟩
theorem hasS2_any (v:Value) (l:List Sv) (w:World) (h:RdS w v l):
  Calls Tryz.prog 117 #[v,.func (.func 121) #[] #[]] w fun e w'=>e= .returned (.bool (l.any (fun x=> !decide (x.2.1.2.length=16)|| !decide (x.2.2.2.length<=10))))/\Ext w w':=by
 have HC:=Bl.hid (idxS2_any v l w h)
 obtain⟨q,hq⟩:∃q,q=l.any (fun x=> !decide (x.2.1.2.length=16)|| !decide (x.2.2.2.length<=10)):=⟨_,rfl⟩
 rw [<-hq]at HC⊢
 clear h
 go_enter Tryz.func117,Tryz.ntmps117
 go_wp2_with fail
 refine HC.out.mono ?_
 rintro e w1 ⟨⟨z,rfl,hz⟩,hE⟩
 have HE:=Bl.hid hE
 clear hE
 have Hz:=Bl.hid hz
 clear hz
 go_wp2_with fail
 go_ret
 exact⟨by rw [<-Hz.out];rfl,HE.out⟩
theorem idxB_any (v:Value) (l:List (List Int)) (w:World) (h:Rdss w v l):
  Calls Tryz.prog 148 #[v,.func (.func 119) #[] #[]] w fun e w'=>(∃z:Int,e= .returned (.int .i64 z)/\decide (0<=z)=l.any (fun x=> !decide (x.length=16)))/\Ext w w':=by
 obtain⟨p,c,hvf,hvn,hvc⟩:=h.form
 subst hvf
 unfold maxLen at hvc
 have H:=Bl.hid h
 obtain⟨n,hn⟩:∃n,n=l.length:=⟨_,rfl⟩
 have Hn:=Bl.hid hn
 rw [<-hn]at hvn⊢
 skip
 clear h hn
 go_enter Tryz.func148,Tryz.ntmps148
 go_wp2_with fail
 go_loopw [8] (fun i wr=>∃k:Nat,k<=n/\i= .int .i64 k/\Ext w wr/\Hid (∀q x,q < k->l[q]? =some x->(fun x=> !decide (x.length=16)) x=false)) (fun i _=>n - (intOf i).toNat)
 case atStart=>exact⟨0,Nat.zero_le _,rfl,Below.refl _ _,Bl.hid fun q x h=>absurd h (Nat.not_lt_zero _)⟩
 case round=>
  obtain⟨k,hk,rfl,hE,Hq⟩:=hrel
  have HE:=Bl.hid hE
  clear hE
  by_cases hlt:k < n
  ·have hla:k < l.length:=by rw [<-Hn.out];exact hlt
   have Hla:=Bl.hid hla
   obtain⟨ws,hv,hwl,hws⟩:=H.out.ext HE.out
   obtain⟨b1,o1,hpa,hbl1,hcell1⟩:=Rdss.cell' (ps:=l) (n:=l.length) hv hwl k hla
   subst hpa
   have hR1:=hws k hla
   obtain⟨x,hx⟩:∃x,x=l.getD k []:=⟨_,rfl⟩
   rw [<-hx]at hR1
   have Hx:=Bl.hid hx
   obtain⟨p2,c2,hf2,_,_⟩:=hR1.form
   rw [hf2]at hcell1
   clear hx hla hv hwl hws hR1 hf2 hbl1
   go_wp2_with fail
   refine(wrongB_any p2 x.length c2 wr).mono ?_
   rintro e w1 ⟨rfl,hw1⟩
   subst hw1
   have HE1:=HE
   have Hnx:Hid (∀b,(fun x=> !decide (x.length=16)) x=b->∀y,l[k]? =some y->(fun x=> !decide (x.length=16)) y=b):=Bl.hid fun b hb y hy=>by
    rw [<-hb,Hx.out,List.getD_eq_getElem?_getD,hy];rfl
   have Hat:Hid ((fun x=> !decide (x.length=16)) x=true->l.any (fun x=> !decide (x.length=16))=true):=Bl.hid fun h=>any_at [] Hla.out (by rw [<-Hx.out];exact h)
   obtain⟨b,hb⟩:∃b,b=(!decide (x.length=16)):=⟨_,rfl⟩
   rw [<-hb]
   have Hb:=Bl.hid hb
   clear hb
   cases b
   ·go_wp2_with fail
    go_roundw
    case rel=>exact⟨k+1,by omega,by go_num,HE1.out,Bl.hid fun q y hq hy=>by
     rcases Nat.lt_succ_iff_lt_or_eq.1 hq with g | g
     ·exact Hq.out q y g hy
     ·subst g;exact Hnx.out false Hb.out.symm y hy⟩
    case measure=>simp [intOf];omega
   ·go_wp2_with fail
    go_ret
    exact⟨⟨k,rfl,by rw [Hat.out Hb.out.symm];simp⟩,HE1.out⟩
  ·obtain rfl:k=n:=by omega
   have Hv:Hid (l.any (fun x=> !decide (x.length=16))=false):=Bl.hid (any_drop_none Hq.out (by rw [<-Hn.out];exact Nat.le_refl _))
   go_wp2_with fail
   go_ret
   exact⟨⟨-1,rfl,by rw [Hv.out];rfl⟩,HE.out⟩
theorem hasB_any (v:Value) (l:List (List Int)) (w:World) (h:Rdss w v l):
  Calls Tryz.prog 120 #[v,.func (.func 119) #[] #[]] w fun e w'=>e= .returned (.bool (l.any (fun x=> !decide (x.length=16))))/\Ext w w':=by
 have HC:=Bl.hid (idxB_any v l w h)
 obtain⟨q,hq⟩:∃q,q=l.any (fun x=> !decide (x.length=16)):=⟨_,rfl⟩
 rw [<-hq]at HC⊢
 clear h
 go_enter Tryz.func120,Tryz.ntmps120
 go_wp2_with fail
 refine HC.out.mono ?_
 rintro e w1 ⟨⟨z,rfl,hz⟩,hE⟩
 have HE:=Bl.hid hE
 clear hE
 have Hz:=Bl.hid hz
 clear hz
 go_wp2_with fail
 go_ret
 exact⟨by rw [<-Hz.out];rfl,HE.out⟩
end Go.Proofs.YtglenbikdahgjaaGreatDoor
namespace Go.Proofs.Bl
open Go Go.RowKit
def badP (x:Int):Bool:= !wi x 0 511
def badS (s:Sh):Bool:= !decide (s.2.1.length=16)|| !decide (s.2.2.length<=10)
def badB (b:List Int):Bool:= !decide (b.length=16)
def numT (l:LT):Bool:=
 if l.kind=3 then !l.places.any badP else if l.kind=4 then !l.shown.any (fun s=>badP s.1)else if l.kind=5 then wi l.cnt 1 512&&wi l.frm 0 511 else if l.kind=6 then wi l.frm 0 511 else if l.kind=7 then wi l.code 1 255 else true
def numOk (l:LT):Bool:=wi l.id 0 1099511627776&&wi l.obj 0 1099511627776&&numT l
def sizOk (l:LT):Bool:=
 if l.kind=1\/l.kind=6 then wi l.blocks.length 1 512&& !l.blocks.any badB else if l.kind=3 then wi l.places.length 1 12 else if l.kind=4 then wi l.shown.length 1 12&& !l.shown.any badS else true
def bareL (l:LT):LT:=
 ⟨0,0,0,if l.kind=3 then []else l.places,if l.kind=4 then []else l.shown,if l.kind=5\/l.kind=6 then 0 else l.frm,if l.kind=5 then 0 else l.cnt,if l.kind=1\/l.kind=6 then []else l.blocks,if l.kind=7 then 0 else l.code⟩
def frmOk (l:LT):Bool:=sameL (bareL l) lt0
def shB (s:Sh):List Int:=twoL s.1++s.2.1++[(s.2.2.length:Int)]++s.2.2.flatten
def tailL (l:LT):List Int:=
 if l.kind=6 then twoL l.frm++(twoL l.blocks.length++l.blocks.flatten)else if l.kind=1 then twoL l.blocks.length++l.blocks.flatten else if l.kind=3 then(l.places.length:Int) :: l.places.flatMap twoL else if l.kind=4 then(l.shown.length:Int) :: l.shown.flatMap shB else if l.kind=5 then twoL l.frm++twoL l.cnt else if l.kind=7 then [l.code]else []
def bytL (l:LT):List Int:=l.kind :: (numL l.id++numL l.obj++tailL l)
def chkL (l:LT):Nat:=
 if wi l.kind 1 7=false then 7 else if numOk l=false then 1 else if sizOk l=false then 8 else if frmOk l=false then 4 else if 8000 < (bytL l).length then 3 else 0
theorem badP_not {x:Int} (h:badP x=false):0<=x/\x<=511:=by
 unfold badP at h
 exact wi_iff.1 (by simpa using h)
theorem any_false {α :Type} {p: α ->Bool} {l:List α} (h:(!l.any p)=true):∀x∈l,p x=false:=fun x hx=>by
 have h2:l.any p=false:=by simpa using h
 rw [List.any_eq_false]at h2
 simpa using h2 x hx
theorem mapAny (p:Sh->Bool) (q:Sv->Bool) (hpq:∀x,q x=p (plS x)) (L:List Sv):L.any q=(L.map plS).any p:=by
 rw [List.any_map]
 congr 1
 funext x
 exact hpq x
theorem anyS1 (L:List Sv):(L.any fun x=> !wi x.1 0 511)=(L.map plS).any fun s=>badP s.1:=mapAny (fun s=>badP s.1) (fun x=> !wi x.1 0 511) (fun _=>rfl) L
theorem anyS2 (L:List Sv):(L.any fun x=> !decide (x.2.1.2.length=16)|| !decide (x.2.2.2.length<=10))=(L.map plS).any badS:=mapAny badS (fun x=> !decide (x.2.1.2.length=16)|| !decide (x.2.2.2.length<=10)) (fun _=>rfl) L
theorem OwnB.of_owns {w:World} {v:Value} {B B':Nat} {e:TypeId} {n:Nat} {xs:List Value} {l:List Int} (h:w.ownsRow B' e 1 v n xs) (hB:B<=B') (hx:xs=ints .u8 l):OwnB w v B e n l:=by
 obtain⟨p,c,hf,_,_⟩:=(Rds.of_owns h).form
 subst hx hf
 exact⟨p,c,rfl,owns_mono h hB⟩
theorem SlB.of_rd {w:World} {v:Value} {l:List Int} (h:Rd w .u8 v l):SlB w v l:=by
 obtain⟨p,c,hf,_,_⟩:=h.form;exact⟨p,c,hf,h⟩
theorem rdss_five {w:World} {v1 v2 v3 v4 v5:Value} {l1 l2 l3 l4 l5:List Int} (h1:Rd w .u8 v1 l1) (h2:Rd w .u8 v2 l2) (h3:Rd w .u8 v3 l3) (h4:Rd w .u8 v4 l4) (h5:Rd w .u8 v5 l5) (e:TypeId):Rdss (w.alloc (.cells #[v1,v2,v3,v4,v5] e)) (.slice (some ⟨w.heap.size,0,none⟩) 5 5) [l1,l2,l3,l4,l5]:=by
 refine⟨[v1,v2,v3,v4,v5],.inr ⟨w.heap.size,0,5,rfl,Nat.le_refl _,show 5<=maxLen from by decide,fun j u hu=> ?_⟩,rfl,fun i hi=> ?_⟩
 ·rw [Nat.zero_add,World.cell?_alloc_new];simpa using hu
 ·have hi:i < 5:=hi
  match i,hi with
  | 0,_=>exact h1.ext (ext_alloc _ _)
  | 1,_=>exact h2.ext (ext_alloc _ _)
  | 2,_=>exact h3.ext (ext_alloc _ _)
  | 3,_=>exact h4.ext (ext_alloc _ _)
  | 4,_=>exact h5.ext (ext_alloc _ _)
theorem numOk_id {l:LT} (h:numOk l=true):(0<=l.id/\l.id<=1099511627776)/\(0<=l.obj/\l.obj<=1099511627776)/\numT l=true:=by
 unfold numOk at h
 rw [Bool.and_eq_true,Bool.and_eq_true]at h
 exact⟨wi_iff.1 h.1.1,wi_iff.1 h.1.2,h.2⟩
theorem flat_const {α :Type} (n:Nat):∀(ls:List (List α)),(∀x∈ls,x.length=n)->ls.flatten.length=ls.length*n
 | [],_=>by simp
 | x :: r,h=>by
  have h1:=h x (by simp)
  have h2:=flat_const n r (fun y hy=>h y (List.mem_cons_of_mem _ hy))
  rw [List.flatten_cons,List.length_append,h1,h2,List.length_cons,Nat.add_mul];omega
theorem badB_not {b:List Int} (h:badB b=false):b.length=16:=by
 unfold badB at h;simpa using h
theorem badS_not {s:Sh} (h:badS s=false):s.2.1.length=16/\s.2.2.length<=10:=by
 unfold badS at h;simpa using h
theorem shB_len {s:Sh} (h:badS s=false) (hd:Dig s.2.2):(shB s).length<=339:=by
 obtain⟨h1,h2⟩:=badS_not h
 have h3:=flat_const 32 s.2.2 (fun x hx=>(hd x hx).1)
 unfold shB
 simp only [List.length_append,List.length_singleton,h1,h3]
 have:(twoL s.1).length=2:=rfl
 omega
theorem twos_len (l:List Int):(l.flatMap twoL).length=l.length*2:=by
 induction l with
 | nil=>rfl
 | cons x r ih=>rw [List.flatMap_cons,List.length_append,ih,List.length_cons];have:(twoL x).length=2:=rfl;omega
theorem shs_len (l:List Sh) (h:∀s∈l,badS s=false/\Dig s.2.2):(l.flatMap shB).length<=l.length*339:=by
 induction l with
 | nil=>simp
 | cons x r ih=>
  have h1:=shB_len (h x (by simp)).1 (h x (by simp)).2
  have h2:=ih (fun y hy=>h y (List.mem_cons_of_mem _ hy))
  rw [List.flatMap_cons,List.length_append,List.length_cons];omega
theorem flatMap_take {α β :Type} (d: α) (f: α ->List β) (l:List α) (k:Nat) (h:k < l.length):(l.take (k+1)).flatMap f=(l.take k).flatMap f++f (l.getD k d):=by
 rw [List.getD_eq_getElem?_getD,List.getElem?_eq_getElem h,List.take_succ_eq_append_getElem h,List.flatMap_append];simp
end Go.Proofs.Bl
namespace Go.Proofs.YtglenbikdahgjaaGreatDoor
open Go Go.RowKit Go.Proofs Go.Proofs.Bl
theorem kinds7 {k:Int} (h:1<=k/\k<=7):k=1\/k=2\/k=3\/k=4\/k=5\/k=6\/k=7:=by omega
theorem numbers_any (v:Value) (l:Bl.LT) (w:World) (h:LtV w v l) (hk:1<=l.kind/\l.kind<=7):
  Calls Tryz.prog 69 #[v] w fun e w'=>e= .returned (.bool (numOk l))/\Ext w w':=by
 obtain⟨cs0,vp,vs,vb,L,rfl,hc⟩:=h
 obtain rfl:=hc.eq
 have HC:=Bl.hid hc
 obtain⟨p1,c1,e1,_,_⟩:=hc.pl.form
 obtain⟨p2,c2,e2,_,_⟩:=hc.sh.rd.form
 obtain⟨p3,c3,e3,_,_⟩:=hc.bl.form
 subst e1 e2 e3
 obtain⟨kd,id,oj,pl,sh,fr,ct,bl,cd⟩:=l
 obtain⟨_,hpl,hsh,hsl,hbl,hby⟩:=hc
 simp only at hpl hsh hsl hbl hby hk
 obtain⟨np,hnp⟩:∃np,np=pl.length:=⟨_,rfl⟩
 obtain⟨ns,hns⟩:∃ns,ns=L.length:=⟨_,rfl⟩
 obtain⟨nb,hnb⟩:∃nb,nb=bl.length:=⟨_,rfl⟩
 have Hns:Hid (ns=sh.length):=Bl.hid (by rw [hns,<-hsl,List.length_map])
 have HI:Hid (∀w2,Ext w w2->Calls Tryz.prog 116 #[.slice p1 np c1,.func (.func 114) #[] #[]] w2 fun e w'=>e= .returned (.bool (pl.any badP))/\Ext w2 w'):=Bl.hid fun w2 h2=>by
  have h:=hasI_any _ _ w2 (hpl.ext h2)
  rw [hnp];exact h
 have HS:Hid (∀w2,Ext w w2->Calls Tryz.prog 117 #[.slice p2 ns c2,.func (.func 118) #[] #[]] w2 fun e w'=>e= .returned (.bool (sh.any fun s=>badP s.1))/\Ext w2 w'):=Bl.hid fun w2 h2=>by
  have h:=hasS1_any _ _ w2 (hsh.ext h2)
  rw [anyS1,hsl]at h
  rw [hns];exact h
 rw [<-hnp,<-hns,<-hnb]
 clear hpl hsh hsl hbl hby hnp hns hnb HC Hns
 obtain⟨q1,hq1⟩:∃q,q=wi id 0 1099511627776:=⟨_,rfl⟩
 obtain⟨q2,hq2⟩:∃q,q=wi oj 0 1099511627776:=⟨_,rfl⟩
 obtain⟨q3,hq3⟩:∃q,q=pl.any badP:=⟨_,rfl⟩
 obtain⟨q4,hq4⟩:∃q,q=sh.any fun s=>badP s.1:=⟨_,rfl⟩
 obtain⟨q5,hq5⟩:∃q,q=wi ct 1 512:=⟨_,rfl⟩
 obtain⟨q6,hq6⟩:∃q,q=wi fr 0 511:=⟨_,rfl⟩
 obtain⟨q7,hq7⟩:∃q,q=wi cd 1 255:=⟨_,rfl⟩
 rw [<-hq3]at HI
 rw [<-hq4]at HS
 have Hq:=Bl.hid (And.intro hq1 (And.intro hq2 (And.intro hq5 (And.intro hq6 hq7))))
 have HV:Hid (numOk ⟨kd,id,oj,pl,sh,fr,ct,bl,cd⟩=(q1&&q2&&(if kd=3 then !q3 else if kd=4 then !q4 else if kd=5 then q5&&q6 else if kd=6 then q6 else if kd=7 then q7 else true))):=Bl.hid (by unfold numOk numT;rw [hq1,hq2,hq3,hq4,hq5,hq6,hq7])
 clear hq1 hq2 hq3 hq4 hq5 hq6 hq7
 have Hk:=Bl.hid hk
 clear hk
 rcases kinds7 Hk.out with rfl | rfl | rfl | rfl | rfl | rfl | rfl
 ·have HE0:=Bl.hid (ext_alloc w (.cells #[.int .i64 1,.int .i64 id,.int .i64 oj,.slice p1 np c1,.slice p2 ns c2,.int .i64 fr,.int .i64 ct,.slice p3 nb c3,.int .i64 cd] 26))
  show Calls Tryz.prog 69 #[.agg #[.int .i64 1,.int .i64 id,.int .i64 oj,.slice p1 np c1,.slice p2 ns c2,.int .i64 fr,.int .i64 ct,.slice p3 nb c3,.int .i64 cd]] w _
  go_enter Tryz.func69,Tryz.ntmps69
  go_wp2_with fail
  refine(within_any _ _ _ _).mono ?_
  rintro e w1 ⟨rfl,hw⟩
  subst hw
  rw [<-Hq.out.1]
  cases q1
  ·go_wp2_with fail
   go_ret
   exact⟨by rw [HV.out];rfl,HE0.out⟩
  go_wp2_with fail
  refine(within_any _ _ _ _).mono ?_
  rintro e w1 ⟨rfl,hw⟩
  subst hw
  rw [<-Hq.out.2.1]
  cases q2
  ·go_wp2_with fail
   go_ret
   exact⟨by rw [HV.out];rfl,HE0.out⟩
  go_wp2_with fail
  go_ret
  exact⟨by rw [HV.out];rfl,HE0.out⟩
 ·have HE0:=Bl.hid (ext_alloc w (.cells #[.int .i64 2,.int .i64 id,.int .i64 oj,.slice p1 np c1,.slice p2 ns c2,.int .i64 fr,.int .i64 ct,.slice p3 nb c3,.int .i64 cd] 26))
  show Calls Tryz.prog 69 #[.agg #[.int .i64 2,.int .i64 id,.int .i64 oj,.slice p1 np c1,.slice p2 ns c2,.int .i64 fr,.int .i64 ct,.slice p3 nb c3,.int .i64 cd]] w _
  go_enter Tryz.func69,Tryz.ntmps69
  go_wp2_with fail
  refine(within_any _ _ _ _).mono ?_
  rintro e w1 ⟨rfl,hw⟩
  subst hw
  rw [<-Hq.out.1]
  cases q1
  ·go_wp2_with fail
   go_ret
   exact⟨by rw [HV.out];rfl,HE0.out⟩
  go_wp2_with fail
  refine(within_any _ _ _ _).mono ?_
  rintro e w1 ⟨rfl,hw⟩
  subst hw
  rw [<-Hq.out.2.1]
  cases q2
  ·go_wp2_with fail
   go_ret
   exact⟨by rw [HV.out];rfl,HE0.out⟩
  go_wp2_with fail
  go_ret
  exact⟨by rw [HV.out];rfl,HE0.out⟩
 ·have HE0:=Bl.hid (ext_alloc w (.cells #[.int .i64 3,.int .i64 id,.int .i64 oj,.slice p1 np c1,.slice p2 ns c2,.int .i64 fr,.int .i64 ct,.slice p3 nb c3,.int .i64 cd] 26))
  show Calls Tryz.prog 69 #[.agg #[.int .i64 3,.int .i64 id,.int .i64 oj,.slice p1 np c1,.slice p2 ns c2,.int .i64 fr,.int .i64 ct,.slice p3 nb c3,.int .i64 cd]] w _
  go_enter Tryz.func69,Tryz.ntmps69
  go_wp2_with fail
  refine(within_any _ _ _ _).mono ?_
  rintro e w1 ⟨rfl,hw⟩
  subst hw
  rw [<-Hq.out.1]
  cases q1
  ·go_wp2_with fail
   go_ret
   exact⟨by rw [HV.out];rfl,HE0.out⟩
  go_wp2_with fail
  refine(within_any _ _ _ _).mono ?_
  rintro e w1 ⟨rfl,hw⟩
  subst hw
  rw [<-Hq.out.2.1]
  cases q2
  ·go_wp2_with fail
   go_ret
   exact⟨by rw [HV.out];rfl,HE0.out⟩
  go_wp2_with fail
  refine(HI.out _ HE0.out).mono ?_
  rintro e w1 ⟨rfl,hE1⟩
  have HE1:=Bl.hid (HE0.out.trans hE1)
  clear hE1
  cases q3
  ·go_wp2_with fail
   go_ret
   exact⟨by rw [HV.out];rfl,HE1.out⟩
  go_wp2_with fail
  go_ret
  exact⟨by rw [HV.out];rfl,HE1.out⟩
 ·have HE0:=Bl.hid (ext_alloc w (.cells #[.int .i64 4,.int .i64 id,.int .i64 oj,.slice p1 np c1,.slice p2 ns c2,.int .i64 fr,.int .i64 ct,.slice p3 nb c3,.int .i64 cd] 26))
  show Calls Tryz.prog 69 #[.agg #[.int .i64 4,.int .i64 id,.int .i64 oj,.slice p1 np c1,.slice p2 ns c2,.int .i64 fr,.int .i64 ct,.slice p3 nb c3,.int .i64 cd]] w _
  go_enter Tryz.func69,Tryz.ntmps69
  go_wp2_with fail
  refine(within_any _ _ _ _).mono ?_
  rintro e w1 ⟨rfl,hw⟩
  subst hw
  rw [<-Hq.out.1]
  cases q1
  ·go_wp2_with fail
   go_ret
   exact⟨by rw [HV.out];rfl,HE0.out⟩
  go_wp2_with fail
  refine(within_any _ _ _ _).mono ?_
  rintro e w1 ⟨rfl,hw⟩
  subst hw
  rw [<-Hq.out.2.1]
  cases q2
  ·go_wp2_with fail
   go_ret
   exact⟨by rw [HV.out];rfl,HE0.out⟩
  go_wp2_with fail
  refine(HS.out _ HE0.out).mono ?_
  rintro e w1 ⟨rfl,hE1⟩
  have HE1:=Bl.hid (HE0.out.trans hE1)
  clear hE1
  cases q4
  ·go_wp2_with fail
   go_ret
   exact⟨by rw [HV.out];rfl,HE1.out⟩
  go_wp2_with fail
  go_ret
  exact⟨by rw [HV.out];rfl,HE1.out⟩
 ·have HE0:=Bl.hid (ext_alloc w (.cells #[.int .i64 5,.int .i64 id,.int .i64 oj,.slice p1 np c1,.slice p2 ns c2,.int .i64 fr,.int .i64 ct,.slice p3 nb c3,.int .i64 cd] 26))
  show Calls Tryz.prog 69 #[.agg #[.int .i64 5,.int .i64 id,.int .i64 oj,.slice p1 np c1,.slice p2 ns c2,.int .i64 fr,.int .i64 ct,.slice p3 nb c3,.int .i64 cd]] w _
  go_enter Tryz.func69,Tryz.ntmps69
  go_wp2_with fail
  refine(within_any _ _ _ _).mono ?_
  rintro e w1 ⟨rfl,hw⟩
  subst hw
  rw [<-Hq.out.1]
  cases q1
  ·go_wp2_with fail
   go_ret
   exact⟨by rw [HV.out];rfl,HE0.out⟩
  go_wp2_with fail
  refine(within_any _ _ _ _).mono ?_
  rintro e w1 ⟨rfl,hw⟩
  subst hw
  rw [<-Hq.out.2.1]
  cases q2
  ·go_wp2_with fail
   go_ret
   exact⟨by rw [HV.out];rfl,HE0.out⟩
  go_wp2_with fail
  refine(within_any _ _ _ _).mono ?_
  rintro e w1 ⟨rfl,hw⟩
  subst hw
  rw [<-Hq.out.2.2.1]
  cases q5
  ·go_wp2_with fail
   go_ret
   exact⟨by rw [HV.out];rfl,HE0.out⟩
  go_wp2_with fail
  refine(placed_any _ _).mono ?_
  rintro e w1 ⟨rfl,hw⟩
  subst hw
  rw [<-Hq.out.2.2.2.1]
  cases q6
  ·go_wp2_with fail
   go_ret
   exact⟨by rw [HV.out];rfl,HE0.out⟩
  go_wp2_with fail
  go_ret
  exact⟨by rw [HV.out];rfl,HE0.out⟩
 ·have HE0:=Bl.hid (ext_alloc w (.cells #[.int .i64 6,.int .i64 id,.int .i64 oj,.slice p1 np c1,.slice p2 ns c2,.int .i64 fr,.int .i64 ct,.slice p3 nb c3,.int .i64 cd] 26))
  show Calls Tryz.prog 69 #[.agg #[.int .i64 6,.int .i64 id,.int .i64 oj,.slice p1 np c1,.slice p2 ns c2,.int .i64 fr,.int .i64 ct,.slice p3 nb c3,.int .i64 cd]] w _
  go_enter Tryz.func69,Tryz.ntmps69
  go_wp2_with fail
  refine(within_any _ _ _ _).mono ?_
  rintro e w1 ⟨rfl,hw⟩
  subst hw
  rw [<-Hq.out.1]
  cases q1
  ·go_wp2_with fail
   go_ret
   exact⟨by rw [HV.out];rfl,HE0.out⟩
  go_wp2_with fail
  refine(within_any _ _ _ _).mono ?_
  rintro e w1 ⟨rfl,hw⟩
  subst hw
  rw [<-Hq.out.2.1]
  cases q2
  ·go_wp2_with fail
   go_ret
   exact⟨by rw [HV.out];rfl,HE0.out⟩
  go_wp2_with fail
  refine(placed_any _ _).mono ?_
  rintro e w1 ⟨rfl,hw⟩
  subst hw
  rw [<-Hq.out.2.2.2.1]
  cases q6
  ·go_wp2_with fail
   go_ret
   exact⟨by rw [HV.out];rfl,HE0.out⟩
  go_wp2_with fail
  go_ret
  exact⟨by rw [HV.out];rfl,HE0.out⟩
 ·have HE0:=Bl.hid (ext_alloc w (.cells #[.int .i64 7,.int .i64 id,.int .i64 oj,.slice p1 np c1,.slice p2 ns c2,.int .i64 fr,.int .i64 ct,.slice p3 nb c3,.int .i64 cd] 26))
  show Calls Tryz.prog 69 #[.agg #[.int .i64 7,.int .i64 id,.int .i64 oj,.slice p1 np c1,.slice p2 ns c2,.int .i64 fr,.int .i64 ct,.slice p3 nb c3,.int .i64 cd]] w _
  go_enter Tryz.func69,Tryz.ntmps69
  go_wp2_with fail
  refine(within_any _ _ _ _).mono ?_
  rintro e w1 ⟨rfl,hw⟩
  subst hw
  rw [<-Hq.out.1]
  cases q1
  ·go_wp2_with fail
   go_ret
   exact⟨by rw [HV.out];rfl,HE0.out⟩
  go_wp2_with fail
  refine(within_any _ _ _ _).mono ?_
  rintro e w1 ⟨rfl,hw⟩
  subst hw
  rw [<-Hq.out.2.1]
  cases q2
  ·go_wp2_with fail
   go_ret
   exact⟨by rw [HV.out];rfl,HE0.out⟩
  go_wp2_with fail
  refine(within_any _ _ _ _).mono ?_
  rintro e w1 ⟨rfl,hw⟩
  subst hw
  rw [<-Hq.out.2.2.2.2]
  cases q7
  ·go_wp2_with fail
   go_ret
   exact⟨by rw [HV.out];rfl,HE0.out⟩
  go_wp2_with fail
  go_ret
  exact⟨by rw [HV.out];rfl,HE0.out⟩
theorem sized_any (v:Value) (l:Bl.LT) (w:World) (h:LtV w v l) (hk:1<=l.kind/\l.kind<=7):
  Calls Tryz.prog 70 #[v] w fun e w'=>e= .returned (.bool (sizOk l))/\Ext w w':=by
 obtain⟨cs0,vp,vs,vb,L,rfl,hc⟩:=h
 obtain rfl:=hc.eq
 have HC:=Bl.hid hc
 obtain⟨p1,c1,e1,_,_⟩:=hc.pl.form
 obtain⟨p2,c2,e2,_,_⟩:=hc.sh.rd.form
 obtain⟨p3,c3,e3,_,_⟩:=hc.bl.form
 subst e1 e2 e3
 obtain⟨kd,id,oj,pl,sh,fr,ct,bl,cd⟩:=l
 obtain⟨_,hpl,hsh,hsl,hbl,hby⟩:=hc
 simp only at hpl hsh hsl hbl hby hk
 obtain⟨np,hnp⟩:∃np,np=pl.length:=⟨_,rfl⟩
 obtain⟨ns,hns⟩:∃ns,ns=L.length:=⟨_,rfl⟩
 obtain⟨nb,hnb⟩:∃nb,nb=bl.length:=⟨_,rfl⟩
 have Hns:Hid (ns=sh.length):=Bl.hid (by rw [hns,<-hsl,List.length_map])
 have HB:Hid (∀w2,Ext w w2->Calls Tryz.prog 120 #[.slice p3 nb c3,.func (.func 119) #[] #[]] w2 fun e w'=>e= .returned (.bool (bl.any badB))/\Ext w2 w'):=Bl.hid fun w2 h2=>by
  have h:=hasB_any _ _ w2 (hbl.ext h2)
  rw [hnb];exact h
 have HS:Hid (∀w2,Ext w w2->Calls Tryz.prog 117 #[.slice p2 ns c2,.func (.func 121) #[] #[]] w2 fun e w'=>e= .returned (.bool (sh.any badS))/\Ext w2 w'):=Bl.hid fun w2 h2=>by
  have h:=hasS2_any _ _ w2 (hsh.ext h2)
  rw [anyS2,hsl]at h
  rw [hns];exact h
 rw [<-hnp,<-hns,<-hnb]
 have Hnp:=Bl.hid hnp
 have Hnb:=Bl.hid hnb
 clear hpl hsh hsl hbl hby hnp hns hnb HC
 obtain⟨q1,hq1⟩:∃q,q=wi nb 1 512:=⟨_,rfl⟩
 obtain⟨q2,hq2⟩:∃q,q=bl.any badB:=⟨_,rfl⟩
 obtain⟨q3,hq3⟩:∃q,q=wi np 1 12:=⟨_,rfl⟩
 obtain⟨q4,hq4⟩:∃q,q=wi ns 1 12:=⟨_,rfl⟩
 obtain⟨q5,hq5⟩:∃q,q=sh.any badS:=⟨_,rfl⟩
 rw [<-hq2]at HB
 rw [<-hq5]at HS
 have Hq:=Bl.hid (And.intro hq1 (And.intro hq3 hq4))
 have HV:Hid (sizOk ⟨kd,id,oj,pl,sh,fr,ct,bl,cd⟩=(if kd=1\/kd=6 then q1&& !q2 else if kd=3 then q3 else if kd=4 then q4&& !q5 else true)):=Bl.hid (by unfold sizOk;simp only;rw [<-Hns.out,<-Hnp.out,<-Hnb.out,hq1,hq2,hq3,hq4,hq5])
 clear hq1 hq2 hq3 hq4 hq5
 have Hk:=Bl.hid hk
 clear hk
 rcases kinds7 Hk.out with rfl | rfl | rfl | rfl | rfl | rfl | rfl
 ·have HE0:=Bl.hid (ext_alloc w (.cells #[.int .i64 1,.int .i64 id,.int .i64 oj,.slice p1 np c1,.slice p2 ns c2,.int .i64 fr,.int .i64 ct,.slice p3 nb c3,.int .i64 cd] 26))
  show Calls Tryz.prog 70 #[.agg #[.int .i64 1,.int .i64 id,.int .i64 oj,.slice p1 np c1,.slice p2 ns c2,.int .i64 fr,.int .i64 ct,.slice p3 nb c3,.int .i64 cd]] w _
  go_enter Tryz.func70,Tryz.ntmps70
  go_wp2_with fail
  refine(within_any _ _ _ _).mono ?_
  rintro e w1 ⟨rfl,hw⟩
  subst hw
  rw [<-Hq.out.1]
  cases q1
  ·go_wp2_with fail
   go_ret
   exact⟨by rw [HV.out];rfl,HE0.out⟩
  go_wp2_with fail
  refine(HB.out _ HE0.out).mono ?_
  rintro e w1 ⟨rfl,hE1⟩
  have HE1:=Bl.hid (HE0.out.trans hE1)
  clear hE1
  cases q2
  ·go_wp2_with fail
   go_ret
   exact⟨by rw [HV.out];rfl,HE1.out⟩
  go_wp2_with fail
  go_ret
  exact⟨by rw [HV.out];rfl,HE1.out⟩
 ·have HE0:=Bl.hid (ext_alloc w (.cells #[.int .i64 2,.int .i64 id,.int .i64 oj,.slice p1 np c1,.slice p2 ns c2,.int .i64 fr,.int .i64 ct,.slice p3 nb c3,.int .i64 cd] 26))
  show Calls Tryz.prog 70 #[.agg #[.int .i64 2,.int .i64 id,.int .i64 oj,.slice p1 np c1,.slice p2 ns c2,.int .i64 fr,.int .i64 ct,.slice p3 nb c3,.int .i64 cd]] w _
  go_enter Tryz.func70,Tryz.ntmps70
  go_wp2_with fail
  go_ret
  exact⟨by rw [HV.out];rfl,HE0.out⟩
 ·have HE0:=Bl.hid (ext_alloc w (.cells #[.int .i64 3,.int .i64 id,.int .i64 oj,.slice p1 np c1,.slice p2 ns c2,.int .i64 fr,.int .i64 ct,.slice p3 nb c3,.int .i64 cd] 26))
  show Calls Tryz.prog 70 #[.agg #[.int .i64 3,.int .i64 id,.int .i64 oj,.slice p1 np c1,.slice p2 ns c2,.int .i64 fr,.int .i64 ct,.slice p3 nb c3,.int .i64 cd]] w _
  go_enter Tryz.func70,Tryz.ntmps70
  go_wp2_with fail
  refine(within_any _ _ _ _).mono ?_
  rintro e w1 ⟨rfl,hw⟩
  subst hw
  rw [<-Hq.out.2.1]
  cases q3
  ·go_wp2_with fail
   go_ret
   exact⟨by rw [HV.out];rfl,HE0.out⟩
  go_wp2_with fail
  go_ret
  exact⟨by rw [HV.out];rfl,HE0.out⟩
 ·have HE0:=Bl.hid (ext_alloc w (.cells #[.int .i64 4,.int .i64 id,.int .i64 oj,.slice p1 np c1,.slice p2 ns c2,.int .i64 fr,.int .i64 ct,.slice p3 nb c3,.int .i64 cd] 26))
  show Calls Tryz.prog 70 #[.agg #[.int .i64 4,.int .i64 id,.int .i64 oj,.slice p1 np c1,.slice p2 ns c2,.int .i64 fr,.int .i64 ct,.slice p3 nb c3,.int .i64 cd]] w _
  go_enter Tryz.func70,Tryz.ntmps70
  go_wp2_with fail
  refine(within_any _ _ _ _).mono ?_
  rintro e w1 ⟨rfl,hw⟩
  subst hw
  rw [<-Hq.out.2.2]
  cases q4
  ·go_wp2_with fail
   go_ret
   exact⟨by rw [HV.out];rfl,HE0.out⟩
  go_wp2_with fail
  refine(HS.out _ HE0.out).mono ?_
  rintro e w1 ⟨rfl,hE1⟩
  have HE1:=Bl.hid (HE0.out.trans hE1)
  clear hE1
  cases q5
  ·go_wp2_with fail
   go_ret
   exact⟨by rw [HV.out];rfl,HE1.out⟩
  go_wp2_with fail
  go_ret
  exact⟨by rw [HV.out];rfl,HE1.out⟩
 ·have HE0:=Bl.hid (ext_alloc w (.cells #[.int .i64 5,.int .i64 id,.int .i64 oj,.slice p1 np c1,.slice p2 ns c2,.int .i64 fr,.int .i64 ct,.slice p3 nb c3,.int .i64 cd] 26))
  show Calls Tryz.prog 70 #[.agg #[.int .i64 5,.int .i64 id,.int .i64 oj,.slice p1 np c1,.slice p2 ns c2,.int .i64 fr,.int .i64 ct,.slice p3 nb c3,.int .i64 cd]] w _
  go_enter Tryz.func70,Tryz.ntmps70
  go_wp2_with fail
  go_ret
  exact⟨by rw [HV.out];rfl,HE0.out⟩
 ·have HE0:=Bl.hid (ext_alloc w (.cells #[.int .i64 6,.int .i64 id,.int .i64 oj,.slice p1 np c1,.slice p2 ns c2,.int .i64 fr,.int .i64 ct,.slice p3 nb c3,.int .i64 cd] 26))
  show Calls Tryz.prog 70 #[.agg #[.int .i64 6,.int .i64 id,.int .i64 oj,.slice p1 np c1,.slice p2 ns c2,.int .i64 fr,.int .i64 ct,.slice p3 nb c3,.int .i64 cd]] w _
  go_enter Tryz.func70,Tryz.ntmps70
  go_wp2_with fail
  refine(within_any _ _ _ _).mono ?_
  rintro e w1 ⟨rfl,hw⟩
  subst hw
  rw [<-Hq.out.1]
  cases q1
  ·go_wp2_with fail
   go_ret
   exact⟨by rw [HV.out];rfl,HE0.out⟩
  go_wp2_with fail
  refine(HB.out _ HE0.out).mono ?_
  rintro e w1 ⟨rfl,hE1⟩
  have HE1:=Bl.hid (HE0.out.trans hE1)
  clear hE1
  cases q2
  ·go_wp2_with fail
   go_ret
   exact⟨by rw [HV.out];rfl,HE1.out⟩
  go_wp2_with fail
  go_ret
  exact⟨by rw [HV.out];rfl,HE1.out⟩
 ·have HE0:=Bl.hid (ext_alloc w (.cells #[.int .i64 7,.int .i64 id,.int .i64 oj,.slice p1 np c1,.slice p2 ns c2,.int .i64 fr,.int .i64 ct,.slice p3 nb c3,.int .i64 cd] 26))
  show Calls Tryz.prog 70 #[.agg #[.int .i64 7,.int .i64 id,.int .i64 oj,.slice p1 np c1,.slice p2 ns c2,.int .i64 fr,.int .i64 ct,.slice p3 nb c3,.int .i64 cd]] w _
  go_enter Tryz.func70,Tryz.ntmps70
  go_wp2_with fail
  go_ret
  exact⟨by rw [HV.out];rfl,HE0.out⟩
end Go.Proofs.YtglenbikdahgjaaGreatDoor
namespace Go.Proofs.Bl
open Go Go.RowKit
theorem box2 (w:World) (A R:List Value) (e1 e2:TypeId) (hne:R≠[]):BoxC ((w.alloc (.cells A.toArray e1)).alloc (.cells R.toArray e2)) (w.heap.size+1) R:=by
 have h:=BoxC.box (w.alloc (.cells A.toArray e1)) e2 hne
 rw [World.size_alloc]at h
 exact h
end Go.Proofs.Bl
namespace Go.Proofs.YtglenbikdahgjaaGreatDoor
open Go Go.RowKit Go.Proofs Go.Proofs.Bl
theorem bare_any (v:Value) (l:Bl.LT) (w:World) (h:LtV w v l) (hk:1<=l.kind/\l.kind<=7):
  Calls Tryz.prog 72 #[v] w fun e w'=>∃v',e= .returned v'/\LtV w' v' (bareL l)/\Ext w w':=by
 obtain⟨cs0,vp,vs,vb,L,rfl,hc⟩:=h
 obtain rfl:=hc.eq
 obtain⟨kd,id,oj,pl,sh,fr,ct,bl,cd⟩:=l
 obtain⟨p1,c1,e1,_,_⟩:=hc.pl.form
 obtain⟨p2,c2,e2,_,_⟩:=hc.sh.rd.form
 obtain⟨p3,c3,e3,_,_⟩:=hc.bl.form
 have Hpl:Hid (Rd w .i64 vp pl):=Bl.hid hc.pl
 have Hsh:=Bl.hid hc.sh
 have Hsl:Hid (L.map plS=sh):=Bl.hid hc.sl
 have Hbl:Hid (Rdss w vb bl):=Bl.hid hc.bl
 have Hby:Hid (∀b∈bl,Byt b):=Bl.hid hc.by'
 simp only at e1 e2 e3 hk
 subst e1 e2 e3
 clear hc
 obtain⟨np,hnp⟩:∃np,np=pl.length:=⟨_,rfl⟩
 obtain⟨ns,hns⟩:∃ns,ns=L.length:=⟨_,rfl⟩
 obtain⟨nb,hnb⟩:∃nb,nb=bl.length:=⟨_,rfl⟩
 rw [<-hnp]at Hpl⊢
 rw [<-hns]at Hsh⊢
 rw [<-hnb]at Hbl⊢
 clear hnp hns hnb
 have Hk:=Bl.hid hk
 clear hk
 rcases kinds7 Hk.out with rfl | rfl | rfl | rfl | rfl | rfl | rfl
 ·show Calls Tryz.prog 72 #[.agg #[.int .i64 1,.int .i64 id,.int .i64 oj,.slice p1 np c1,.slice p2 ns c2,.int .i64 fr,.int .i64 ct,.slice p3 nb c3,.int .i64 cd]] w _
  have HEf:Hid (∀A R,Ext w ((w.alloc (.cells A 26)).alloc (.cells R 26))):=Bl.hid fun A R=>(ext_alloc _ _).trans (ext_alloc _ _)
  go_enter Tryz.func72,Tryz.ntmps72
  go_wp2_with fail
  refine bodyPost_ret (v:= .agg ([.int .i64 0,.int .i64 0,.int .i64 0,.slice p1 np c1,.slice p2 ns c2,.int .i64 fr,.int .i64 ct,.slice none 0 0,.int .i64 cd]:List Value).toArray) (results_cell rfl rfl ((box2 w _ [.int .i64 0,.int .i64 0,.int .i64 0,.slice p1 np c1,.slice p2 ns c2,.int .i64 fr,.int .i64 ct,.slice none 0 0,.int .i64 cd] _ _ (fun h=>by cases h)).loadVar (P:=Tryz.prog) Tryz.underlying26 rfl (by kernel_rfl))) rfl ⟨_,rfl,⟨_,.slice p1 np c1,.slice p2 ns c2,.slice none 0 0,L,rfl,rfl,?_,?_,?_,?_,?_⟩,HEf.out _ _⟩
  ·exact Hpl.out.ext (HEf.out _ _)
  ·exact Hsh.out.ext (HEf.out _ _)
  ·exact Hsl.out
  ·exact Rdss.nil _
  ·exact fun b hb=>by cases hb
 ·show Calls Tryz.prog 72 #[.agg #[.int .i64 2,.int .i64 id,.int .i64 oj,.slice p1 np c1,.slice p2 ns c2,.int .i64 fr,.int .i64 ct,.slice p3 nb c3,.int .i64 cd]] w _
  have HEf:Hid (∀A R,Ext w ((w.alloc (.cells A 26)).alloc (.cells R 26))):=Bl.hid fun A R=>(ext_alloc _ _).trans (ext_alloc _ _)
  go_enter Tryz.func72,Tryz.ntmps72
  go_wp2_with fail
  refine bodyPost_ret (v:= .agg ([.int .i64 0,.int .i64 0,.int .i64 0,.slice p1 np c1,.slice p2 ns c2,.int .i64 fr,.int .i64 ct,.slice p3 nb c3,.int .i64 cd]:List Value).toArray) (results_cell rfl rfl ((box2 w _ [.int .i64 0,.int .i64 0,.int .i64 0,.slice p1 np c1,.slice p2 ns c2,.int .i64 fr,.int .i64 ct,.slice p3 nb c3,.int .i64 cd] _ _ (fun h=>by cases h)).loadVar (P:=Tryz.prog) Tryz.underlying26 rfl (by kernel_rfl))) rfl ⟨_,rfl,⟨_,.slice p1 np c1,.slice p2 ns c2,.slice p3 nb c3,L,rfl,rfl,?_,?_,?_,?_,?_⟩,HEf.out _ _⟩
  ·exact Hpl.out.ext (HEf.out _ _)
  ·exact Hsh.out.ext (HEf.out _ _)
  ·exact Hsl.out
  ·exact Hbl.out.ext (HEf.out _ _)
  ·exact Hby.out
 ·show Calls Tryz.prog 72 #[.agg #[.int .i64 3,.int .i64 id,.int .i64 oj,.slice p1 np c1,.slice p2 ns c2,.int .i64 fr,.int .i64 ct,.slice p3 nb c3,.int .i64 cd]] w _
  have HEf:Hid (∀A R,Ext w ((w.alloc (.cells A 26)).alloc (.cells R 26))):=Bl.hid fun A R=>(ext_alloc _ _).trans (ext_alloc _ _)
  go_enter Tryz.func72,Tryz.ntmps72
  go_wp2_with fail
  refine bodyPost_ret (v:= .agg ([.int .i64 0,.int .i64 0,.int .i64 0,.slice none 0 0,.slice p2 ns c2,.int .i64 fr,.int .i64 ct,.slice p3 nb c3,.int .i64 cd]:List Value).toArray) (results_cell rfl rfl ((box2 w _ [.int .i64 0,.int .i64 0,.int .i64 0,.slice none 0 0,.slice p2 ns c2,.int .i64 fr,.int .i64 ct,.slice p3 nb c3,.int .i64 cd] _ _ (fun h=>by cases h)).loadVar (P:=Tryz.prog) Tryz.underlying26 rfl (by kernel_rfl))) rfl ⟨_,rfl,⟨_,.slice none 0 0,.slice p2 ns c2,.slice p3 nb c3,L,rfl,rfl,?_,?_,?_,?_,?_⟩,HEf.out _ _⟩
  ·exact Rd.nil _ _
  ·exact Hsh.out.ext (HEf.out _ _)
  ·exact Hsl.out
  ·exact Hbl.out.ext (HEf.out _ _)
  ·exact Hby.out
 ·show Calls Tryz.prog 72 #[.agg #[.int .i64 4,.int .i64 id,.int .i64 oj,.slice p1 np c1,.slice p2 ns c2,.int .i64 fr,.int .i64 ct,.slice p3 nb c3,.int .i64 cd]] w _
  have HEf:Hid (∀A R,Ext w ((w.alloc (.cells A 26)).alloc (.cells R 26))):=Bl.hid fun A R=>(ext_alloc _ _).trans (ext_alloc _ _)
  go_enter Tryz.func72,Tryz.ntmps72
  go_wp2_with fail
  refine bodyPost_ret (v:= .agg ([.int .i64 0,.int .i64 0,.int .i64 0,.slice p1 np c1,.slice none 0 0,.int .i64 fr,.int .i64 ct,.slice p3 nb c3,.int .i64 cd]:List Value).toArray) (results_cell rfl rfl ((box2 w _ [.int .i64 0,.int .i64 0,.int .i64 0,.slice p1 np c1,.slice none 0 0,.int .i64 fr,.int .i64 ct,.slice p3 nb c3,.int .i64 cd] _ _ (fun h=>by cases h)).loadVar (P:=Tryz.prog) Tryz.underlying26 rfl (by kernel_rfl))) rfl ⟨_,rfl,⟨_,.slice p1 np c1,.slice none 0 0,.slice p3 nb c3,[],rfl,rfl,?_,?_,?_,?_,?_⟩,HEf.out _ _⟩
  ·exact Hpl.out.ext (HEf.out _ _)
  ·exact RdS.nil _
  ·exact rfl
  ·exact Hbl.out.ext (HEf.out _ _)
  ·exact Hby.out
 ·show Calls Tryz.prog 72 #[.agg #[.int .i64 5,.int .i64 id,.int .i64 oj,.slice p1 np c1,.slice p2 ns c2,.int .i64 fr,.int .i64 ct,.slice p3 nb c3,.int .i64 cd]] w _
  have HEf:Hid (∀A R,Ext w ((w.alloc (.cells A 26)).alloc (.cells R 26))):=Bl.hid fun A R=>(ext_alloc _ _).trans (ext_alloc _ _)
  go_enter Tryz.func72,Tryz.ntmps72
  go_wp2_with fail
  refine bodyPost_ret (v:= .agg ([.int .i64 0,.int .i64 0,.int .i64 0,.slice p1 np c1,.slice p2 ns c2,.int .i64 0,.int .i64 0,.slice p3 nb c3,.int .i64 cd]:List Value).toArray) (results_cell rfl rfl ((box2 w _ [.int .i64 0,.int .i64 0,.int .i64 0,.slice p1 np c1,.slice p2 ns c2,.int .i64 0,.int .i64 0,.slice p3 nb c3,.int .i64 cd] _ _ (fun h=>by cases h)).loadVar (P:=Tryz.prog) Tryz.underlying26 rfl (by kernel_rfl))) rfl ⟨_,rfl,⟨_,.slice p1 np c1,.slice p2 ns c2,.slice p3 nb c3,L,rfl,rfl,?_,?_,?_,?_,?_⟩,HEf.out _ _⟩
  ·exact Hpl.out.ext (HEf.out _ _)
  ·exact Hsh.out.ext (HEf.out _ _)
  ·exact Hsl.out
  ·exact Hbl.out.ext (HEf.out _ _)
  ·exact Hby.out
 ·show Calls Tryz.prog 72 #[.agg #[.int .i64 6,.int .i64 id,.int .i64 oj,.slice p1 np c1,.slice p2 ns c2,.int .i64 fr,.int .i64 ct,.slice p3 nb c3,.int .i64 cd]] w _
  have HEf:Hid (∀A R,Ext w ((w.alloc (.cells A 26)).alloc (.cells R 26))):=Bl.hid fun A R=>(ext_alloc _ _).trans (ext_alloc _ _)
  go_enter Tryz.func72,Tryz.ntmps72
  go_wp2_with fail
  refine bodyPost_ret (v:= .agg ([.int .i64 0,.int .i64 0,.int .i64 0,.slice p1 np c1,.slice p2 ns c2,.int .i64 0,.int .i64 ct,.slice none 0 0,.int .i64 cd]:List Value).toArray) (results_cell rfl rfl ((box2 w _ [.int .i64 0,.int .i64 0,.int .i64 0,.slice p1 np c1,.slice p2 ns c2,.int .i64 0,.int .i64 ct,.slice none 0 0,.int .i64 cd] _ _ (fun h=>by cases h)).loadVar (P:=Tryz.prog) Tryz.underlying26 rfl (by kernel_rfl))) rfl ⟨_,rfl,⟨_,.slice p1 np c1,.slice p2 ns c2,.slice none 0 0,L,rfl,rfl,?_,?_,?_,?_,?_⟩,HEf.out _ _⟩
  ·exact Hpl.out.ext (HEf.out _ _)
  ·exact Hsh.out.ext (HEf.out _ _)
  ·exact Hsl.out
  ·exact Rdss.nil _
  ·exact fun b hb=>by cases hb
 ·show Calls Tryz.prog 72 #[.agg #[.int .i64 7,.int .i64 id,.int .i64 oj,.slice p1 np c1,.slice p2 ns c2,.int .i64 fr,.int .i64 ct,.slice p3 nb c3,.int .i64 cd]] w _
  have HEf:Hid (∀A R,Ext w ((w.alloc (.cells A 26)).alloc (.cells R 26))):=Bl.hid fun A R=>(ext_alloc _ _).trans (ext_alloc _ _)
  go_enter Tryz.func72,Tryz.ntmps72
  go_wp2_with fail
  refine bodyPost_ret (v:= .agg ([.int .i64 0,.int .i64 0,.int .i64 0,.slice p1 np c1,.slice p2 ns c2,.int .i64 fr,.int .i64 ct,.slice p3 nb c3,.int .i64 0]:List Value).toArray) (results_cell rfl rfl ((box2 w _ [.int .i64 0,.int .i64 0,.int .i64 0,.slice p1 np c1,.slice p2 ns c2,.int .i64 fr,.int .i64 ct,.slice p3 nb c3,.int .i64 0] _ _ (fun h=>by cases h)).loadVar (P:=Tryz.prog) Tryz.underlying26 rfl (by kernel_rfl))) rfl ⟨_,rfl,⟨_,.slice p1 np c1,.slice p2 ns c2,.slice p3 nb c3,L,rfl,rfl,?_,?_,?_,?_,?_⟩,HEf.out _ _⟩
  ·exact Hpl.out.ext (HEf.out _ _)
  ·exact Hsh.out.ext (HEf.out _ _)
  ·exact Hsl.out
  ·exact Hbl.out.ext (HEf.out _ _)
  ·exact Hby.out
end Go.Proofs.YtglenbikdahgjaaGreatDoor
namespace Go.Proofs.Bl
open Go Go.RowKit
theorem Rd.of_owns1 {w:World} {B e n:Nat} {v:Value} {l:List Int} (h:w.ownsRow B e 1 v n (ints .u8 l)):Rd w .u8 v l:=by
 have h1:=h.1
 rw [ints_length,Nat.mul_one]at h1
 subst h1
 exact Rds.of_owns h
end Go.Proofs.Bl
namespace Go.Proofs.YtglenbikdahgjaaGreatDoor
open Go Go.RowKit Go.Proofs Go.Proofs.Bl
theorem two2_any (x:Int) (w:World) (h0:0<=x) (h1:x<=65535):
  Calls Tryz.prog 102 #[.int .i64 x] w fun e w'=>∃p c,e= .returned (.slice p 2 c)/\Rds w' (.slice p 2 c) 2 (ints .u8 (twoL x))/\Ext w w':=
 (two_any x w h0 h1).mono fun _ _ ⟨_,h1,⟨p,c,h2,h3⟩,h4⟩=>⟨p,c,by rw [h1,h2];rfl,by rw [h2]at h3;exact h3,h4⟩
theorem conc17 (v:Value) (k a b:Int) (w:World) (B:Nat) (h:Rdss w v [[k],numL a,numL b]) (hB:B<=w.heap.size):
  Calls Tryz.prog 100 #[v] w fun e w'=>∃v',e= .returned v'/\OwnB w' v' B 5 17 (k :: (numL a++numL b))/\Ext w w':=by
 have e1: [[k],numL a,numL b].flatten=k :: (numL a++numL b):=by simp
 have e2:(k :: (numL a++numL b)).length=17:=rfl
 refine(concB_own v _ w h (by rw [e1,e2];decide) (by rw [e1,e2];decide)).mono fun e w' ⟨v',h1,h2,h3⟩=>⟨v',h1,?_,h3⟩
 rw [e1,e2]at h2
 exact OwnB.of_owns h2 hB rfl
theorem bytes_any (v:Value) (l:Bl.LT) (w:World) (h:LtV w v l) (hk:1<=l.kind/\l.kind<=7) (hn:numOk l=true) (hz:sizOk l=true):
  Calls Tryz.prog 59 #[v] w fun e w'=>∃v',e= .returned v'/\Rd w' .u8 v' (bytL l)/\Ext w w':=by
 obtain⟨cs0,vp,vs,vb,L,rfl,hc⟩:=h
 obtain rfl:=hc.eq
 obtain⟨hid,hoj,hnt⟩:=numOk_id hn
 obtain⟨kd,id,oj,pl,sh,fr,ct,bl,cd⟩:=l
 obtain⟨p1,c1,e1,hc1,hm1⟩:=hc.pl.form
 obtain⟨p2,c2,e2,hc2,hm2⟩:=hc.sh.rd.form
 obtain⟨p3,c3,e3,_,_⟩:=hc.bl.form
 have Hpl:Hid (Rd w .i64 vp pl):=Bl.hid hc.pl
 have Hsh:=Bl.hid hc.sh
 have Hsl:Hid (L.map plS=sh):=Bl.hid hc.sl
 have Hbl:Hid (Rdss w vb bl):=Bl.hid hc.bl
 simp only at e1 e2 e3 hk hid hoj hc1
 subst e1 e2 e3
 clear hc hn
 unfold maxLen at hm1 hm2
 obtain⟨np,hnp⟩:∃np,np=pl.length:=⟨_,rfl⟩
 obtain⟨ns,hns⟩:∃ns,ns=L.length:=⟨_,rfl⟩
 obtain⟨nb,hnb⟩:∃nb,nb=bl.length:=⟨_,rfl⟩
 have Hnp:=Bl.hid hnp
 have Hns:=Bl.hid hns
 have Hnb:=Bl.hid hnb
 rw [<-hnp]at Hpl hc1⊢
 rw [<-hns]at Hsh hc2⊢
 rw [<-hnb]at Hbl⊢
 clear hnp hns hnb
 have Hnt:=Bl.hid hnt
 have Hz:=Bl.hid hz
 clear hnt hz
 obtain⟨W0,hW0⟩:∃W0,W0=w.alloc (.cells #[.int .i64 kd,.int .i64 id,.int .i64 oj,.slice p1 np c1,.slice p2 ns c2,.int .i64 fr,.int .i64 ct,.slice p3 nb c3,.int .i64 cd] 26):=⟨_,rfl⟩
 have HE0:Hid (Ext w W0):=Bl.hid (by rw [hW0];exact ext_alloc _ _)
 have HB:Hid (BoxC W0 w.heap.size (cL ⟨kd,id,oj,pl,sh,fr,ct,bl,cd⟩ (.slice p1 np c1) (.slice p2 ns c2) (.slice p3 nb c3))):=Bl.hid (by rw [hW0];exact BoxC.box w 26 (cs:=(cL ⟨kd,id,oj,pl,sh,fr,ct,bl,cd⟩ (.slice p1 np c1) (.slice p2 ns c2) (.slice p3 nb c3))) (fun h=>by cases h))
 have Hs0:Hid (w.heap.size+1<=W0.heap.size):=Bl.hid (by rw [hW0];simp)
 show Calls Tryz.prog 59 #[.agg #[.int .i64 kd,.int .i64 id,.int .i64 oj,.slice p1 np c1,.slice p2 ns c2,.int .i64 fr,.int .i64 ct,.slice p3 nb c3,.int .i64 cd]] w _
 obtain⟨hk1,hk2⟩:=hk
 obtain⟨hi1,hi2⟩:=hid
 obtain⟨hj1,hj2⟩:=hoj
 have Hcl:Hid (0 < [[kd],numL id,numL oj].flatten.length/\[[kd],numL id,numL oj].flatten.length<=1099511627776):=Bl.hid ⟨by simp,by simp [numL]⟩
 have hwk:IntKind.u8.wrap kd=kd:=IntWalk.u8_in _ (by omega)
 go_enter Tryz.func59,Tryz.ntmps59
 go_wp2_with fail
 rw [<-hW0]
 clear hW0
 apply wp_region_ev 12 [8,9,10,11,12,13,14,15,16,17,18,19] [eqv _,eqv _,eqv _,(fun v w'=>SlB w' v [kd]),eqv _,eqv _,(fun v w'=>SlB w' v (numL id)),eqv _,eqv _,(fun v w'=>SlB w' v (numL oj)),(fun v w'=>Rdss w' v [[kd],numL id,numL oj]),(fun v w'=>OwnB w' v (w.heap.size+1) 5 17 (kd :: (numL id++numL oj)))] (by kernel_rfl) (by kernel_rfl) (by kernel_rfl) (by kernel_rfl)
 case hsteps=>
  refine⟨?_,?_,?_,?_,?_,?_,?_,?_,?_,?_,?_,?_,trivial⟩
  all_goals
   intro ev w1 hext hb hd
   have e1:=hb 1 (by decide)
   clear hb
   simp only [Qa,Qb,Q1,Bl.Q2,Qd]at e1
   simp only [DepsE,Q1,Bl.Q2,Qc,Q3,Q4,eqv,and_true]at hd
   have hc:=(bcell hext).1
   have q0:=(HB.out.ext hext).cell (i:=0) rfl
   have q1:=(HB.out.ext hext).cell (i:=1) rfl
   have q2:=(HB.out.ext hext).cell (i:=2) rfl
   try (obtain⟨⟨p5,c5,h5,h5r⟩,⟨p6,c6,h6,h6r⟩,⟨p7,c7,h7,h7r⟩⟩:=hd;rw [h5]at h5r;rw [h6]at h6r;rw [h7]at h7r)
   simp only [Bl.Good,Region.wanted,if_true]
   go_simp
   first | exact⟨ext_alloc _ _,slB_one _ _ _⟩ | exact⟨ext_alloc _ _,rdss_three h5r h6r h7r _⟩ | (go_at_call 101;(with_reducible refine(number_any id _ hi1 hi2).mono ?_);rintro e w2 ⟨v',rfl,h1,h2⟩;exact⟨_,rfl,h2,h1⟩) | (go_at_call 101;(with_reducible refine(number_any oj _ hj1 hj2).mono ?_);rintro e w2 ⟨v',rfl,h1,h2⟩;exact⟨_,rfl,h2,h1⟩) | (go_at_call 100;(with_reducible refine(conc17 _ kd id oj _ (w.heap.size+1) (by first | exact hd | exact hd.1) (Nat.le_trans Hs0.out hext.size)).mono ?_);rintro e w2 ⟨v',rfl,h1,h2⟩;exact⟨_,rfl,h2,h1⟩) | exact⟨Below.refl _ _,rfl⟩
 case hmono=>exact⟨mono_eqv _,mono_eqv _,mono_eqv _,(fun _ _ _ h k=>SlB.ext h k),mono_eqv _,mono_eqv _,(fun _ _ _ h k=>SlB.ext h k),mono_eqv _,mono_eqv _,(fun _ _ _ h k=>SlB.ext h k),(fun _ _ _ h k=>Rdss.ext h k),(fun _ _ _ h k=>OwnB.ext h k),trivial⟩
 case hend=>
  intro u w1 hext hend
  simp only [EndE,Q1,Bl.Q2,Qc,Q3,Q4,eqv,true_and]at hend
  simp only [fillAct,Q5,Q6,Q7,Q8,Q9,hend]
  obtain⟨p19,c19,hv19,hown19⟩:OwnB w1 (u 19) (w.heap.size+1) 5 17 (kd :: (numL id++numL oj)):=(by first | ((repeat(first | exact hend | exact hend.2 | replace hend:=hend.1));done) | (repeat(first | exact hend | exact hend.1 | replace hend:=hend.2)))
  rw [hv19]at hown19⊢
  have HE1:=Bl.hid (HE0.out.trans hext)
  have HB1:=Bl.hid (HB.out.ext hext)
  have Hown1:=Bl.hid hown19
  clear hend hext hv19 hown19 HB hwk
  have q0:=HB1.out.cell (i:=0) rfl
  rcases kinds7 ⟨hk1,hk2⟩with rfl | rfl | rfl | rfl | rfl | rfl | rfl
  ·have hnb1:Hid ((1<=nb/\nb<=512)/\∀b∈bl,badB b=false):=Bl.hid (by
    have h:(wi bl.length 1 512&& !bl.any badB)=true:=Hz.out
    rw [Bool.and_eq_true]at h
    have h1:=wi_iff.1 h.1
    exact⟨by have:=Hnb.out;omega,any_false h.2⟩)
   have hb1:(nb:Int)<=512:=by have:=hnb1.out.1.2;omega
   have hb0:(0:Int)<=(nb:Int):=by omega
   have Hfl:Hid (bl.flatten.length=nb*16):=Bl.hid (by rw [Hnb.out];exact flat_const 16 bl (fun x hx=>badB_not (hnb1.out.2 x hx)))
   have HV:Hid (bytL ⟨1,id,oj,pl,sh,fr,ct,bl,cd⟩=1 :: (numL id++numL oj)++twoL nb++bl.flatten):=Bl.hid (by unfold bytL tailL;simp [Hnb.out])
   have q7:=HB1.out.cell (i:=7) rfl
   go_wp2_with fail
   refine(two2_any (nb:Int) w1 hb0 (by omega)).mono ?_
   rintro e wa ⟨pa,ca,rfl,hra,hEa⟩
   have HEa:=Bl.hid (HE1.out.trans hEa)
   have HBa:=Bl.hid (HB1.out.ext hEa)
   have Howna:=Bl.hid (owns_ext Hown1.out hEa)
   have Hra:=Bl.hid hra
   clear hEa hra q7 q0
   go_wp2_with (with_reducible refine stop_append ?_)
   refine go_on ?_
   refine wpL_app tBytes Howna.out Hra.out rfl rfl rfl (ints_one _ _) (show 17+2<=maxLen by decide) (show(17+2)*1<=140737488355328 by decide) HBa.out.lt ?_
   intro p12 c12 w2 hown hg hB hK hn hc
   rw [<-ints_append]at hown
   have Hown2:=Bl.hid hown
   have HE2:Hid (Ext w w2):=Bl.hid (Below.trans HEa.out (hB.mono (Nat.le_succ _)))
   have HB2:=Bl.hid (HBa.out.grown hg (fun q=>absurd (Howna.out.lt _ q).1 (Nat.not_succ_le_self _)))
   clear hown hg hB hK hn hc
   clear HEa HBa Howna Hra
   have q7:=HB2.out.cell (i:=7) rfl
   go_wp2_with fail
   refine(concB_any (.slice p3 nb c3) bl w2 (Hbl.out.ext HE2.out) (by rw [Hfl.out];have:=hnb1.out.1.1;omega) (by rw [Hfl.out];have:=hnb1.out.1.2;omega)).mono ?_
   rintro e wa ⟨va,rfl,hra,hEa⟩
   obtain⟨pa,ca,hfa,_,_⟩:=hra.form
   subst hfa
   obtain⟨M,hM⟩:∃M,M=bl.flatten.length:=⟨_,rfl⟩
   have HM:=Bl.hid hM
   have hM2:M<=8192:=by rw [hM,Hfl.out];have:=hnb1.out.1.2;omega
   have hra2:Rds wa (.slice pa M ca) M (ints .u8 bl.flatten):=by rw [hM];exact hra
   rw [<-hM]
   have HEa:=Bl.hid (HE2.out.trans hEa)
   have HBa:=Bl.hid (HB2.out.ext hEa)
   have Howna:=Bl.hid (owns_ext Hown2.out hEa)
   have Hra:=Bl.hid hra2
   clear hEa hra hra2 hM q7
   go_wp2_with (with_reducible refine stop_append ?_)
   refine go_on ?_
   refine wpL_app tBytes Howna.out Hra.out rfl rfl (by rw [ints_length,<-HM.out,Nat.mul_one]) (ints_one _ _) (by unfold maxLen;omega) (by omega) HBa.out.lt ?_
   intro p13 c13 w3 hown hg hB hK hn hc
   rw [<-ints_append]at hown
   have Hown3:=Bl.hid hown
   have HE3:Hid (Ext w w3):=Bl.hid (Below.trans HEa.out (hB.mono (Nat.le_succ _)))
   have HB3:=Bl.hid (HBa.out.grown hg (fun q=>absurd (Howna.out.lt _ q).1 (Nat.not_succ_le_self _)))
   clear hown hg hB hK hn hc
   go_wp2_with fail
   go_ret
   refine⟨_,rfl,?_,HE3.out⟩
   rw [HV.out]
   exact Rd.of_owns1 Hown3.out
  ·have HV:Hid (bytL ⟨2,id,oj,pl,sh,fr,ct,bl,cd⟩=2 :: (numL id++numL oj)):=Bl.hid (by unfold bytL tailL;simp [])
   go_wp2_with fail
   go_ret
   refine⟨_,rfl,?_,HE1.out⟩
   rw [HV.out]
   exact Rd.of_owns1 Hown1.out
  ·have hnp1:Hid ((1<=np/\np<=12)/\∀x∈pl,badP x=false):=Bl.hid (by
    have h:wi pl.length 1 12=true:=Hz.out
    have h1:=wi_iff.1 h
    exact⟨by have:=Hnp.out;omega,any_false Hnt.out⟩)
   have hb1:(np:Int)<=12:=by have:=hnp1.out.1.2;omega
   have hb0:(0:Int)<=(np:Int):=by omega
   have HV:Hid (bytL ⟨3,id,oj,pl,sh,fr,ct,bl,cd⟩=3 :: (numL id++numL oj)++[(np:Int)]++pl.flatMap twoL):=Bl.hid (by unfold bytL tailL;simp [Hnp.out])
   have q3:=HB1.out.cell (i:=3) rfl
   go_wp2_with (with_reducible refine stop_append ?_)
   refine go_on ?_
   have HEa:Hid (Ext w (w1.alloc (.cells #[.int .u8 (np:Int)] 5))):=Bl.hid (HE1.out.trans (ext_alloc _ _))
   have HBa:=Bl.hid (HB1.out.ext (ext_alloc w1 (.cells #[.int .u8 (np:Int)] 5)))
   have Howna:=Bl.hid (owns_ext Hown1.out (ext_alloc w1 (.cells #[.int .u8 (np:Int)] 5)))
   refine wpL_app tBytes Howna.out (rds_one w1 5 .u8 (np:Int)) rfl rfl rfl (ints_one _ _) (show 17+1<=maxLen by decide) (show(17+1)*1<=140737488355328 by decide) HBa.out.lt ?_
   intro p12 c12 w2 hown hg hB hK hn hc
   rw [<-ints_append]at hown
   have Hown2:=Bl.hid hown
   have HE2:Hid (Ext w w2):=Bl.hid (Below.trans HEa.out (hB.mono (Nat.le_succ _)))
   have HB2:=Bl.hid (HBa.out.grown hg (fun q=>absurd (Howna.out.lt _ q).1 (Nat.not_succ_le_self _)))
   clear hown hg hB hK hn hc
   clear HEa HBa Howna q3 q0
   have q3:=HB2.out.cell (i:=3) rfl
   go_wp2_with fail
   clear q3
   go_loopw [3,60] (fun o i wr=>∃(k:Nat) (p:Option Addr) (c:Nat),k<=np/\i= .int .i64 k/\o= .slice p (18+k*2) c/\Hid (wr.ownsRow (w.heap.size+1) 5 1 (.slice p (18+k*2) c) (18+k*2) (ints .u8 (3 :: (numL id++numL oj)++[(np:Int)]++(pl.take k).flatMap twoL)))/\Hid (w.heap.size+1<=wr.heap.size)/\Ext w wr) (fun _ i _=>np - (intOf i).toNat)
   case atStart=>exact⟨0,_,_,Nat.zero_le _,rfl,rfl,by rw [List.take_zero,List.flatMap_nil,List.append_nil];exact Hown2,Bl.hid HB2.out.lt,HE2.out⟩
   case round=>
    obtain⟨k,p,c,hk,rfl,rfl,HO,HS,hE⟩:=hrel
    have HE:=Bl.hid hE
    clear hE
    by_cases hlt:k < np
    ·have hla:k < pl.length:=by rw [<-Hnp.out];exact hlt
     obtain⟨b1,o1,cc1,hpa,_,_,_,_,hel1⟩:=Rd.pos (k:= .i64) (l:=pl) (by rw [Hnp.out]at Hpl;exact Hpl.out.ext HE.out) (by omega)
     injection hpa with ha1 ha2 ha3
     subst ha1
     have hcell1:=hel1 k hla
     have hxb:=badP_not (hnp1.out.2 _ (getD_mem 0 hla))
     have Htk:=Bl.hid (flatMap_take 0 twoL pl k hla)
     obtain⟨x,hx⟩:∃x,x=pl.getD k 0:=⟨_,rfl⟩
     rw [<-hx]at hcell1 hxb Htk
     obtain⟨hx0,hx1⟩:=hxb
     clear hel1 ha2 ha3 hx
     go_wp2_with fail
     refine(two2_any x wr hx0 (by omega)).mono ?_
     rintro e wa ⟨pa,ca,rfl,hra,hEa⟩
     have HEa:=Bl.hid (HE.out.trans hEa)
     have Howna:=Bl.hid (owns_ext HO.out hEa)
     have Hra:=Bl.hid hra
     have HSa:Hid (w.heap.size+1<=wa.heap.size):=Bl.hid (Nat.le_trans HS.out hEa.size)
     clear hEa hra hcell1
     go_wp2_with (with_reducible refine stop_append ?_)
     refine go_on ?_
     refine wpL_app tBytes Howna.out Hra.out rfl rfl rfl (ints_one _ _) (by unfold maxLen;omega) (by omega) HSa.out ?_
     intro p5 c5 w5 hown hg hB hK hn hc
     rw [<-ints_append]at hown
     have e2:18+k*2+2=18+(k+1)*2:=by omega
     rw [e2]at hown⊢
     have Hown5:=Bl.hid hown
     have HE5:Hid (Ext w w5):=Bl.hid (Below.trans HEa.out (hB.mono (Nat.le_succ _)))
     have HS5:Hid (w.heap.size+1<=w5.heap.size):=Bl.hid (Nat.le_trans HSa.out hB.size)
     clear hown hg hB hK hn hc e2
     go_wp2_with fail
     go_roundw
     case rel=>exact⟨k+1,p5,c5,by omega,by go_num,rfl,Bl.hid (by rw [Htk.out,<-List.append_assoc];exact Hown5.out),HS5,HE5.out⟩
     case measure=>simp [intOf];omega
    ·obtain rfl:k=np:=by omega
     go_wp2_with fail
     go_ret
     refine⟨_,rfl,?_,HE.out⟩
     have h:=Rd.of_owns1 HO.out
     rw [List.take_of_length_le (by rw [<-Hnp.out];exact Nat.le_refl _)]at h
     rw [HV.out]
     exact h
  ·have hns1:Hid ((1<=ns/\ns<=12)/\(∀s∈sh,badS s=false)/\∀s∈sh,badP s.1=false):=Bl.hid (by
    have h:(wi sh.length 1 12&& !sh.any badS)=true:=Hz.out
    rw [Bool.and_eq_true]at h
    have h1:=wi_iff.1 h.1
    exact⟨by have:=Hns.out;rw [<-Hsl.out,List.length_map]at h1;omega,any_false h.2,any_false Hnt.out⟩)
   have hb1:(ns:Int)<=12:=by have:=hns1.out.1.2;omega
   have hb0:(0:Int)<=(ns:Int):=by omega
   have HV:Hid (bytL ⟨4,id,oj,pl,sh,fr,ct,bl,cd⟩=4 :: (numL id++numL oj)++[(ns:Int)]++sh.flatMap shB):=Bl.hid (by unfold bytL tailL;simp [Hns.out,<-Hsl.out])
   have hdg:Hid (∀s∈sh,badS s=false/\Dig s.2.2):=Bl.hid fun s hs=>⟨hns1.out.2.1 s hs,by
    rw [<-Hsl.out]at hs
    obtain⟨x,hx,rfl⟩:=List.mem_map.1 hs
    exact(Hsh.out.ok x hx).dg⟩
   have q4:=HB1.out.cell (i:=4) rfl
   go_wp2_with (with_reducible refine stop_append ?_)
   refine go_on ?_
   have HEa:Hid (Ext w (w1.alloc (.cells #[.int .u8 (ns:Int)] 5))):=Bl.hid (HE1.out.trans (ext_alloc _ _))
   have HBa:=Bl.hid (HB1.out.ext (ext_alloc w1 (.cells #[.int .u8 (ns:Int)] 5)))
   have Howna:=Bl.hid (owns_ext Hown1.out (ext_alloc w1 (.cells #[.int .u8 (ns:Int)] 5)))
   refine wpL_app tBytes Howna.out (rds_one w1 5 .u8 (ns:Int)) rfl rfl rfl (ints_one _ _) (show 17+1<=maxLen by decide) (show(17+1)*1<=140737488355328 by decide) HBa.out.lt ?_
   intro p12 c12 w2 hown hg hB hK hn hc
   rw [<-ints_append]at hown
   have Hown2:=Bl.hid hown
   have HE2:Hid (Ext w w2):=Bl.hid (Below.trans HEa.out (hB.mono (Nat.le_succ _)))
   have HB2:=Bl.hid (HBa.out.grown hg (fun q=>absurd (Howna.out.lt _ q).1 (Nat.not_succ_le_self _)))
   clear hown hg hB hK hn hc
   clear HEa HBa Howna q4 q0
   have q4:=HB2.out.cell (i:=4) rfl
   go_wp2_with fail
   clear q4
   go_loopw [3,79] (fun o i wr=>∃(k N:Nat) (p:Option Addr) (c:Nat) (pre:List Int),k<=ns/\i= .int .i64 k/\o= .slice p N c/\Hid (pre=4 :: (numL id++numL oj)++[(ns:Int)]++(sh.take k).flatMap shB)/\Hid (N=pre.length)/\Hid (Rds wr (.slice p N c) N (ints .u8 pre))/\Ext w wr) (fun _ i _=>ns - (intOf i).toNat)
   case atStart=>exact⟨0,18,_,_,4 :: (numL id++numL oj)++[(ns:Int)],Nat.zero_le _,rfl,rfl,Bl.hid (by rw [List.take_zero,List.flatMap_nil,List.append_nil]),Bl.hid rfl,Bl.hid (Rds.of_owns Hown2.out),HE2.out⟩
   case round=>
    obtain⟨k,N,p,c,pre,hk,rfl,rfl,Hpre,HN,HO,hE⟩:=hrel
    have HE:=Bl.hid hE
    clear hE
    by_cases hlt:k < ns
    ·have hla:k < L.length:=by rw [<-Hns.out];exact hlt
     have hls:k < sh.length:=by rw [<-Hsl.out,List.length_map];exact hla
     have hRA:=Hsh.out.ext HE.out
     obtain⟨g,o,cc,hpe,_,_,_,hel⟩:=hRA.pos (by omega)
     injection hpe with ha1 ha2 ha3
     subst ha1
     have hrg:=hel k hla
     have hok:=hRA.ok _ (getD_mem s0 hla)
     have hpx:plS (L.getD k s0)=sh.getD k Bl.h0:=by rw [<-plS_getD,Hsl.out]
     have hxs:=hns1.out.2.1 _ (getD_mem Bl.h0 hls)
     have hxp:=badP_not (hns1.out.2.2 _ (getD_mem Bl.h0 hls))
     have Htk:=Bl.hid (flatMap_take Bl.h0 shB sh k hls)
     rw [<-hpx]at hxs hxp Htk
     obtain⟨x,hx⟩:∃x,x=L.getD k s0:=⟨_,rfl⟩
     rw [<-hx]at hrg hok hxs hxp Htk
     clear hx hpx hel ha2 ha3 hRA
     obtain⟨pc,⟨u1,st⟩,u2,pa⟩:=x
     obtain⟨hx0,hx1⟩:0<=pc/\pc<=511:=hxp
     obtain⟨hx2,hx3⟩:st.length=16/\pa.length<=10:=badS_not hxs
     obtain⟨q1,d1,hq1f,_,_⟩:=hok.st.form
     obtain⟨q2,d2,hq2f,_,_⟩:=hok.pa.form
     simp only at hq1f hq2f
     subst hq1f hq2f
     rw [hx2]at hok hrg
     obtain⟨m,hm⟩:∃m,m=pa.length:=⟨_,rfl⟩
     have Hm:=Bl.hid hm
     rw [<-hm]at hok hrg hx3
     have hwm:IntKind.u8.wrap (m:Int)=(m:Int):=IntWalk.u8_in _ (by omega)
     have Hst:Hid (Rd wr .u8 (.slice q1 16 d1) st):=Bl.hid hok.st
     have Hpa:Hid (RdD wr (.slice q2 m d2) pa):=Bl.hid hok.pa
     have Hdg:Hid (Dig pa):=Bl.hid hok.dg
     have Hx2:=Bl.hid hx2
     have Hxs:=Bl.hid hxs
     have Hld:=Bl.hid (run_loadAt_mid (P:=Tryz.prog) wr g (o+k*3) 57 _ _ hrg Tryz.underlying57 rfl (by rw [cS_len];kernel_rfl))
     obtain⟨hB7,hE7⟩:=BoxC.fresh (cs:=cS (pc,(.slice q1 16 d1,st),.slice q2 m d2,pa)) wr 57 zSh rfl (cS_ne _)
     have Hst7:=Bl.hid (fresh_store (P:=Tryz.prog) (cs:=cS (pc,(.slice q1 16 d1,st),.slice q2 m d2,pa)) wr 57 zSh rfl (cS_one hok) (ty:=57) (by rw [cS_len];kernel_rfl))
     have HB7:=Bl.hid hB7
     have HE7:=Bl.hid hE7
     have hk0:(0:Int)<=(k:Int):=by omega
     have hkl:(k:Int) < (ns:Int):=by omega
     clear hrg hok hB7 hE7 hm hx2 hxs
     go_wp2_with (with_reducible refine stop_load (ty:=57) ?_)
     refine go_on ?_
     refine wpL_load rfl Hld.out ?_
     go_wp2_with (with_reducible refine stop_store (ty:=57) ?_)
     refine go_on ?_
     refine wpL_store0 rfl rfl Hst7.out ?_
     obtain⟨W7,hW7⟩:∃W7,W7=(wr.alloc (.cells zSh 57)).setCells wr.heap.size 0 (cS (pc,(.slice q1 16 d1,st),.slice q2 m d2,pa)):=⟨_,rfl⟩
     obtain⟨X7,hX7⟩:∃X7,X7=wr.heap.size:=⟨_,rfl⟩
     rw [<-hW7]at HB7 HE7⊢
     rw [<-hX7]at HB7⊢
     clear hW7 hX7 Hst7 Hld
     have Hle:Hid (pre.length<=18+ns*339):=Bl.hid (by
     rw [Hpre.out]
     simp only [List.length_append,List.length_cons,List.length_nil]
     have h1:=shs_len (sh.take k) (fun s hs=>hdg.out s (List.mem_of_mem_take hs))
     rw [List.length_take]at h1
     have h2:(numL id).length=8:=rfl
     have h3:(numL oj).length=8:=rfl
     have h4:min k sh.length*339<=ns*339:=Nat.mul_le_mul_right _ (by omega)
     omega)
     obtain⟨fl,hfl⟩:∃fl,fl=pa.flatten:=⟨_,rfl⟩
     have Hfl0:=Bl.hid hfl
     have Hfl:Hid (fl.length<=320):=Bl.hid (by rw [hfl,flat_const 32 pa (fun x hx=>(Hdg.out x hx).1),<-Hm.out];omega)
     have Hle5:Hid (0 < [pre,twoL pc,st,[(m:Int)],fl].flatten.length/\[pre,twoL pc,st,[(m:Int)],fl].flatten.length<=1099511627776):=Bl.hid (by
     have h1:=Hle.out
     have h2:=Hfl.out
     have h3:=Hx2.out
     have h4:(twoL pc).length=2:=rfl
     have h5:=hns1.out.1.2
     simp only [List.flatten_cons,List.flatten_nil,List.length_append,List.length_cons,List.length_nil]
     omega)
     obtain⟨L5,hL5⟩:∃L5,L5=[pre,twoL pc,st,[(m:Int)],fl].flatten:=⟨_,rfl⟩
     have HPB:Hid (∀w2,Ext W7 w2->Calls Tryz.prog 103 #[.slice q2 m d2] w2 fun e w'=>∃v',e= .returned v'/\SlB w' v' fl/\Ext w2 w'):=Bl.hid fun w2 h2=>by
      rw [hfl]
      exact(pbytes_any _ pa _ (Rds.ext Hpa.out (HE7.out.trans h2)) Hdg.out (by have:=Hm.out;omega)).mono fun _ _ ⟨v',h1,h2,h3⟩=>⟨v',h1,SlB.of_rd h2,h3⟩
     clear hfl
     have HC5:Hid (∀v w,Rdss w v [pre,twoL pc,st,[(m:Int)],fl]->Calls Tryz.prog 100 #[v] w fun e w'=>∃v',e= .returned v'/\SlB w' v' L5/\Ext w w'):=Bl.hid fun v w h=>by
      rw [hL5]
      exact(concB_any v _ w h Hle5.out.1 Hle5.out.2).mono fun _ _ ⟨v',h1,h2,h3⟩=>⟨v',h1,SlB.of_rd h2,h3⟩
     have HL5:=Bl.hid hL5
     clear hL5
     have HO7:Hid (Rd W7 .u8 (.slice p N c) pre):=Bl.hid (by have h:=Rds.ext HO.out HE7.out;rw [HN.out]at h⊢;exact h)
     go_wp2_with fail
     apply wp_region_ev 16 [83,84,85,86,87,88,89,90,91,92,93,94,95,96,97,98] [eqv _,eqv _,eqv _,(fun v w'=>SlB w' v (twoL pc)),eqv _,eqv _,eqv _,eqv _,eqv _,eqv _,(fun v w'=>SlB w' v [(m:Int)]),eqv _,eqv _,(fun v w'=>SlB w' v fl),(fun v w'=>Rdss w' v [pre,twoL pc,st,[(m:Int)],fl]),(fun v w'=>SlB w' v L5)] (by kernel_rfl) (by kernel_rfl) (by kernel_rfl) (by kernel_rfl)
     case hsteps=>
      refine⟨?_,?_,?_,?_,?_,?_,?_,?_,?_,?_,?_,?_,?_,?_,?_,?_,trivial⟩
      all_goals
       intro ev w1 hext hb hd
       have e3:=hb 3 (by decide)
       have e7:=hb 7 (by decide)
       clear hb
       simp only [Qa,Qb,Q1,Bl.Q2,Qd]at e3 e7
       simp only [DepsE,Q1,Bl.Q2,Qc,Q3,Q4,eqv,and_true]at hd
       have hc:=(bcell hext).1
       have q0:=(HB7.out.ext hext).cell (i:=0) rfl
       have q1:=(HB7.out.ext hext).cell (i:=1) rfl
       have q2:=(HB7.out.ext hext).cell (i:=2) rfl
       try (obtain⟨h83,⟨p6,c6,h6,h6r⟩,h88,⟨p7,c7,h7,h7r⟩,⟨p8,c8,h8,h8r⟩⟩:=hd;rw [h6]at h6r;rw [h7]at h7r;rw [h8]at h8r)
       simp only [Bl.Good,Region.wanted,if_true]
       go_simp
       first | exact⟨ext_alloc _ _,slB_one _ _ _⟩ | exact⟨ext_alloc _ _,rdss_five (HO7.out.ext hext) h6r (Hst.out.ext (HE7.out.trans hext)) h7r h8r _⟩ | (go_at_call 102;(with_reducible refine(two_any pc _ hx0 (by omega)).mono ?_);rintro e w2 ⟨v',rfl,h1,h2⟩;exact⟨_,rfl,h2,h1⟩) | (go_at_call 103;(with_reducible refine(HPB.out _ hext).mono ?_);rintro e w2 ⟨v',rfl,h1,h2⟩;exact⟨_,rfl,h2,h1⟩) | (go_at_call 100;(with_reducible refine(HC5.out _ _ (by first | exact hd | exact hd.1)).mono ?_);rintro e w2 ⟨v',rfl,h1,h2⟩;exact⟨_,rfl,h2,h1⟩) | exact⟨Below.refl _ _,rfl⟩
     case hmono=>exact⟨mono_eqv _,mono_eqv _,mono_eqv _,(fun _ _ _ h k=>SlB.ext h k),mono_eqv _,mono_eqv _,mono_eqv _,mono_eqv _,mono_eqv _,mono_eqv _,(fun _ _ _ h k=>SlB.ext h k),mono_eqv _,mono_eqv _,(fun _ _ _ h k=>SlB.ext h k),(fun _ _ _ h k=>Rdss.ext h k),(fun _ _ _ h k=>SlB.ext h k),trivial⟩
     case hend=>
      intro u w1 hext hend
      simp only [EndE,Q1,Bl.Q2,Qc,Q3,Q4,eqv,true_and]at hend
      simp only [fillAct,Q5,Q6,Q7,Q8,Q9,hend]
      obtain⟨p98,c98,hv98,hr98⟩:SlB w1 (u 98) L5:=(by first | ((repeat(first | exact hend | exact hend.2 | replace hend:=hend.1));done) | (repeat(first | exact hend | exact hend.1 | replace hend:=hend.2)))
      rw [hv98]at hr98⊢
      have HE9:=Bl.hid ((HE.out.trans HE7.out).trans hext)
      have Hr98:=Bl.hid hr98
      clear hend hext hv98 hr98
      obtain⟨N2,hN2⟩:∃N2,N2=L5.length:=⟨_,rfl⟩
      have HN2:=Bl.hid hN2
      rw [<-hN2]at Hr98⊢
      clear hN2
      go_wp2_with fail
      go_roundw
      case rel=>exact⟨k+1,N2,p98,c98,_,by omega,by go_num,rfl,Bl.hid (by rw [HL5.out,Htk.out,Hpre.out,Hfl0.out];show _=_++(_++(twoL pc++st++[(pa.length:Int)]++pa.flatten));rw [Hm.out];simp),HN2,Bl.hid (by rw [HN2.out];have h:=Hr98.out;rw [HN2.out]at h;exact h),HE9.out⟩
      case measure=>simp [intOf];omega
    ·obtain rfl:k=ns:=by omega
     go_wp2_with fail
     go_ret
     refine⟨_,rfl,?_,HE.out⟩
     have h:=HO.out
     rw [HN.out]at h
     rw [HV.out]
     have e:pre=_:=Hpre.out
     rw [List.take_of_length_le (by rw [<-Hsl.out,List.length_map,<-Hns.out];exact Nat.le_refl _)]at e
     rw [<-e]
     show Rds _ (.slice p N c) _ _
     rw [HN.out]
     exact h
  ·have h5:Hid ((1<=ct/\ct<=512)/\0<=fr/\fr<=511):=Bl.hid (by
    have h:(wi ct 1 512&&wi fr 0 511)=true:=Hnt.out
    rw [Bool.and_eq_true]at h
    exact⟨wi_iff.1 h.1,wi_iff.1 h.2⟩)
   have hc0:0<=ct:=by have:=h5.out;omega
   have hc3:ct<=65535:=by have:=h5.out;omega
   have hf0:0<=fr:=h5.out.2.1
   have hf1:fr<=65535:=by have:=h5.out;omega
   have HV:Hid (bytL ⟨5,id,oj,pl,sh,fr,ct,bl,cd⟩=[5 :: (numL id++numL oj),twoL fr,twoL ct].flatten):=Bl.hid (by unfold bytL tailL;simp [])
   have HO1:Hid (Rd w1 .u8 (.slice p19 17 c19) (5 :: (numL id++numL oj))):=Bl.hid (Rd.of_owns1 Hown1.out)
   obtain⟨L5,hL5⟩:∃L5,L5=[5 :: (numL id++numL oj),twoL fr,twoL ct].flatten:=⟨_,rfl⟩
   rw [<-hL5]at HV
   have HL5:Hid (∀v w,Rdss w v [5 :: (numL id++numL oj),twoL fr,twoL ct]->Calls Tryz.prog 100 #[v] w fun e w'=>∃v',e= .returned v'/\SlB w' v' L5/\Ext w w'):=Bl.hid fun v w h=>by
    rw [hL5]
    exact(concB_any v _ w h (by simp) (by simp [numL,twoL])).mono fun _ _ ⟨v',h1,h2,h3⟩=>⟨v',h1,SlB.of_rd h2,h3⟩
   clear hL5
   go_wp2_with fail
   clear q0
   apply wp_region_ev 9 [100,101,102,103,104,105,106,107,108] [eqv _,eqv _,eqv _,(fun v w'=>SlB w' v (twoL fr)),eqv _,eqv _,(fun v w'=>SlB w' v (twoL ct)),(fun v w'=>Rdss w' v [5 :: (numL id++numL oj),twoL fr,twoL ct]),(fun v w'=>SlB w' v L5)] (by kernel_rfl) (by kernel_rfl) (by kernel_rfl) (by kernel_rfl)
   case hsteps=>
    refine⟨?_,?_,?_,?_,?_,?_,?_,?_,?_,trivial⟩
    all_goals
     intro ev w1 hext hb hd
     have e1:=hb 1 (by decide)
     have e3:=hb 3 (by decide)
     clear hb
     simp only [Qa,Qb,Q1,Bl.Q2,Qd]at e1 e3
     simp only [DepsE,Q1,Bl.Q2,Qc,Q3,Q4,eqv,and_true]at hd
     have hc:=(bcell hext).1
     have q5:=(HB1.out.ext hext).cell (i:=5) rfl
     have q6:=(HB1.out.ext hext).cell (i:=6) rfl
     try (obtain⟨h83,⟨p6,c6,h6,h6r⟩,⟨p7,c7,h7,h7r⟩⟩:=hd;rw [h6]at h6r;rw [h7]at h7r)
     simp only [Bl.Good,Region.wanted,if_true]
     go_simp
     first | exact⟨ext_alloc _ _,rdss_three (HO1.out.ext hext) h6r h7r _⟩ | (go_at_call 102;(with_reducible refine(two_any fr _ hf0 hf1).mono ?_);rintro e w2 ⟨v',rfl,h1,h2⟩;exact⟨_,rfl,h2,h1⟩) | (go_at_call 102;(with_reducible refine(two_any ct _ hc0 hc3).mono ?_);rintro e w2 ⟨v',rfl,h1,h2⟩;exact⟨_,rfl,h2,h1⟩) | (go_at_call 100;(with_reducible refine(HL5.out _ _ (by first | exact hd | exact hd.1)).mono ?_);rintro e w2 ⟨v',rfl,h1,h2⟩;exact⟨_,rfl,h2,h1⟩) | exact⟨Below.refl _ _,rfl⟩
   case hmono=>exact⟨mono_eqv _,mono_eqv _,mono_eqv _,(fun _ _ _ h k=>SlB.ext h k),mono_eqv _,mono_eqv _,(fun _ _ _ h k=>SlB.ext h k),(fun _ _ _ h k=>Rdss.ext h k),(fun _ _ _ h k=>SlB.ext h k),trivial⟩
   case hend=>
    intro u w1 hext hend
    simp only [EndE,Q1,Bl.Q2,Qc,Q3,Q4,eqv,true_and]at hend
    simp only [fillAct,Q5,Q6,Q7,Q8,Q9,hend]
    obtain⟨p98,c98,hv98,hr98⟩:SlB w1 (u 108) L5:=(by first | ((repeat(first | exact hend | exact hend.2 | replace hend:=hend.1));done) | (repeat(first | exact hend | exact hend.1 | replace hend:=hend.2)))
    rw [hv98]at hr98⊢
    have HE9:=Bl.hid (HE1.out.trans hext)
    have Hr98:=Bl.hid hr98
    clear hend hext hv98 hr98
    go_wp2_with fail
    go_ret
    refine⟨_,rfl,?_,HE9.out⟩
    rw [HV.out]
    exact Hr98.out
  ·have hnb1:Hid ((1<=nb/\nb<=512)/\∀b∈bl,badB b=false):=Bl.hid (by
    have h:(wi bl.length 1 512&& !bl.any badB)=true:=Hz.out
    rw [Bool.and_eq_true]at h
    have h1:=wi_iff.1 h.1
    exact⟨by have:=Hnb.out;omega,any_false h.2⟩)
   have hb1:(nb:Int)<=512:=by have:=hnb1.out.1.2;omega
   have hb0:(0:Int)<=(nb:Int):=by omega
   have Hfl:Hid (bl.flatten.length=nb*16):=Bl.hid (by rw [Hnb.out];exact flat_const 16 bl (fun x hx=>badB_not (hnb1.out.2 x hx)))
   have h6:Hid (0<=fr/\fr<=511):=Bl.hid (wi_iff.1 Hnt.out)
   have hf0:0<=fr:=h6.out.1
   have hf1:fr<=65535:=by have:=h6.out;omega
   have HV:Hid (bytL ⟨6,id,oj,pl,sh,fr,ct,bl,cd⟩=6 :: (numL id++numL oj)++twoL fr++twoL nb++bl.flatten):=Bl.hid (by unfold bytL tailL;simp [Hnb.out])
   have q5:=HB1.out.cell (i:=5) rfl
   go_wp2_with fail
   refine(two2_any fr w1 hf0 hf1).mono ?_
   rintro e wa ⟨pa,ca,rfl,hra,hEa⟩
   have HEa:=Bl.hid (HE1.out.trans hEa)
   have HBa:=Bl.hid (HB1.out.ext hEa)
   have Howna:=Bl.hid (owns_ext Hown1.out hEa)
   have Hra:=Bl.hid hra
   clear hEa hra q5 q0
   go_wp2_with (with_reducible refine stop_append ?_)
   refine go_on ?_
   refine wpL_app tBytes Howna.out Hra.out rfl rfl rfl (ints_one _ _) (show 17+2<=maxLen by decide) (show(17+2)*1<=140737488355328 by decide) HBa.out.lt ?_
   intro p12 c12 w2 hown hg hB hK hn hc
   rw [<-ints_append]at hown
   have Hown2:=Bl.hid hown
   have HE2:Hid (Ext w w2):=Bl.hid (Below.trans HEa.out (hB.mono (Nat.le_succ _)))
   have HB2:=Bl.hid (HBa.out.grown hg (fun q=>absurd (Howna.out.lt _ q).1 (Nat.not_succ_le_self _)))
   clear hown hg hB hK hn hc
   clear HEa HBa Howna Hra
   have q7:=HB2.out.cell (i:=7) rfl
   go_wp2_with fail
   refine(two2_any (nb:Int) w2 hb0 (by omega)).mono ?_
   rintro e wa ⟨pa,ca,rfl,hra,hEa⟩
   have HEa:=Bl.hid (HE2.out.trans hEa)
   have HBa:=Bl.hid (HB2.out.ext hEa)
   have Howna:=Bl.hid (owns_ext Hown2.out hEa)
   have Hra:=Bl.hid hra
   clear hEa hra q7
   go_wp2_with (with_reducible refine stop_append ?_)
   refine go_on ?_
   refine wpL_app tBytes Howna.out Hra.out rfl rfl rfl (ints_one _ _) (show 19+2<=maxLen by decide) (show(19+2)*1<=140737488355328 by decide) HBa.out.lt ?_
   intro p13 c13 w3 hown hg hB hK hn hc
   rw [<-ints_append]at hown
   have Hown3:=Bl.hid hown
   have HE3:Hid (Ext w w3):=Bl.hid (Below.trans HEa.out (hB.mono (Nat.le_succ _)))
   have HB3:=Bl.hid (HBa.out.grown hg (fun q=>absurd (Howna.out.lt _ q).1 (Nat.not_succ_le_self _)))
   clear hown hg hB hK hn hc
   clear HEa HBa Howna Hra
   have q7:=HB3.out.cell (i:=7) rfl
   go_wp2_with fail
   refine(concB_any (.slice p3 nb c3) bl w3 (Hbl.out.ext HE3.out) (by rw [Hfl.out];have:=hnb1.out.1.1;omega) (by rw [Hfl.out];have:=hnb1.out.1.2;omega)).mono ?_
   rintro e wa ⟨va,rfl,hra,hEa⟩
   obtain⟨pa,ca,hfa,_,_⟩:=hra.form
   subst hfa
   obtain⟨M,hM⟩:∃M,M=bl.flatten.length:=⟨_,rfl⟩
   have HM:=Bl.hid hM
   have hM2:M<=8192:=by rw [hM,Hfl.out];have:=hnb1.out.1.2;omega
   have hra2:Rds wa (.slice pa M ca) M (ints .u8 bl.flatten):=by rw [hM];exact hra
   rw [<-hM]
   have HEa:=Bl.hid (HE3.out.trans hEa)
   have HBa:=Bl.hid (HB3.out.ext hEa)
   have Howna:=Bl.hid (owns_ext Hown3.out hEa)
   have Hra:=Bl.hid hra2
   clear hEa hra hra2 hM q7
   go_wp2_with (with_reducible refine stop_append ?_)
   refine go_on ?_
   refine wpL_app tBytes Howna.out Hra.out rfl rfl (by rw [ints_length,<-HM.out,Nat.mul_one]) (ints_one _ _) (by unfold maxLen;omega) (by omega) HBa.out.lt ?_
   intro p14 c14 w4 hown hg hB hK hn hc
   rw [<-ints_append]at hown
   have Hown4:=Bl.hid hown
   have HE4:Hid (Ext w w4):=Bl.hid (Below.trans HEa.out (hB.mono (Nat.le_succ _)))
   have HB4:=Bl.hid (HBa.out.grown hg (fun q=>absurd (Howna.out.lt _ q).1 (Nat.not_succ_le_self _)))
   clear hown hg hB hK hn hc
   go_wp2_with fail
   go_ret
   refine⟨_,rfl,?_,HE4.out⟩
   rw [HV.out]
   exact Rd.of_owns1 Hown4.out
  ·have h7:Hid (1<=cd/\cd<=255):=Bl.hid (wi_iff.1 Hnt.out)
   have hd0:1<=cd:=h7.out.1
   have hd1:cd<=255:=h7.out.2
   have HV:Hid (bytL ⟨7,id,oj,pl,sh,fr,ct,bl,cd⟩=7 :: (numL id++numL oj)++[cd]):=Bl.hid (by unfold bytL tailL;simp [])
   have q8:=HB1.out.cell (i:=8) rfl
   go_wp2_with (with_reducible refine stop_append ?_)
   refine go_on ?_
   have HEa:Hid (Ext w (w1.alloc (.cells #[.int .u8 cd] 5))):=Bl.hid (HE1.out.trans (ext_alloc _ _))
   have HBa:=Bl.hid (HB1.out.ext (ext_alloc w1 (.cells #[.int .u8 cd] 5)))
   have Howna:=Bl.hid (owns_ext Hown1.out (ext_alloc w1 (.cells #[.int .u8 cd] 5)))
   refine wpL_app tBytes Howna.out (rds_one w1 5 .u8 cd) rfl rfl rfl (ints_one _ _) (show 17+1<=maxLen by decide) (show(17+1)*1<=140737488355328 by decide) HBa.out.lt ?_
   intro p12 c12 w2 hown hg hB hK hn hc
   rw [<-ints_append]at hown
   have Hown2:=Bl.hid hown
   have HE2:Hid (Ext w w2):=Bl.hid (Below.trans HEa.out (hB.mono (Nat.le_succ _)))
   have HB2:=Bl.hid (HBa.out.grown hg (fun q=>absurd (Howna.out.lt _ q).1 (Nat.not_succ_le_self _)))
   clear hown hg hB hK hn hc
   clear HEa HBa Howna q8 q0
   go_wp2_with fail
   go_ret
   refine⟨_,rfl,?_,HE2.out⟩
   rw [HV.out]
   exact Rd.of_owns1 Hown2.out
end Go.Proofs.YtglenbikdahgjaaGreatDoor
