/- Texts that stood apart, in one: EqI, LW1, LW2, LW5. -/
import Derived.Test.YtglenbikdahgjaaGreatDoorPk05
import Derived.Test.YtglenbikdahgjaaGreatDoorPk00
import Derived.Test.YtglenbikdahgjaaGreatDoorChecked
import Derived.Test.YtglenbikdahgjaaGreatDoorPk02
import Derived.Test.YtglenbikdahgjaaGreatDoorPk03
import Derived.Test.YtglenbikdahgjaaGreatDoorPk23
set_option maxRecDepth 100000
set_option maxHeartbeats 16000000
namespace Go.Proofs.YtglenbikdahgjaaGreatDoor
open Go Go.RowKit Go.Proofs Go.Proofs.Bl
theorem equalI_any (va vb:Value) (xs ys:List Int) (w:World) (hA:Rd w .i64 va xs) (hB:Rd w .i64 vb ys):
  Calls Tryz.prog 122 #[va,vb] w fun e w'=>e= .returned (.bool (decide (xs=ys)))/\Ext w w':=by
 obtain⟨pa,ca,hvfa,hvna,hvca⟩:=hA.form
 obtain⟨pb,cb,hvfb,hvnb,hvcb⟩:=hB.form
 subst hvfa hvfb
 have Hva:=Bl.hid hA
 have Hvb:=Bl.hid hB
 unfold maxLen at hvca hvcb
 obtain⟨n,hn⟩:∃n,n=xs.length:=⟨_,rfl⟩
 obtain⟨m,hm⟩:∃m,m=ys.length:=⟨_,rfl⟩
 rw [<-hn]at⊢hvna
 rw [<-hm]at⊢hvnb
 have Hn:=Bl.hid hn
 have Hm:=Bl.hid hm
 clear hA hB hn hm
 by_cases hnm:n=m
 ·subst hnm
  go_enter Tryz.func122,Tryz.ntmps122
  go_wp2_with fail
  go_loopw [13] (fun i wr=>∃k:Nat,k<=n/\i= .int .i64 k/\Ext w wr/\Hid (xs.take k=ys.take k)) (fun i _=>n - (intOf i).toNat)
  case atStart=>exact⟨0,Nat.zero_le _,rfl,Below.refl _ _,Bl.hid rfl⟩
  case round=>
   obtain⟨k,hk,rfl,hE,Htk⟩:=hrel
   have HE:=Bl.hid hE
   clear hE
   by_cases hlt:k < n
   ·have hla:k < xs.length:=by rw [<-Hn.out];exact hlt
    have hlb:k < ys.length:=by rw [<-Hm.out];exact hlt
    obtain⟨b1,o1,c1,hpa,_,_,_,_,hel1⟩:=Rd.pos (Hva.out.ext HE.out) (by omega)
    obtain⟨b2,o2,c2,hpb,_,_,_,_,hel2⟩:=Rd.pos (Hvb.out.ext HE.out) (by omega)
    injection hpa with hp1 hp2 hp3
    injection hpb with hq1 hq2 hq3
    subst hp1 hq1
    have hcell1:=hel1 k hla
    have hcell2:=hel2 k hlb
    have Ht1:=Bl.hid (take_succ_getDD 0 xs k hla)
    have Ht2:=Bl.hid (take_succ_getDD 0 ys k hlb)
    obtain⟨x,hx⟩:∃x,x=xs.getD k 0:=⟨_,rfl⟩
    obtain⟨y,hy⟩:∃y,y=ys.getD k 0:=⟨_,rfl⟩
    rw [<-hx]at hcell1 Ht1
    rw [<-hy]at hcell2 Ht2
    have Hx:=Bl.hid hx
    have Hy:=Bl.hid hy
    clear hel1 hel2 hp2 hp3 hq2 hq3 hx hy hla hlb
    by_cases hxy:x=y
    ·subst hxy
     go_wp2_with fail
     go_quiet (fail)
     go_wp2_with fail
     go_roundw
     case rel=>exact⟨k+1,by omega,by go_num,HE.out.trans ((Below.refl _ _).drewN _),Bl.hid (by rw [Ht1.out,Ht2.out,Htk.out])⟩
     case measure=>simp [intOf];omega
    ·have hq:(x==y)=false:=by rw [beq_eq_false_iff_ne];exact hxy
     have Hne:Hid (¬xs=ys):=Bl.hid fun q=>hxy (by rw [Hx.out,Hy.out,q])
     go_wp2_with fail
     go_quiet (fail)
     go_wp2_with fail
     go_ret
     exact⟨by rw [decide_eq_false Hne.out];rfl,HE.out.trans ((Below.refl _ _).drewN _)⟩
   ·obtain rfl:k=n:=by omega
    have Heq:Hid (xs=ys):=Bl.hid (by
     have h:=Htk.out
     rwa [List.take_of_length_le (by rw [<-Hn.out];exact Nat.le_refl _),List.take_of_length_le (by rw [<-Hm.out];exact Nat.le_refl _)]at h)
    go_wp2_with fail
    go_ret
    exact⟨by rw [decide_eq_true Heq.out];rfl,HE.out⟩
 ·have Hne:Hid (¬xs=ys):=Bl.hid fun q=>hnm (by rw [Hn.out,Hm.out,q])
  have hnm':((n:Int)==(m:Int))=false:=by rw [beq_eq_false_iff_ne];omega
  go_enter Tryz.func122,Tryz.ntmps122
  go_wp2_with fail
  go_ret
  exact⟨by rw [decide_eq_false Hne.out];rfl,Below.refl _ _⟩
theorem sameints_any (va vb:Value) (xs ys:List Int) (w:World) (hA:Rd w .i64 va xs) (hB:Rd w .i64 vb ys):
  Calls Tryz.prog 47 #[va,vb] w fun e w'=>e= .returned (.bool (decide (xs=ys)))/\Ext w w':=by
 obtain⟨pa,ca,hvfa,hvna,hvca⟩:=hA.form
 obtain⟨pb,cb,hvfb,hvnb,hvcb⟩:=hB.form
 subst hvfa hvfb
 have Hva:=Bl.hid hA
 have Hvb:=Bl.hid hB
 unfold maxLen at hvca hvcb
 obtain⟨n,hn⟩:∃n,n=xs.length:=⟨_,rfl⟩
 obtain⟨m,hm⟩:∃m,m=ys.length:=⟨_,rfl⟩
 rw [<-hn]at⊢hvna
 rw [<-hm]at⊢hvnb
 have Hn:=Bl.hid hn
 have Hm:=Bl.hid hm
 clear hA hB hn hm
 by_cases hnm:n=m
 ·subst hnm
  go_enter Tryz.func47,Tryz.ntmps47
  go_wp2_with fail
  go_loopw [13] (fun i wr=>∃k:Nat,k<=n/\i= .int .i64 k/\Ext w wr/\Hid (xs.take k=ys.take k)) (fun i _=>n - (intOf i).toNat)
  case atStart=>exact⟨0,Nat.zero_le _,rfl,Below.refl _ _,Bl.hid rfl⟩
  case round=>
   obtain⟨k,hk,rfl,hE,Htk⟩:=hrel
   have HE:=Bl.hid hE
   clear hE
   by_cases hlt:k < n
   ·have hla:k < xs.length:=by rw [<-Hn.out];exact hlt
    have hlb:k < ys.length:=by rw [<-Hm.out];exact hlt
    obtain⟨b1,o1,c1,hpa,_,_,_,_,hel1⟩:=Rd.pos (Hva.out.ext HE.out) (by omega)
    obtain⟨b2,o2,c2,hpb,_,_,_,_,hel2⟩:=Rd.pos (Hvb.out.ext HE.out) (by omega)
    injection hpa with hp1 hp2 hp3
    injection hpb with hq1 hq2 hq3
    subst hp1 hq1
    have hcell1:=hel1 k hla
    have hcell2:=hel2 k hlb
    have Ht1:=Bl.hid (take_succ_getDD 0 xs k hla)
    have Ht2:=Bl.hid (take_succ_getDD 0 ys k hlb)
    obtain⟨x,hx⟩:∃x,x=xs.getD k 0:=⟨_,rfl⟩
    obtain⟨y,hy⟩:∃y,y=ys.getD k 0:=⟨_,rfl⟩
    rw [<-hx]at hcell1 Ht1
    rw [<-hy]at hcell2 Ht2
    have Hx:=Bl.hid hx
    have Hy:=Bl.hid hy
    clear hel1 hel2 hp2 hp3 hq2 hq3 hx hy hla hlb
    by_cases hxy:x=y
    ·subst hxy
     go_wp2_with fail
     go_quiet (fail)
     go_wp2_with fail
     go_roundw
     case rel=>exact⟨k+1,by omega,by go_num,HE.out.trans ((Below.refl _ _).drewN _),Bl.hid (by rw [Ht1.out,Ht2.out,Htk.out])⟩
     case measure=>simp [intOf];omega
    ·have hq:(x==y)=false:=by rw [beq_eq_false_iff_ne];exact hxy
     have Hne:Hid (¬xs=ys):=Bl.hid fun q=>hxy (by rw [Hx.out,Hy.out,q])
     go_wp2_with fail
     go_quiet (fail)
     go_wp2_with fail
     go_ret
     exact⟨by rw [decide_eq_false Hne.out];rfl,HE.out.trans ((Below.refl _ _).drewN _)⟩
   ·obtain rfl:k=n:=by omega
    have Heq:Hid (xs=ys):=Bl.hid (by
     have h:=Htk.out
     rwa [List.take_of_length_le (by rw [<-Hn.out];exact Nat.le_refl _),List.take_of_length_le (by rw [<-Hm.out];exact Nat.le_refl _)]at h)
    go_wp2_with fail
    go_ret
    exact⟨by rw [decide_eq_true Heq.out];rfl,HE.out⟩
 ·have Hne:Hid (¬xs=ys):=Bl.hid fun q=>hnm (by rw [Hn.out,Hm.out,q])
  have hnm':((n:Int)==(m:Int))=false:=by rw [beq_eq_false_iff_ne];omega
  go_enter Tryz.func47,Tryz.ntmps47
  go_wp2_with fail
  go_ret
  exact⟨by rw [decide_eq_false Hne.out];rfl,Below.refl _ _⟩
theorem equalD_any (va vb:Value) (xs ys:List (List Int)) (w:World) (hA:RdD w va xs) (hB:RdD w vb ys) (hdx:Dig xs) (hdy:Dig ys):
  Calls Tryz.prog 149 #[va,vb] w fun e w'=>e= .returned (.bool (decide (xs=ys)))/\Ext w w':=by
 obtain⟨pa,ca,hvfa,hvna,hvca⟩:=hA.form
 obtain⟨pb,cb,hvfb,hvnb,hvcb⟩:=hB.form
 subst hvfa hvfb
 have HA:=Bl.hid hA
 have HB:=Bl.hid hB
 have Hdx:=Bl.hid hdx
 have Hdy:=Bl.hid hdy
 unfold maxLen at hvca hvcb
 obtain⟨n,hn⟩:∃n,n=xs.length:=⟨_,rfl⟩
 obtain⟨m,hm⟩:∃m,m=ys.length:=⟨_,rfl⟩
 rw [<-hn]at⊢hvna
 rw [<-hm]at⊢hvnb
 have Hn:=Bl.hid hn
 have Hm:=Bl.hid hm
 clear hA hB hdx hdy hn hm
 by_cases hnm:n=m
 ·subst hnm
  go_enter Tryz.func149,Tryz.ntmps149
  go_wp2_with fail
  go_loopw [13] (fun i wr=>∃k:Nat,k<=n/\i= .int .i64 k/\Ext w wr/\Hid (xs.take k=ys.take k)) (fun i _=>n - (intOf i).toNat)
  case atStart=>exact⟨0,Nat.zero_le _,rfl,Below.refl _ _,Bl.hid rfl⟩
  case round=>
   obtain⟨k,hk,rfl,hE,Htk⟩:=hrel
   have HE:=Bl.hid hE
   clear hE
   by_cases hlt:k < n
   ·have hla:k < xs.length:=by rw [<-Hn.out];exact hlt
    have hlb:k < ys.length:=by rw [<-Hm.out];exact hlt
    obtain⟨b1,o1,c1,hpa,hpa1,hpa2,hbl1,hrg1⟩:=RdD.pos (Rds.ext HA.out HE.out) Hdx.out (by omega)
    obtain⟨b2,o2,c2,hpb,hpb1,hpb2,hbl2,hrg2⟩:=RdD.pos (Rds.ext HB.out HE.out) Hdy.out (by omega)
    injection hpa with hpa hpa3 hpa4
    injection hpb with hpb hpb3 hpb4
    clear hpa3 hpa4 hpb3 hpb4
    subst hpa hpb
    have hr1:=digit_at hrg1 Hdx.out (i:=k) hla
    have hr2:=digit_at hrg2 Hdy.out (i:=k) hlb
    obtain⟨hl1,_⟩:=Hdx.out.get (i:=k) hla
    obtain⟨hl2,_⟩:=Hdy.out.get (i:=k) hlb
    have Ht1:=Bl.hid (take_snocD xs k hla)
    have Ht2:=Bl.hid (take_snocD ys k hlb)
    obtain⟨x,hx⟩:∃x,x=xs.getD k []:=⟨_,rfl⟩
    obtain⟨y,hy⟩:∃y,y=ys.getD k []:=⟨_,rfl⟩
    rw [<-hx]at hr1 hl1 Ht1
    rw [<-hy]at hr2 hl2 Ht2
    have HL1:Hid (∀w2,Ext wr w2->(Instr.loadAt 54 (.pointer (some ⟨b1,o1+k*32,none⟩))).run Tryz.prog w2= .ok (.agg (ints .u8 x).toArray) w2):=Bl.hid fun w2 h2=>load_ints (rangeAt_ext hr1 h2) Tryz.underlying54 (by kernel_rfl) hl1
    have HL2:Hid (∀w2,Ext wr w2->(Instr.loadAt 54 (.pointer (some ⟨b2,o2+k*32,none⟩))).run Tryz.prog w2= .ok (.agg (ints .u8 y).toArray) w2):=Bl.hid fun w2 h2=>load_ints (rangeAt_ext hr2 h2) Tryz.underlying54 (by kernel_rfl) hl2
    have Hx:=Bl.hid hx
    have Hy:=Bl.hid hy
    have Hq:Hid (∀w,(Op.equalIn 10000 54 (.agg (ints .u8 x).toArray) (.agg (ints .u8 y).toArray)).run Tryz.prog w= .ok (decide (x=y)) w):=Bl.hid fun w=>eq10k Tryz.underlying54 Tryz.underlying5 (fun w=>by simp [go_sem]) x y hl1 hl2 w
    clear hr1 hr2 hl1 hl2 hrg1 hrg2 hbl1 hbl2 hx hy hla hlb hpa1 hpa2 hpb1 hpb2
    have hk0:(0:Int)<=(k:Int):=by omega
    have hkl:(k:Int) < (n:Int):=by omega
    by_cases hxy:x=y
    ·have heq:=Hq.out
     rw [decide_eq_true hxy]at heq
     have Hxy:=Bl.hid hxy
     clear hxy Hq
     go_wp2_with fail
     apply wp_region_ev 8 [16,17,18,19,20,21,22,23] [eqv _,eqv _,eqv _,eqv _,eqv _,eqv _,eqv _,eqv _] (by kernel_rfl) (by kernel_rfl) (by kernel_rfl) (by kernel_rfl)
     case hsteps=>
      refine⟨?_,?_,?_,?_,?_,?_,?_,?_,trivial⟩
      all_goals
       intro ev w1 hext hb hd
       have e0:=hb 0 (by decide)
       have e1:=hb 1 (by decide)
       have e5:=hb 5 (by decide)
       clear hb
       simp only [Qa,Qb,Q1,Bl.Q2,Qd]at e0 e1 e5
       simp only [DepsE,Q1,Bl.Q2,Qc,Q3,Q4,eqv,and_true]at hd
       have hc:=(bcell hext).1
       simp only [Bl.Good,Region.wanted,if_true]
       first
       | ((with_reducible refine goodR_load ?_ (HL1.out _ hext) ?_);exact hd;exact rfl) | ((with_reducible refine goodR_load ?_ (HL2.out _ hext) ?_);exact hd;exact rfl)
       | (go_simp;first | exact⟨Below.refl _ _,rfl⟩ | exact⟨Below.refl _ _,rfl⟩)
     case hmono=>exact⟨mono_eqv _,mono_eqv _,mono_eqv _,mono_eqv _,mono_eqv _,mono_eqv _,mono_eqv _,mono_eqv _,trivial⟩
     case hend=>
      intro u w1 hext hend
      simp only [EndE,Q1,Bl.Q2,Qc,Q3,Q4,eqv,true_and]at hend
      simp only [fillAct,Q5,Q6,Q7,Q8,Q9,hend]
      have HE2:=Bl.hid (HE.out.trans hext)
      clear hext hend
      go_wp2_with fail
      go_roundw
      case rel=>exact⟨k+1,by omega,by go_num,HE2.out,Bl.hid (by rw [Ht1.out,Ht2.out,Htk.out,Hxy.out])⟩
      case measure=>simp [intOf];omega
    ·have heq:=Hq.out
     rw [decide_eq_false hxy]at heq
     have Hne:Hid (¬xs=ys):=Bl.hid fun q=>hxy (by rw [Hx.out,Hy.out,q])
     clear hxy Hq
     go_wp2_with fail
     apply wp_region_ev 8 [16,17,18,19,20,21,22,23] [eqv _,eqv _,eqv _,eqv _,eqv _,eqv _,eqv _,eqv _] (by kernel_rfl) (by kernel_rfl) (by kernel_rfl) (by kernel_rfl)
     case hsteps=>
      refine⟨?_,?_,?_,?_,?_,?_,?_,?_,trivial⟩
      all_goals
       intro ev w1 hext hb hd
       have e0:=hb 0 (by decide)
       have e1:=hb 1 (by decide)
       have e5:=hb 5 (by decide)
       clear hb
       simp only [Qa,Qb,Q1,Bl.Q2,Qd]at e0 e1 e5
       simp only [DepsE,Q1,Bl.Q2,Qc,Q3,Q4,eqv,and_true]at hd
       have hc:=(bcell hext).1
       simp only [Bl.Good,Region.wanted,if_true]
       first
       | ((with_reducible refine goodR_load ?_ (HL1.out _ hext) ?_);exact hd;exact rfl) | ((with_reducible refine goodR_load ?_ (HL2.out _ hext) ?_);exact hd;exact rfl)
       | (go_simp;first | exact⟨Below.refl _ _,rfl⟩ | exact⟨Below.refl _ _,rfl⟩)
     case hmono=>exact⟨mono_eqv _,mono_eqv _,mono_eqv _,mono_eqv _,mono_eqv _,mono_eqv _,mono_eqv _,mono_eqv _,trivial⟩
     case hend=>
      intro u w1 hext hend
      simp only [EndE,Q1,Bl.Q2,Qc,Q3,Q4,eqv,true_and]at hend
      simp only [fillAct,Q5,Q6,Q7,Q8,Q9,hend]
      have HE2:=Bl.hid (HE.out.trans hext)
      clear hext hend
      go_wp2_with fail
      go_ret
      exact⟨by rw [decide_eq_false Hne.out];rfl,HE2.out⟩
   ·obtain rfl:k=n:=by omega
    have Heq:Hid (xs=ys):=Bl.hid (by
     have h:=Htk.out
     rwa [List.take_of_length_le (by rw [<-Hn.out];exact Nat.le_refl _),List.take_of_length_le (by rw [<-Hm.out];exact Nat.le_refl _)]at h)
    go_wp2_with fail
    go_ret
    exact⟨by rw [decide_eq_true Heq.out];rfl,HE.out⟩
 ·have Hne:Hid (¬xs=ys):=Bl.hid fun q=>hnm (by rw [Hn.out,Hm.out,q])
  have hnm':((n:Int)==(m:Int))=false:=by rw [beq_eq_false_iff_ne];omega
  go_enter Tryz.func149,Tryz.ntmps149
  go_wp2_with fail
  go_ret
  exact⟨by rw [decide_eq_false Hne.out];rfl,Below.refl _ _⟩
theorem shsame_any (x y:Sv) (w:World) (hx:OkS w x) (hy:OkS w y):
  Calls Tryz.prog 124 #[.agg (cS x).toArray,.agg (cS y).toArray] w fun e w'=>e= .returned (.bool (decide (plS x=plS y)))/\Ext w w':=by
 obtain⟨n1,⟨v1,l1⟩,u1,d1⟩:=x
 obtain⟨n2,⟨v2,l2⟩,u2,d2⟩:=y
 obtain⟨hst1,hbs1,hpa1,hdg1⟩:=hx
 obtain⟨hst2,hbs2,hpa2,hdg2⟩:=hy
 have HEq:Hid (∀w2,Ext w w2->Calls Tryz.prog 51 #[v1,v2] w2 fun e w'=>e= .returned (.bool (decide (l1=l2)))/\w2=w'):=Bl.hid fun w2 h2=>equalB_any v1 v2 l1 l2 w2 (hst1.ext h2) (hst2.ext h2) hbs1 hbs2
 have HEd:Hid (∀w2,Ext w w2->Calls Tryz.prog 149 #[u1,u2] w2 fun e w'=>e= .returned (.bool (decide (d1=d2)))/\Ext w2 w'):=Bl.hid fun w2 h2=>equalD_any u1 u2 d1 d2 w2 (Rds.ext hpa1 h2) (Rds.ext hpa2 h2) hdg1 hdg2
 have HD:Hid (decide (plS (n1,(v1,l1),u1,d1)=plS (n2,(v2,l2),u2,d2))=(decide (n1=n2)&&decide (l1=l2)&&decide (d1=d2))):=Bl.hid (by
  rw [Bool.eq_iff_iff];simp [plS,and_assoc])
 clear hst1 hbs1 hpa1 hdg1 hst2 hbs2 hpa2 hdg2
 have HE0:=Bl.hid ((ext_alloc w (.cells #[.int .i64 n1,v1,u1] 57)).trans (ext_alloc (w.alloc (.cells #[.int .i64 n1,v1,u1] 57)) (.cells #[.int .i64 n2,v2,u2] 57)))
 show Calls Tryz.prog 124 #[.agg #[.int .i64 n1,v1,u1],.agg #[.int .i64 n2,v2,u2]] w _
 go_enter Tryz.func124,Tryz.ntmps124
 by_cases h1:n1=n2
 ·subst h1
  go_wp2_with fail
  refine(HEq.out _ HE0.out).mono ?_
  rintro e w1 ⟨rfl,hw1⟩
  subst hw1
  by_cases h2:l1=l2
  ·have h2d:=decide_eq_true h2
   rw [h2d]
   have HD2:Hid (decide (plS (n1,(v1,l1),u1,d1)=plS (n1,(v2,l2),u2,d2))=decide (d1=d2)):=Bl.hid (by rw [HD.out,h2d];simp)
   clear h2 h2d
   go_wp2_with fail
   refine(HEd.out _ HE0.out).mono ?_
   rintro e w1 ⟨rfl,hE1⟩
   have HE1:=Bl.hid (HE0.out.trans hE1)
   clear hE1
   generalize decide (d1=d2)=q at*
   cases q
   ·go_wp2_with fail
    go_ret
    exact⟨by rw [HD2.out];rfl,HE1.out⟩
   ·go_wp2_with fail
    go_ret
    exact⟨by rw [HD2.out];rfl,HE1.out⟩
  ·have h2d:=decide_eq_false h2
   rw [h2d]
   have HD2:Hid (decide (plS (n1,(v1,l1),u1,d1)=plS (n1,(v2,l2),u2,d2))=false):=Bl.hid (by rw [HD.out,h2d];simp)
   clear h2 h2d
   go_wp2_with fail
   go_ret
   exact⟨by rw [HD2.out];rfl,HE0.out⟩
 ·have h1d:(n1==n2)=false:=by rw [beq_eq_false_iff_ne];exact h1
  have HD2:Hid (decide (plS (n1,(v1,l1),u1,d1)=plS (n2,(v2,l2),u2,d2))=false):=Bl.hid (by rw [HD.out,decide_eq_false h1];rfl)
  go_wp2_with fail
  go_ret
  exact⟨by rw [HD2.out];rfl,HE0.out⟩
theorem eqfS_any (va vb:Value) (L M:List Sv) (w:World) (hA:RdS w va L) (hB:RdS w vb M):
  Calls Tryz.prog 123 #[va,vb,.func (.func 124) #[] #[]] w fun e w'=>e= .returned (.bool (decide (L.map plS=M.map plS)))/\Ext w w':=by
 obtain⟨pa,ca,hvfa,hvna,hvca⟩:=hA.rd.form
 obtain⟨pb,cb,hvfb,hvnb,hvcb⟩:=hB.rd.form
 subst hvfa hvfb
 have HA:=Bl.hid hA
 have HB:=Bl.hid hB
 unfold maxLen at hvca hvcb
 obtain⟨n,hn⟩:∃n,n=L.length:=⟨_,rfl⟩
 obtain⟨m,hm⟩:∃m,m=M.length:=⟨_,rfl⟩
 rw [<-hn]at⊢hvna
 rw [<-hm]at⊢hvnb
 have Hn:=Bl.hid hn
 have Hm:=Bl.hid hm
 clear hA hB hn hm
 by_cases hnm:n=m
 ·subst hnm
  go_enter Tryz.func123,Tryz.ntmps123
  go_wp2_with fail
  go_loopw [17] (fun i wr=>∃k:Nat,k<=n/\i= .int .i64 k/\Ext w wr/\Hid ((L.map plS).take k=(M.map plS).take k)) (fun i _=>n - (intOf i).toNat)
  case atStart=>exact⟨0,Nat.zero_le _,rfl,Below.refl _ _,Bl.hid rfl⟩
  case round=>
   obtain⟨k,hk,rfl,hE,Htk⟩:=hrel
   have HE:=Bl.hid hE
   clear hE
   by_cases hlt:k < n
   ·have hla:k < L.length:=by rw [<-Hn.out];exact hlt
    have hlb:k < M.length:=by rw [<-Hm.out];exact hlt
    obtain⟨b1,o1,c1,hpa,_,_,_,hel1⟩:=(HA.out.ext HE.out).pos (by omega)
    obtain⟨b2,o2,c2,hpb,_,_,_,hel2⟩:=(HB.out.ext HE.out).pos (by omega)
    injection hpa with hp1 hp2 hp3
    injection hpb with hq1 hq2 hq3
    subst hp1 hq1
    have hr1:=hel1 k hla
    have hr2:=hel2 k hlb
    have hok1:=(HA.out.ext HE.out).ok _ (getD_mem s0 hla)
    have hok2:=(HB.out.ext HE.out).ok _ (getD_mem s0 hlb)
    have Ht1:Hid ((L.map plS).take (k+1)=(L.map plS).take k++[plS (L.getD k s0)]):=Bl.hid (by rw [<-plS_getD];exact take_succ_getDD Bl.h0 (L.map plS) k (by simpa using hla))
    have Ht2:Hid ((M.map plS).take (k+1)=(M.map plS).take k++[plS (M.getD k s0)]):=Bl.hid (by rw [<-plS_getD];exact take_succ_getDD Bl.h0 (M.map plS) k (by simpa using hlb))
    have Hne:Hid (¬plS (L.getD k s0)=plS (M.getD k s0)->¬L.map plS=M.map plS):=Bl.hid fun h q=>h (by rw [<-plS_getD,<-plS_getD,q])
    obtain⟨x,hx⟩:∃x,x=L.getD k s0:=⟨_,rfl⟩
    obtain⟨y,hy⟩:∃y,y=M.getD k s0:=⟨_,rfl⟩
    rw [<-hx]at hr1 hok1 Ht1 Hne
    rw [<-hy]at hr2 hok2 Ht2 Hne
    have Hld1:=Bl.hid (run_loadAt_mid (P:=Tryz.prog) wr b1 (o1+k*3) 57 _ _ hr1 Tryz.underlying57 rfl (by rw [cS_len];kernel_rfl))
    obtain⟨hB8,hE8⟩:=BoxC.fresh (cs:=cS x) wr 57 zSh rfl (cS_ne x)
    have Hst1:=Bl.hid (fresh_store (P:=Tryz.prog) (cs:=cS x) wr 57 zSh rfl (cS_one hok1) (ty:=57) (by rw [cS_len];kernel_rfl))
    have HB8:=Bl.hid hB8
    have HE8:=Bl.hid hE8
    have Hok1:=Bl.hid hok1
    have Hok2:=Bl.hid hok2
    have Hr2:=Bl.hid hr2
    clear hel1 hel2 hp2 hp3 hq2 hq3 hx hy hla hlb hr1 hr2 hok1 hok2 hB8 hE8
    have hk0:(0:Int)<=(k:Int):=by omega
    have hkl:(k:Int) < (n:Int):=by omega
    go_wp2_with (with_reducible refine stop_load (ty:=57) ?_)
    refine go_on ?_
    refine wpL_load rfl Hld1.out ?_
    go_wp2_with (with_reducible refine stop_store (ty:=57) ?_)
    refine go_on ?_
    refine wpL_store0 rfl rfl Hst1.out ?_
    obtain⟨W8,hW8⟩:∃W8,W8=(wr.alloc (.cells zSh 57)).setCells wr.heap.size 0 (cS x):=⟨_,rfl⟩
    obtain⟨X8,hX8⟩:∃X8,X8=wr.heap.size:=⟨_,rfl⟩
    rw [<-hW8]at HB8 HE8⊢
    rw [<-hX8]at HB8⊢
    clear hW8 hX8 Hst1 Hld1
    have Hld2:=Bl.hid (run_loadAt_mid (P:=Tryz.prog) W8 b2 (o2+k*3) 57 _ _ (rangeAt_ext Hr2.out HE8.out) Tryz.underlying57 rfl (by rw [cS_len];kernel_rfl))
    obtain⟨hB9,hE9⟩:=BoxC.fresh (cs:=cS y) W8 57 zSh rfl (cS_ne y)
    have Hst2:=Bl.hid (fresh_store (P:=Tryz.prog) (cs:=cS y) W8 57 zSh rfl (cS_one Hok2.out) (ty:=57) (by rw [cS_len];kernel_rfl))
    have HB9:=Bl.hid hB9
    have HB89:=Bl.hid (HB8.out.ext hE9)
    have HE9:=Bl.hid (HE8.out.trans hE9)
    clear hB9 hE9
    go_wp2_with (with_reducible refine stop_load (ty:=57) ?_)
    refine go_on ?_
    refine wpL_load rfl Hld2.out ?_
    go_wp2_with (with_reducible refine stop_store (ty:=57) ?_)
    refine go_on ?_
    refine wpL_store0 rfl rfl Hst2.out ?_
    obtain⟨W9,hW9⟩:∃W9,W9=(W8.alloc (.cells zSh 57)).setCells W8.heap.size 0 (cS y):=⟨_,rfl⟩
    obtain⟨X9,hX9⟩:∃X9,X9=W8.heap.size:=⟨_,rfl⟩
    rw [<-hW9]at HB9 HB89 HE9⊢
    rw [<-hX9]at HB9⊢
    clear hW9 hX9 Hst2 Hld2 HB8 HE8
    have Hl8:=Bl.hid (HB89.out.load (P:=Tryz.prog) Tryz.underlying57 rfl (by rw [cS_len];kernel_rfl))
    have Hl9:=Bl.hid (HB9.out.load (P:=Tryz.prog) Tryz.underlying57 rfl (by rw [cS_len];kernel_rfl))
    go_wp2_with (with_reducible refine stop_load (ty:=57) ?_)
    refine go_on ?_
    refine wpL_load rfl Hl8.out ?_
    go_wp2_with (with_reducible refine stop_load (ty:=57) ?_)
    refine go_on ?_
    refine wpL_load rfl Hl9.out ?_
    go_wp2_with fail
    refine(shsame_any x y W9 (Hok1.out.ext HE9.out) (Hok2.out.ext HE9.out)).mono ?_
    rintro e w1 ⟨rfl,hE1⟩
    have HE1:=Bl.hid ((HE.out.trans HE9.out).trans hE1)
    clear hE1
    by_cases hxy:plS x=plS y
    ·have hd:=decide_eq_true hxy
     have Hxy:=Bl.hid hxy
     rw [hd]
     clear hd hxy
     go_wp2_with fail
     go_roundw
     case rel=>exact⟨k+1,by omega,by go_num,HE1.out,Bl.hid (by rw [Ht1.out,Ht2.out,Htk.out,Hxy.out])⟩
     case measure=>simp [intOf];omega
    ·have hd:=decide_eq_false hxy
     have Hne2:=Bl.hid (Hne.out hxy)
     rw [hd]
     clear hd hxy
     go_wp2_with fail
     go_ret
     exact⟨by rw [decide_eq_false Hne2.out];rfl,HE1.out⟩
   ·obtain rfl:k=n:=by omega
    have Heq:Hid (L.map plS=M.map plS):=Bl.hid (by
     have h:=Htk.out
     rwa [List.take_of_length_le (by rw [List.length_map,<-Hn.out];exact Nat.le_refl _),List.take_of_length_le (by rw [List.length_map,<-Hm.out];exact Nat.le_refl _)]at h)
    go_wp2_with fail
    go_ret
    exact⟨by rw [decide_eq_true Heq.out];rfl,HE.out⟩
 ·have Hne:Hid (¬L.map plS=M.map plS):=Bl.hid fun q=>hnm (by have:=congrArg List.length q;rw [List.length_map,List.length_map]at this;rw [Hn.out,Hm.out,this])
  have hnm':((n:Int)==(m:Int))=false:=by rw [beq_eq_false_iff_ne];omega
  go_enter Tryz.func123,Tryz.ntmps123
  go_wp2_with fail
  go_ret
  exact⟨by rw [decide_eq_false Hne.out];rfl,Below.refl _ _⟩
theorem eqfB_any (va vb:Value) (xs ys:List (List Int)) (w:World) (hA:Rdss w va xs) (hB:Rdss w vb ys) (hba:∀p∈xs,Byt p) (hbb:∀p∈ys,Byt p):
  Calls Tryz.prog 74 #[va,vb,.func (.func 51) #[] #[]] w fun e w'=>e= .returned (.bool (decide (xs=ys)))/\Ext w w':=by
 obtain⟨wa,hva,hwla,hwsa⟩:=hA
 obtain⟨wb,hvb,hwlb,hwsb⟩:=hB
 obtain⟨pa,ca,hvfa,hvna,hvca⟩:=hva.form
 obtain⟨pb,cb,hvfb,hvnb,hvcb⟩:=hvb.form
 subst hvfa hvfb
 have Hva:=Bl.hid hva
 have Hvb:=Bl.hid hvb
 have Hwsa:=Bl.hid hwsa
 have Hwsb:=Bl.hid hwsb
 have Hwla:=Bl.hid hwla
 have Hwlb:=Bl.hid hwlb
 have Hba:=Bl.hid hba
 have Hbb:=Bl.hid hbb
 unfold maxLen at hvca hvcb
 obtain⟨n,hn⟩:∃n,n=xs.length:=⟨_,rfl⟩
 obtain⟨m,hm⟩:∃m,m=ys.length:=⟨_,rfl⟩
 rw [<-hn]at Hva⊢hvna
 rw [<-hm]at Hvb⊢hvnb
 have Hn:=Bl.hid hn
 have Hm:=Bl.hid hm
 clear hva hvb hwsa hwsb hwla hwlb hba hbb hn hm
 by_cases hnm:n=m
 ·subst hnm
  go_enter Tryz.func74,Tryz.ntmps74
  go_wp2_with fail
  go_loopw [17] (fun i wr=>∃k:Nat,k<=n/\i= .int .i64 k/\wr=w/\Hid (xs.take k=ys.take k)) (fun i _=>n - (intOf i).toNat)
  case atStart=>exact⟨0,Nat.zero_le _,rfl,rfl,Bl.hid rfl⟩
  case round=>
   obtain⟨k,hk,rfl,hwr,Htk⟩:=hrel
   subst hwr
   by_cases hlt:k < n
   ·have hla:k < xs.length:=by rw [<-Hn.out];exact hlt
    have hlb:k < ys.length:=by rw [<-Hm.out];exact hlt
    obtain⟨b1,o1,hpa,hbl1,hcell1⟩:=Rdss.cell' (ps:=xs) (n:=n) (by have:=Hva.out;rw [Hn.out]at this⊢;exact this) Hwla.out k hla
    obtain⟨b2,o2,hpb,hbl2,hcell2⟩:=Rdss.cell' (ps:=ys) (n:=n) (by have:=Hvb.out;rw [Hm.out]at this⊢;exact this) Hwlb.out k hlb
    subst hpa hpb
    have hR1:=Hwsa.out k hla
    have hR2:=Hwsb.out k hlb
    have hbx:Byt (xs.getD k []):=Hba.out _ (getD_mem [] hla)
    have hby:Byt (ys.getD k []):=Hbb.out _ (getD_mem [] hlb)
    have Ht1:=Bl.hid (take_succ_getDD [] xs k hla)
    have Ht2:=Bl.hid (take_succ_getDD [] ys k hlb)
    have Hne:Hid (¬xs.getD k []=ys.getD k []->¬xs=ys):=Bl.hid fun h q=>h (by rw [q])
    obtain⟨x,hx⟩:∃x,x=xs.getD k []:=⟨_,rfl⟩
    obtain⟨y,hy⟩:∃y,y=ys.getD k []:=⟨_,rfl⟩
    rw [<-hx]at hR1 hbx Ht1 Hne
    rw [<-hy]at hR2 hby Ht2 Hne
    generalize wa.getD k undef=u1 at*
    generalize wb.getD k undef=u2 at*
    have HEq:=Bl.hid (equalB_any u1 u2 x y wr hR1 hR2 hbx hby)
    clear hR1 hR2 hbl1 hbl2 hx hy hla hlb hbx hby
    go_wp2_with fail
    refine HEq.out.mono ?_
    rintro e w1 ⟨rfl,hw1⟩
    subst hw1
    by_cases hxy:x=y
    ·have hd:=decide_eq_true hxy
     have Hxy:=Bl.hid hxy
     rw [hd]
     clear hd hxy
     go_wp2_with fail
     go_roundw
     case rel=>exact⟨k+1,by omega,by go_num,trivial,Bl.hid (by rw [Ht1.out,Ht2.out,Htk.out,Hxy.out])⟩
     case measure=>simp [intOf];omega
    ·have hd:=decide_eq_false hxy
     have Hne2:=Bl.hid (Hne.out hxy)
     rw [hd]
     clear hd hxy
     go_wp2_with fail
     go_ret
     exact⟨by rw [decide_eq_false Hne2.out];rfl,Below.refl _ _⟩
   ·obtain rfl:k=n:=by omega
    have Heq:Hid (xs=ys):=Bl.hid (by
     have h:=Htk.out
     rwa [List.take_of_length_le (by rw [<-Hn.out];exact Nat.le_refl _),List.take_of_length_le (by rw [<-Hm.out];exact Nat.le_refl _)]at h)
    go_wp2_with fail
    go_ret
    exact⟨by rw [decide_eq_true Heq.out];rfl,Below.refl _ _⟩
 ·have Hne:Hid (¬xs=ys):=Bl.hid fun q=>hnm (by rw [Hn.out,Hm.out,q])
  have hnm':((n:Int)==(m:Int))=false:=by rw [beq_eq_false_iff_ne];omega
  go_enter Tryz.func74,Tryz.ntmps74
  go_wp2_with fail
  go_ret
  exact⟨by rw [decide_eq_false Hne.out];rfl,Below.refl _ _⟩
theorem lsame_any (va vb:Value) (a b:Bl.LT) (w:World) (hA:LtV w va a) (hB:LtV w vb b):
  Calls Tryz.prog 71 #[va,vb] w fun e w'=>e= .returned (.bool (sameL a b))/\Ext w w':=by
 obtain⟨csa,pa,sa,ba,L,rfl,ha⟩:=hA
 obtain⟨csb,pb,sb,bb,M,rfl,hb⟩:=hB
 obtain rfl:=ha.eq
 obtain rfl:=hb.eq
 have HI:Hid (∀w2,Ext w w2->Calls Tryz.prog 122 #[pa,pb] w2 fun e w'=>e= .returned (.bool (decide (a.places=b.places)))/\Ext w2 w'):=Bl.hid fun w2 h2=>equalI_any pa pb _ _ w2 (ha.pl.ext h2) (hb.pl.ext h2)
 have HS:Hid (∀w2,Ext w w2->Calls Tryz.prog 123 #[sa,sb,.func (.func 124) #[] #[]] w2 fun e w'=>e= .returned (.bool (decide (a.shown=b.shown)))/\Ext w2 w'):=Bl.hid fun w2 h2=>by
  rw [<-ha.sl,<-hb.sl];exact eqfS_any sa sb L M w2 (ha.sh.ext h2) (hb.sh.ext h2)
 have HB:Hid (∀w2,Ext w w2->Calls Tryz.prog 74 #[ba,bb,.func (.func 51) #[] #[]] w2 fun e w'=>e= .returned (.bool (decide (a.blocks=b.blocks)))/\Ext w2 w'):=Bl.hid fun w2 h2=>eqfB_any ba bb _ _ w2 (ha.bl.ext h2) (hb.bl.ext h2) ha.by' hb.by'
 have HD:Hid (sameL a b=(decide (a.nums=b.nums)&&decide (a.places=b.places)&&decide (a.shown=b.shown)&&decide (a.blocks=b.blocks))):=Bl.hid (by
  rw [Bool.eq_iff_iff];simp [sameL,Bl.LT.ext_iff',and_assoc])
 clear ha hb
 obtain⟨k1,i1,j1,pl1,sh1,f1,c1,bl1,d1⟩:=a
 obtain⟨k2,i2,j2,pl2,sh2,f2,c2,bl2,d2⟩:=b
 have heq:∀w,(Op.equalIn 10000 177 (.agg #[.int .i64 k1,.int .i64 i1,.int .i64 j1,.int .i64 f1,.int .i64 c1,.int .i64 d1]) (.agg #[.int .i64 k2,.int .i64 i2,.int .i64 j2,.int .i64 f2,.int .i64 c2,.int .i64 d2])).run Tryz.prog w= .ok (decide (Bl.LT.nums ⟨k1,i1,j1,pl1,sh1,f1,c1,bl1,d1⟩=Bl.LT.nums ⟨k2,i2,j2,pl2,sh2,f2,c2,bl2,d2⟩)) w:=fun w=>
  eq10k (k:= .i64) Tryz.underlying177 Tryz.underlying3 (fun w=>by simp [go_sem]) [k1,i1,j1,f1,c1,d1] [k2,i2,j2,f2,c2,d2] rfl rfl w
 obtain⟨W0,hW0⟩:∃W0,W0=(w.alloc (.cells #[.int .i64 k1,.int .i64 i1,.int .i64 j1,pa,sa,.int .i64 f1,.int .i64 c1,ba,.int .i64 d1] 26)).alloc (.cells #[.int .i64 k2,.int .i64 i2,.int .i64 j2,pb,sb,.int .i64 f2,.int .i64 c2,bb,.int .i64 d2] 26):=⟨_,rfl⟩
 have HE0:Hid (Ext w W0):=Bl.hid (by rw [hW0];exact(ext_alloc _ _).trans (ext_alloc _ _))
 have HBa:Hid (BoxC W0 w.heap.size (cL ⟨k1,i1,j1,pl1,sh1,f1,c1,bl1,d1⟩ pa sa ba)):=Bl.hid (by rw [hW0];exact(BoxC.box w 26 (cL_ne _ _ _ _)).ext (ext_alloc _ _))
 have HBb:Hid (BoxC W0 (w.heap.size+1) (cL ⟨k2,i2,j2,pl2,sh2,f2,c2,bl2,d2⟩ pb sb bb)):=Bl.hid (by
  rw [hW0]
  have h:=BoxC.box (w.alloc (.cells #[.int .i64 k1,.int .i64 i1,.int .i64 j1,pa,sa,.int .i64 f1,.int .i64 c1,ba,.int .i64 d1] 26)) 26 (cL_ne ⟨k2,i2,j2,pl2,sh2,f2,c2,bl2,d2⟩ pb sb bb)
  rw [show(w.alloc (.cells #[.int .i64 k1,.int .i64 i1,.int .i64 j1,pa,sa,.int .i64 f1,.int .i64 c1,ba,.int .i64 d1] 26)).heap.size=w.heap.size+1 from by simp]at h
  exact h)
 generalize decide (Bl.LT.nums ⟨k1,i1,j1,pl1,sh1,f1,c1,bl1,d1⟩=Bl.LT.nums ⟨k2,i2,j2,pl2,sh2,f2,c2,bl2,d2⟩)=q1 at*
 simp only at HI HS HB HD
 generalize decide (pl1=pl2)=q2 at*
 generalize decide (sh1=sh2)=q3 at*
 generalize decide (bl1=bl2)=q4 at*
 show Calls Tryz.prog 71 #[.agg #[.int .i64 k1,.int .i64 i1,.int .i64 j1,pa,sa,.int .i64 f1,.int .i64 c1,ba,.int .i64 d1],.agg #[.int .i64 k2,.int .i64 i2,.int .i64 j2,pb,sb,.int .i64 f2,.int .i64 c2,bb,.int .i64 d2]] w _
 go_enter Tryz.func71,Tryz.ntmps71
 cases q1
 ·go_wp2_with fail
  go_ret
  refine⟨by rw [HD.out];rfl,?_⟩
  rw [<-hW0];exact HE0.out
 go_wp2_with fail
 rw [<-hW0]
 clear hW0
 refine(HI.out W0 HE0.out).mono ?_
 rintro e w1 ⟨rfl,hE1⟩
 have HE1:=Bl.hid (HE0.out.trans hE1)
 have HBa1:=Bl.hid (HBa.out.ext hE1)
 have HBb1:=Bl.hid (HBb.out.ext hE1)
 clear hE1 HBa HBb
 cases q2
 ·go_wp2_with fail
  go_ret
  exact⟨by rw [HD.out];rfl,HE1.out⟩
 have ga:=HBa1.out.cell (i:=4) rfl
 have gb:=HBb1.out.cell (i:=4) rfl
 go_wp2_with fail
 refine(HS.out w1 HE1.out).mono ?_
 rintro e w2 ⟨rfl,hE2⟩
 have HE2:=Bl.hid (HE1.out.trans hE2)
 have HBa2:=Bl.hid (HBa1.out.ext hE2)
 have HBb2:=Bl.hid (HBb1.out.ext hE2)
 clear hE2 HBa1 HBb1 ga gb
 cases q3
 ·go_wp2_with fail
  go_ret
  exact⟨by rw [HD.out];rfl,HE2.out⟩
 have ga:=HBa2.out.cell (i:=7) rfl
 have gb:=HBb2.out.cell (i:=7) rfl
 go_wp2_with fail
 refine(HB.out w2 HE2.out).mono ?_
 rintro e w3 ⟨rfl,hE3⟩
 have HE3:=Bl.hid (HE2.out.trans hE3)
 clear hE3 ga gb HBa2 HBb2
 cases q4
 ·go_wp2_with fail
  go_ret
  exact⟨by rw [HD.out];rfl,HE3.out⟩
 ·go_wp2_with fail
  go_ret
  exact⟨by rw [HD.out];rfl,HE3.out⟩
theorem rsame22_any (va vb:Value) (a b:Bl.LT) (w:World) (hA:LtV w va a) (hB:LtV w vb b):
  Calls Tryz.prog 15 #[va,vb] w fun e w'=>e= .returned (.bool (sameL a b))/\Ext w w':=by
 obtain⟨csa,pa,sa,ba,L,rfl,ha⟩:=hA
 obtain⟨csb,pb,sb,bb,M,rfl,hb⟩:=hB
 obtain rfl:=ha.eq
 obtain rfl:=hb.eq
 have HI:Hid (∀w2,Ext w w2->Calls Tryz.prog 47 #[pa,pb] w2 fun e w'=>e= .returned (.bool (decide (a.places=b.places)))/\Ext w2 w'):=Bl.hid fun w2 h2=>sameints_any pa pb _ _ w2 (ha.pl.ext h2) (hb.pl.ext h2)
 have HB:Hid (∀w2,Ext w w2->Calls Tryz.prog 31 #[ba,bb] w2 fun e w'=>e= .returned (.bool (decide (a.blocks=b.blocks)))/\Ext w2 w'):=Bl.hid fun w2 h2=>samelists_any ba bb _ _ w2 (ha.bl.ext h2) (hb.bl.ext h2) ha.by' hb.by'
 have HD:Hid (sameL a b=(decide (a.nums=b.nums)&&decide (a.places=b.places)&&decide (a.shown=b.shown)&&decide (a.blocks=b.blocks))):=Bl.hid (by
  rw [Bool.eq_iff_iff];simp [sameL,Bl.LT.ext_iff',and_assoc])
 have HSa:=Bl.hid ha.sh
 have HSb:=Bl.hid hb.sh
 have Hma:=Bl.hid ha.sl
 have Hmb:=Bl.hid hb.sl
 obtain⟨sp,sc,e1,hn1,hc1⟩:=ha.sh.rd.form
 obtain⟨tp,tc,e2,hn2,hc2⟩:=hb.sh.rd.form
 subst e1 e2
 unfold maxLen at hc1 hc2
 obtain⟨n1,hnn1⟩:∃n1,n1=L.length:=⟨_,rfl⟩
 obtain⟨n2,hnn2⟩:∃n2,n2=M.length:=⟨_,rfl⟩
 have Hn1:=Bl.hid hnn1
 have Hn2:=Bl.hid hnn2
 rw [<-hnn1]at HSa hn1⊢
 rw [<-hnn2]at HSb hn2⊢
 clear ha hb hnn1 hnn2
 obtain⟨k1,i1,j1,pl1,sh1,f1,c1,bl1,d1⟩:=a
 obtain⟨k2,i2,j2,pl2,sh2,f2,c2,bl2,d2⟩:=b
 simp only at HI HB Hma Hmb
 obtain⟨W0,hW0⟩:∃W0,W0=(w.alloc (.cells #[.int .i64 k1,.int .i64 i1,.int .i64 j1,pa,.slice sp n1 sc,.int .i64 f1,.int .i64 c1,ba,.int .i64 d1] 43)).alloc (.cells #[.int .i64 k2,.int .i64 i2,.int .i64 j2,pb,.slice tp n2 tc,.int .i64 f2,.int .i64 c2,bb,.int .i64 d2] 43):=⟨_,rfl⟩
 have HE0:Hid (Ext w W0):=Bl.hid (by rw [hW0];exact(ext_alloc _ _).trans (ext_alloc _ _))
 have HBa:Hid (BoxC W0 w.heap.size (cL ⟨k1,i1,j1,pl1,sh1,f1,c1,bl1,d1⟩ pa (.slice sp n1 sc) ba)):=Bl.hid (by rw [hW0];exact(BoxC.box w 43 (cL_ne _ _ _ _)).ext (ext_alloc _ _))
 have HBb:Hid (BoxC W0 (w.heap.size+1) (cL ⟨k2,i2,j2,pl2,sh2,f2,c2,bl2,d2⟩ pb (.slice tp n2 tc) bb)):=Bl.hid (by
  rw [hW0]
  have h:=BoxC.box (w.alloc (.cells #[.int .i64 k1,.int .i64 i1,.int .i64 j1,pa,.slice sp n1 sc,.int .i64 f1,.int .i64 c1,ba,.int .i64 d1] 43)) 43 (cL_ne ⟨k2,i2,j2,pl2,sh2,f2,c2,bl2,d2⟩ pb (.slice tp n2 tc) bb)
  rw [show(w.alloc (.cells #[.int .i64 k1,.int .i64 i1,.int .i64 j1,pa,.slice sp n1 sc,.int .i64 f1,.int .i64 c1,ba,.int .i64 d1] 43)).heap.size=w.heap.size+1 from by simp]at h
  exact h)
 show Calls Tryz.prog 15 #[.agg #[.int .i64 k1,.int .i64 i1,.int .i64 j1,pa,.slice sp n1 sc,.int .i64 f1,.int .i64 c1,ba,.int .i64 d1],.agg #[.int .i64 k2,.int .i64 i2,.int .i64 j2,pb,.slice tp n2 tc,.int .i64 f2,.int .i64 c2,bb,.int .i64 d2]] w _
 go_enter Tryz.func15,Tryz.ntmps15
 by_cases hd:k1=k2
 rotate_left
 ·have hd2:(k1==k2)=false:=by rw [beq_eq_false_iff_ne];exact hd
  have HV:Hid (sameL ⟨k1,i1,j1,pl1,sh1,f1,c1,bl1,d1⟩ ⟨k2,i2,j2,pl2,sh2,f2,c2,bl2,d2⟩=false):=Bl.hid (by
   unfold sameL;rw [decide_eq_false];intro q;injection q with q1 q2 q3 q4 q5 q6 q7 q8 q9;exact hd (by assumption))
  go_wp2_with fail
  go_ret
  refine⟨by rw [HV.out];rfl,?_⟩
  rw [<-hW0];exact HE0.out
 subst hd
 by_cases hd:i1=i2
 rotate_left
 ·have hd2:(i1==i2)=false:=by rw [beq_eq_false_iff_ne];exact hd
  have HV:Hid (sameL ⟨k1,i1,j1,pl1,sh1,f1,c1,bl1,d1⟩ ⟨k1,i2,j2,pl2,sh2,f2,c2,bl2,d2⟩=false):=Bl.hid (by
   unfold sameL;rw [decide_eq_false];intro q;injection q with q1 q2 q3 q4 q5 q6 q7 q8 q9;exact hd (by assumption))
  go_wp2_with fail
  go_ret
  refine⟨by rw [HV.out];rfl,?_⟩
  rw [<-hW0];exact HE0.out
 subst hd
 by_cases hd:j1=j2
 rotate_left
 ·have hd2:(j1==j2)=false:=by rw [beq_eq_false_iff_ne];exact hd
  have HV:Hid (sameL ⟨k1,i1,j1,pl1,sh1,f1,c1,bl1,d1⟩ ⟨k1,i1,j2,pl2,sh2,f2,c2,bl2,d2⟩=false):=Bl.hid (by
   unfold sameL;rw [decide_eq_false];intro q;injection q with q1 q2 q3 q4 q5 q6 q7 q8 q9;exact hd (by assumption))
  go_wp2_with fail
  go_ret
  refine⟨by rw [HV.out];rfl,?_⟩
  rw [<-hW0];exact HE0.out
 subst hd
 by_cases hd:f1=f2
 rotate_left
 ·have hd2:(f1==f2)=false:=by rw [beq_eq_false_iff_ne];exact hd
  have HV:Hid (sameL ⟨k1,i1,j1,pl1,sh1,f1,c1,bl1,d1⟩ ⟨k1,i1,j1,pl2,sh2,f2,c2,bl2,d2⟩=false):=Bl.hid (by
   unfold sameL;rw [decide_eq_false];intro q;injection q with q1 q2 q3 q4 q5 q6 q7 q8 q9;exact hd (by assumption))
  go_wp2_with fail
  go_ret
  refine⟨by rw [HV.out];rfl,?_⟩
  rw [<-hW0];exact HE0.out
 subst hd
 by_cases hd:c1=c2
 rotate_left
 ·have hd2:(c1==c2)=false:=by rw [beq_eq_false_iff_ne];exact hd
  have HV:Hid (sameL ⟨k1,i1,j1,pl1,sh1,f1,c1,bl1,d1⟩ ⟨k1,i1,j1,pl2,sh2,f1,c2,bl2,d2⟩=false):=Bl.hid (by
   unfold sameL;rw [decide_eq_false];intro q;injection q with q1 q2 q3 q4 q5 q6 q7 q8 q9;exact hd (by assumption))
  go_wp2_with fail
  go_ret
  refine⟨by rw [HV.out];rfl,?_⟩
  rw [<-hW0];exact HE0.out
 subst hd
 by_cases hd:d1=d2
 rotate_left
 ·have hd2:(d1==d2)=false:=by rw [beq_eq_false_iff_ne];exact hd
  have HV:Hid (sameL ⟨k1,i1,j1,pl1,sh1,f1,c1,bl1,d1⟩ ⟨k1,i1,j1,pl2,sh2,f1,c1,bl2,d2⟩=false):=Bl.hid (by
   unfold sameL;rw [decide_eq_false];intro q;injection q with q1 q2 q3 q4 q5 q6 q7 q8 q9;exact hd (by assumption))
  go_wp2_with fail
  go_ret
  refine⟨by rw [HV.out];rfl,?_⟩
  rw [<-hW0];exact HE0.out
 subst hd
 by_cases hd:n1=n2
 rotate_left
 ·have hd2:((n1:Int)==(n2:Int))=false:=by rw [beq_eq_false_iff_ne];omega
  have HV:Hid (sameL ⟨k1,i1,j1,pl1,sh1,f1,c1,bl1,d1⟩ ⟨k1,i1,j1,pl2,sh2,f1,c1,bl2,d1⟩=false):=Bl.hid (by
   unfold sameL;rw [decide_eq_false];intro q;injection q with q1 q2 q3 q4 q5
   refine hd ?_
   rw [Hn1.out,Hn2.out,<-List.length_map (f:=plS),<-List.length_map (f:=plS),Hma.out,Hmb.out,q5])
  go_wp2_with fail
  go_ret
  refine⟨by rw [HV.out];rfl,?_⟩
  rw [<-hW0];exact HE0.out
 subst hd
 go_wp2_with fail
 rw [<-hW0]
 clear hW0
 have HV:Hid (¬sh1=sh2->sameL ⟨k1,i1,j1,pl1,sh1,f1,c1,bl1,d1⟩ ⟨k1,i1,j1,pl2,sh2,f1,c1,bl2,d1⟩=false):=Bl.hid fun h=>by
  unfold sameL;rw [decide_eq_false];intro q;injection q with q1 q2 q3 q4 q5;exact h q5
 go_loopw [61] (fun x wr=>∃i:Nat,i<=n1/\x= .int .i64 i/\Hid (sh1.take i=sh2.take i)/\Ext W0 wr) (fun x _=>n1 - (intOf x).toNat)
 case atStart=>exact⟨0,Nat.zero_le _,rfl,Bl.hid rfl,Below.refl _ _⟩
 case round=>
  obtain⟨i,hi,rfl,Htk,hE⟩:=hrel
  have HE:=Bl.hid hE
  clear hE
  by_cases hlt:i < n1
  ·have hla:i < L.length:=by rw [<-Hn1.out];exact hlt
   have hlb:i < M.length:=by rw [<-Hn2.out];exact hlt
   have HEw:=Bl.hid (HE0.out.trans HE.out)
   have hRa:=HSa.out.ext HEw.out
   have hRb:=HSb.out.ext HEw.out
   obtain⟨g1,o1,cc1,hpe,_,_,_,hel1⟩:=hRa.pos (by omega)
   obtain⟨g2,o2,cc2,hpf,_,_,_,hel2⟩:=hRb.pos (by omega)
   injection hpe with hp1 hp2 hp3
   injection hpf with hq1 hq2 hq3
   subst hp1 hq1
   have hr1:=hel1 i hla
   have hr2:=hel2 i hlb
   have hok1:=hRa.ok _ (getD_mem s0 hla)
   have hok2:=hRb.ok _ (getD_mem s0 hlb)
   have hx1:plS (L.getD i s0)=sh1.getD i Bl.h0:=by rw [<-plS_getD,Hma.out]
   have hx2:plS (M.getD i s0)=sh2.getD i Bl.h0:=by rw [<-plS_getD,Hmb.out]
   have Ht1:Hid (sh1.take (i+1)=sh1.take i++[plS (L.getD i s0)]):=Bl.hid (by rw [hx1];exact take_succ_getDD Bl.h0 sh1 i (by rw [<-Hma.out,List.length_map];exact hla))
   have Ht2:Hid (sh2.take (i+1)=sh2.take i++[plS (M.getD i s0)]):=Bl.hid (by rw [hx2];exact take_succ_getDD Bl.h0 sh2 i (by rw [<-Hmb.out,List.length_map];exact hlb))
   have Hne:Hid (¬plS (L.getD i s0)=plS (M.getD i s0)->sameL ⟨k1,i1,j1,pl1,sh1,f1,c1,bl1,d1⟩ ⟨k1,i1,j1,pl2,sh2,f1,c1,bl2,d1⟩=false):=Bl.hid fun h=>HV.out fun q=>h (by rw [hx1,hx2,q])
   clear hx1 hx2
   obtain⟨x,hx⟩:∃x,x=L.getD i s0:=⟨_,rfl⟩
   obtain⟨y,hy⟩:∃y,y=M.getD i s0:=⟨_,rfl⟩
   rw [<-hx]at hr1 hok1 Ht1 Hne
   rw [<-hy]at hr2 hok2 Ht2 Hne
   clear hx hy
   obtain⟨z1,⟨v1,l1⟩,u1,e1⟩:=x
   obtain⟨z2,⟨v2,l2⟩,u2,e2⟩:=y
   have Hok1:=Bl.hid hok1
   have Hok2:=Bl.hid hok2
   obtain⟨vp1,vc1,hv1,_,_⟩:=hok1.st.form
   obtain⟨vp2,vc2,hv2,_,_⟩:=hok2.st.form
   obtain⟨up1,uc1,hu1,hun1,huc1⟩:=hok1.pa.form
   unfold maxLen at huc1
   obtain⟨up2,uc2,hu2,hun2,_⟩:=hok2.pa.form
   simp only at hv1 hv2 hu1 hu2 hun1 hun2
   subst hv1 hv2 hu1 hu2
   obtain⟨m1,hm1⟩:∃m1,m1=e1.length:=⟨_,rfl⟩
   obtain⟨m2,hm2⟩:∃m2,m2=e2.length:=⟨_,rfl⟩
   have Hm1:=Bl.hid hm1
   have Hm2:=Bl.hid hm2
   rw [<-hm1]at Hok1 hok1 hr1 hun1 Ht1 Hne
   rw [<-hm2]at Hok2 hok2 hr2 hun2 Ht2 Hne
   have Hld1:=Bl.hid (run_loadAt_mid (P:=Tryz.prog) wr g1 (o1+i*3) 100 _ _ hr1 Tryz.underlying100 rfl (by rw [cS_len];kernel_rfl))
   obtain⟨hB6,hE6⟩:=BoxC.fresh (cs:=cS (z1,(.slice vp1 l1.length vc1,l1),.slice up1 m1 uc1,e1)) wr 100 zSh rfl (cS_ne _)
   have Hst1:=Bl.hid (fresh_store (P:=Tryz.prog) (cs:=cS (z1,(.slice vp1 l1.length vc1,l1),.slice up1 m1 uc1,e1)) wr 100 zSh rfl (cS_one hok1) (ty:=100) (by rw [cS_len];kernel_rfl))
   have HB6:=Bl.hid hB6
   have HE6:=Bl.hid hE6
   have Hr2:=Bl.hid hr2
   have hi0:(0:Int)<=(i:Int):=by omega
   have hi1:(i:Int) < (n1:Int):=by omega
   clear hel1 hel2 hp2 hp3 hq2 hq3 hla hlb hr1 hr2 hok1 hok2 hB6 hE6 hRa hRb hm1 hm2
   go_wp2_with (with_reducible refine stop_load (ty:=100) ?_)
   refine go_on ?_
   refine wpL_load rfl Hld1.out ?_
   go_wp2_with (with_reducible refine stop_store (ty:=100) ?_)
   refine go_on ?_
   refine wpL_store0 rfl rfl Hst1.out ?_
   obtain⟨W6,hW6⟩:∃W6,W6=(wr.alloc (.cells zSh 100)).setCells wr.heap.size 0 (cS (z1,(.slice vp1 l1.length vc1,l1),.slice up1 m1 uc1,e1)):=⟨_,rfl⟩
   obtain⟨X6,hX6⟩:∃X6,X6=wr.heap.size:=⟨_,rfl⟩
   rw [<-hW6]at HB6 HE6⊢
   rw [<-hX6]at HB6⊢
   clear hW6 hX6 Hst1 Hld1
   have Hld2:=Bl.hid (run_loadAt_mid (P:=Tryz.prog) W6 g2 (o2+i*3) 100 _ _ (rangeAt_ext Hr2.out HE6.out) Tryz.underlying100 rfl (by rw [cS_len];kernel_rfl))
   obtain⟨hB7,hE7⟩:=BoxC.fresh (cs:=cS (z2,(.slice vp2 l2.length vc2,l2),.slice up2 m2 uc2,e2)) W6 100 zSh rfl (cS_ne _)
   have Hst2:=Bl.hid (fresh_store (P:=Tryz.prog) (cs:=cS (z2,(.slice vp2 l2.length vc2,l2),.slice up2 m2 uc2,e2)) W6 100 zSh rfl (cS_one Hok2.out) (ty:=100) (by rw [cS_len];kernel_rfl))
   have HB7:=Bl.hid hB7
   have HB67:=Bl.hid (HB6.out.ext hE7)
   have HE7:=Bl.hid (HE6.out.trans hE7)
   have gb4:=(HBb.out.ext (HE.out.trans HE6.out)).cell (i:=4) rfl
   clear hB7 hE7
   go_wp2_with (with_reducible refine stop_load (ty:=100) ?_)
   refine go_on ?_
   refine wpL_load rfl Hld2.out ?_
   go_wp2_with (with_reducible refine stop_store (ty:=100) ?_)
   refine go_on ?_
   refine wpL_store0 rfl rfl Hst2.out ?_
   obtain⟨W7,hW7⟩:∃W7,W7=(W6.alloc (.cells zSh 100)).setCells W6.heap.size 0 (cS (z2,(.slice vp2 l2.length vc2,l2),.slice up2 m2 uc2,e2)):=⟨_,rfl⟩
   obtain⟨X7,hX7⟩:∃X7,X7=W6.heap.size:=⟨_,rfl⟩
   rw [<-hW7]at HB7 HB67 HE7⊢
   rw [<-hX7]at HB7⊢
   clear hW7 hX7 Hst2 Hld2 HB6 HE6 gb4 Hr2
   have q60:=HB67.out.cell (i:=0) rfl
   have q61:=HB67.out.cell (i:=1) rfl
   have q62:=HB67.out.cell (i:=2) rfl
   have q70:=HB7.out.cell (i:=0) rfl
   have q71:=HB7.out.cell (i:=1) rfl
   have q72:=HB7.out.cell (i:=2) rfl
   by_cases hz:z1=z2
   rotate_left
   ·have hz2:(z1==z2)=false:=by rw [beq_eq_false_iff_ne];exact hz
    have HV2:=Bl.hid (Hne.out (fun q=>hz (congrArg Prod.fst q)))
    go_wp2_with fail
    go_ret
    exact⟨by rw [HV2.out];rfl,(HEw.out.trans HE7.out)⟩
   subst hz
   have hcv1:=conv_bytes (P:=Tryz.prog) (Hok1.out.st.ext HE7.out) Tryz.underlying27 Tryz.underlying5 Tryz.underlying9
   have hcv2:=conv_bytes (P:=Tryz.prog) (Hok2.out.st.ext HE7.out) Tryz.underlying27 Tryz.underlying5 Tryz.underlying9
   simp only at hcv1 hcv2
   by_cases hl:l1=l2
   rotate_left
   ·have hq:=bstr_beq Hok1.out.bs Hok2.out.bs
    simp only at hq
    rw [decide_eq_false hl]at hq
    have hq2:¬(bstr l1=bstr l2):=fun q=>by rw [q]at hq;simp at hq
    have HV2:=Bl.hid (Hne.out (fun q=>hl (congrArg (fun s:Sh=>s.2.1) q)))
    go_wp2_with fail
    go_ret
    exact⟨by rw [HV2.out];rfl,(HEw.out.trans HE7.out)⟩
   subst hl
   by_cases hm:m1=m2
   rotate_left
   ·have hm3:((m1:Int)==(m2:Int))=false:=by rw [beq_eq_false_iff_ne];omega
    have HV2:=Bl.hid (Hne.out (fun q=>hm (by rw [Hm1.out,Hm2.out];exact congrArg (fun s:Sh=>s.2.2.length) q)))
    go_wp2_with fail
    go_ret
    exact⟨by rw [HV2.out];rfl,(HEw.out.trans HE7.out)⟩
   subst hm
   go_wp2_with fail
   clear hcv1 hcv2 q60 q61 q62 q70 q71 q72
   go_loopw [97] (fun y wr=>∃k:Nat,k<=m1/\y= .int .i64 k/\Hid (e1.take k=e2.take k)/\Ext W7 wr) (fun y _=>m1 - (intOf y).toNat)
   case atStart=>exact⟨0,Nat.zero_le _,rfl,Bl.hid rfl,Below.refl _ _⟩
   case round=>
    obtain⟨k,hk,rfl,Hdk,hE8⟩:=hrel
    have HE8:=Bl.hid hE8
    clear hE8
    by_cases hkt:k < m1
    ·have hka:k < e1.length:=by rw [<-Hm1.out];exact hkt
     have hkb:k < e2.length:=by rw [<-Hm2.out];exact hkt
     obtain⟨b1,p1,c1',hpa,_,_,_,hrg1⟩:=RdD.pos (Rds.ext (Rds.ext Hok1.out.pa HE7.out) HE8.out) Hok1.out.dg (by simp only;omega)
     obtain⟨b2,p2,c2',hpb,_,_,_,hrg2⟩:=RdD.pos (Rds.ext (Rds.ext Hok2.out.pa HE7.out) HE8.out) Hok2.out.dg (by simp only;omega)
     injection hpa with hpa hpa3 hpa4
     injection hpb with hpb hpb3 hpb4
     clear hpa3 hpa4 hpb3 hpb4
     subst hpa hpb
     have hr1:=digit_at hrg1 Hok1.out.dg (i:=k) hka
     have hr2:=digit_at hrg2 Hok2.out.dg (i:=k) hkb
     obtain⟨hl1,_⟩:=Hok1.out.dg.get (i:=k) hka
     obtain⟨hl2,_⟩:=Hok2.out.dg.get (i:=k) hkb
     have Hk1:=Bl.hid (take_succ_getDD [] e1 k hka)
     have Hk2:=Bl.hid (take_succ_getDD [] e2 k hkb)
     have Hnk:Hid (¬e1.getD k []=e2.getD k []->sameL ⟨k1,i1,j1,pl1,sh1,f1,c1,bl1,d1⟩ ⟨k1,i1,j1,pl2,sh2,f1,c1,bl2,d1⟩=false):=Bl.hid fun h=>Hne.out fun q=>h (by
      have q2:e1=e2:=congrArg (fun s:Sh=>s.2.2) q
      rw [q2])
     simp only at hr1 hr2 hl1 hl2
     obtain⟨x1,hx1⟩:∃x1,x1=e1.getD k []:=⟨_,rfl⟩
     obtain⟨x2,hx2⟩:∃x2,x2=e2.getD k []:=⟨_,rfl⟩
     rw [<-hx1]at hr1 hl1 Hk1 Hnk
     rw [<-hx2]at hr2 hl2 Hk2 Hnk
     have HL1:Hid (∀w2,Ext wr w2->(Instr.loadAt 52 (.pointer (some ⟨b1,p1+k*32,none⟩))).run Tryz.prog w2= .ok (.agg (ints .u8 x1).toArray) w2):=Bl.hid fun w2 h2=>load_ints (rangeAt_ext hr1 h2) Tryz.underlying52 (by kernel_rfl) hl1
     have HL2:Hid (∀w2,Ext wr w2->(Instr.loadAt 52 (.pointer (some ⟨b2,p2+k*32,none⟩))).run Tryz.prog w2= .ok (.agg (ints .u8 x2).toArray) w2):=Bl.hid fun w2 h2=>load_ints (rangeAt_ext hr2 h2) Tryz.underlying52 (by kernel_rfl) hl2
     have Hq:Hid (∀w,(Op.equalIn 10000 52 (.agg (ints .u8 x1).toArray) (.agg (ints .u8 x2).toArray)).run Tryz.prog w= .ok (decide (x1=x2)) w):=Bl.hid fun w=>eq10k Tryz.underlying52 Tryz.underlying5 (fun w=>by simp [go_sem]) x1 x2 hl1 hl2 w
     have HB6r:=Bl.hid (HB67.out.ext HE8.out)
     have HB7r:=Bl.hid (HB7.out.ext HE8.out)
     clear hr1 hr2 hl1 hl2 hrg1 hrg2 hx1 hx2 hka hkb
     have hk0:(0:Int)<=(k:Int):=by omega
     have hkl:(k:Int) < (m1:Int):=by omega
     by_cases hxy:x1=x2
     ·have heq:=Hq.out
      rw [decide_eq_true hxy]at heq
      have Hxy:=Bl.hid hxy
      clear hxy Hq
      go_wp2_with fail
      apply wp_region_ev 10 [100,101,102,103,104,105,106,107,108,109] [eqv _,eqv _,eqv _,eqv _,eqv _,eqv _,eqv _,eqv _,eqv _,eqv _] (by kernel_rfl) (by kernel_rfl) (by kernel_rfl) (by kernel_rfl)
      case hsteps=>
       refine⟨?_,?_,?_,?_,?_,?_,?_,?_,?_,?_,trivial⟩
       all_goals
        intro ev w1 hext hb hd
        have e6:=hb 6 (by decide)
        have e7:=hb 7 (by decide)
        have e8:=hb 8 (by decide)
        clear hb
        simp only [Qa,Qb,Q1,Bl.Q2,Qd]at e6 e7 e8
        simp only [DepsE,Q1,Bl.Q2,Qc,Q3,Q4,eqv,and_true]at hd
        have hc:=(bcell hext).1
        have q62:=(HB6r.out.ext hext).cell (i:=2) rfl
        have q72:=(HB7r.out.ext hext).cell (i:=2) rfl
        simp only [Bl.Good,Region.wanted,if_true]
        first
        | ((with_reducible refine goodR_load ?_ (HL1.out _ hext) ?_);exact hd;exact rfl) | ((with_reducible refine goodR_load ?_ (HL2.out _ hext) ?_);exact hd;exact rfl)
        | (go_simp;first | exact⟨Below.refl _ _,rfl⟩ | exact⟨Below.refl _ _,rfl⟩)
      case hmono=>exact⟨mono_eqv _,mono_eqv _,mono_eqv _,mono_eqv _,mono_eqv _,mono_eqv _,mono_eqv _,mono_eqv _,mono_eqv _,mono_eqv _,trivial⟩
      case hend=>
       intro u w1 hext hend
       simp only [EndE,Q1,Bl.Q2,Qc,Q3,Q4,eqv,true_and]at hend
       simp only [fillAct,Q5,Q6,Q7,Q8,Q9,hend]
       have HE9:=Bl.hid (HE8.out.trans hext)
       clear hext hend
       go_wp2_with fail
       go_roundw
       case rel=>exact⟨k+1,by omega,by go_num,Bl.hid (by rw [Hk1.out,Hk2.out,Hdk.out,Hxy.out]),HE9.out⟩
       case measure=>simp [intOf];omega
     ·have heq:=Hq.out
      rw [decide_eq_false hxy]at heq
      have HV2:=Bl.hid (Hnk.out hxy)
      clear hxy Hq
      go_wp2_with fail
      apply wp_region_ev 10 [100,101,102,103,104,105,106,107,108,109] [eqv _,eqv _,eqv _,eqv _,eqv _,eqv _,eqv _,eqv _,eqv _,eqv _] (by kernel_rfl) (by kernel_rfl) (by kernel_rfl) (by kernel_rfl)
      case hsteps=>
       refine⟨?_,?_,?_,?_,?_,?_,?_,?_,?_,?_,trivial⟩
       all_goals
        intro ev w1 hext hb hd
        have e6:=hb 6 (by decide)
        have e7:=hb 7 (by decide)
        have e8:=hb 8 (by decide)
        clear hb
        simp only [Qa,Qb,Q1,Bl.Q2,Qd]at e6 e7 e8
        simp only [DepsE,Q1,Bl.Q2,Qc,Q3,Q4,eqv,and_true]at hd
        have hc:=(bcell hext).1
        have q62:=(HB6r.out.ext hext).cell (i:=2) rfl
        have q72:=(HB7r.out.ext hext).cell (i:=2) rfl
        simp only [Bl.Good,Region.wanted,if_true]
        first
        | ((with_reducible refine goodR_load ?_ (HL1.out _ hext) ?_);exact hd;exact rfl) | ((with_reducible refine goodR_load ?_ (HL2.out _ hext) ?_);exact hd;exact rfl)
        | (go_simp;first | exact⟨Below.refl _ _,rfl⟩ | exact⟨Below.refl _ _,rfl⟩)
      case hmono=>exact⟨mono_eqv _,mono_eqv _,mono_eqv _,mono_eqv _,mono_eqv _,mono_eqv _,mono_eqv _,mono_eqv _,mono_eqv _,mono_eqv _,trivial⟩
      case hend=>
       intro u w1 hext hend
       simp only [EndE,Q1,Bl.Q2,Qc,Q3,Q4,eqv,true_and]at hend
       simp only [fillAct,Q5,Q6,Q7,Q8,Q9,hend]
       have HE9:=Bl.hid ((HEw.out.trans (HE7.out.trans HE8.out)).trans hext)
       clear hext hend
       go_wp2_with fail
       go_ret
       exact⟨by rw [HV2.out];rfl,HE9.out⟩
    ·obtain rfl:k=m1:=by omega
     have He12:Hid (e1=e2):=Bl.hid (by
      have h:=Hdk.out
      rwa [List.take_of_length_le (by rw [<-Hm1.out];exact Nat.le_refl _),List.take_of_length_le (by rw [<-Hm2.out];exact Nat.le_refl _)]at h)
     have HEn:=Bl.hid (HE.out.trans (HE7.out.trans HE8.out))
     go_wp2_with fail
     go_roundw
     case rel=>exact⟨i+1,by omega,by go_num,Bl.hid (by rw [Ht1.out,Ht2.out,Htk.out];show _++[(z1,l1,e1)]=_++[(z1,l1,e2)];rw [He12.out]),HEn.out⟩
     case measure=>simp [intOf];omega
  ·obtain rfl:i=n1:=by omega
   have Hsh:Hid (sh1=sh2):=Bl.hid (by
    have h:=Htk.out
    rwa [List.take_of_length_le (by rw [<-Hma.out,List.length_map,<-Hn1.out];exact Nat.le_refl _),List.take_of_length_le (by rw [<-Hmb.out,List.length_map,<-Hn2.out];exact Nat.le_refl _)]at h)
   have HD2:Hid (sameL ⟨k1,i1,j1,pl1,sh1,f1,c1,bl1,d1⟩ ⟨k1,i1,j1,pl2,sh2,f1,c1,bl2,d1⟩=(decide (pl1=pl2)&&decide (bl1=bl2))):=Bl.hid (by rw [HD.out];simp [Bl.LT.nums,Hsh.out])
   have HEw:=Bl.hid (HE0.out.trans HE.out)
   have ga:=(HBa.out.ext HE.out).cell (i:=3) rfl
   have gb:=(HBb.out.ext HE.out).cell (i:=3) rfl
   clear HD HV hlt hi Htk
   generalize decide (pl1=pl2)=y1 at*
   generalize decide (bl1=bl2)=y2 at*
   go_wp2_with fail
   refine(HI.out wr HEw.out).mono ?_
   rintro e w1 ⟨rfl,hE1⟩
   have HE1:=Bl.hid (HEw.out.trans hE1)
   have HBa1:=Bl.hid ((HBa.out.ext HE.out).ext hE1)
   have HBb1:=Bl.hid ((HBb.out.ext HE.out).ext hE1)
   clear hE1 ga gb
   cases y1
   ·go_wp2_with fail
    go_ret
    exact⟨by rw [HD2.out];rfl,HE1.out⟩
   have ga:=HBa1.out.cell (i:=7) rfl
   have gb:=HBb1.out.cell (i:=7) rfl
   go_wp2_with fail
   refine(HB.out w1 HE1.out).mono ?_
   rintro e w2 ⟨rfl,hE2⟩
   have HE2:=Bl.hid (HE1.out.trans hE2)
   clear hE2 ga gb
   cases y2
   ·go_wp2_with fail
    go_ret
    exact⟨by rw [HD2.out];rfl,HE2.out⟩
   ·go_wp2_with fail
    go_ret
    exact⟨by rw [HD2.out];rfl,HE2.out⟩
end Go.Proofs.YtglenbikdahgjaaGreatDoor
