/- Walk of baileeref22.laid. -/
import Derived.Test.YtglenbikdahgjaaGreatDoorPk29
set_option maxRecDepth 100000
set_option maxHeartbeats 16000000
namespace Go.Proofs.YtglenbikdahgjaaGreatDoor
open Go Go.RowKit Go.Proofs Go.Proofs.Bl
theorem rlaid2_any (v:Value) (l:Bl.LT) (w:World) (h:LtV w v l) (hk:l.kind=2) (hn:numOk l=true) (hz:sizOk l=true):
  Calls Tryz.prog 60 #[v] w fun e w'=>∃v',e= .returned v'/\Rd w' .u8 v' (bytL l)/\Ext w w':=by
 obtain⟨cs0,vp,vs,vb,L,rfl,hc⟩:=h
 obtain rfl:=hc.eq
 obtain⟨hid,hoj,hnt⟩:=numOk_id hn
 obtain⟨kd,id,oj,pl,sh,fr,ct,bl,cd⟩:=l
 obtain⟨p1,c1,e1,hc1,hm1⟩:=hc.pl.form
 obtain⟨p2,c2,e2,hc2,hm2⟩:=hc.sh.rd.form
 obtain⟨p3,c3,e3,hc3,hm3⟩:=hc.bl.form
 have Hpl:Hid (Rd w .i64 vp pl):=Bl.hid hc.pl
 have Hsh:=Bl.hid hc.sh
 have Hsl:Hid (L.map plS=sh):=Bl.hid hc.sl
 have Hbl:Hid (Rdss w vb bl):=Bl.hid hc.bl
 simp only at e1 e2 e3 hk hid hoj hc1 hc3
 subst e1 e2 e3
 clear hc hn
 unfold maxLen at hm1 hm2 hm3
 obtain⟨np,hnp⟩:∃np,np=pl.length:=⟨_,rfl⟩
 obtain⟨ns,hns⟩:∃ns,ns=L.length:=⟨_,rfl⟩
 obtain⟨nb,hnb⟩:∃nb,nb=bl.length:=⟨_,rfl⟩
 have Hnp:=Bl.hid hnp
 have Hns:=Bl.hid hns
 have Hnb:=Bl.hid hnb
 rw [<-hnp]at Hpl hc1⊢
 rw [<-hns]at Hsh hc2⊢
 rw [<-hnb]at Hbl hc3⊢
 clear hnp hns hnb
 have Hnt:=Bl.hid hnt
 have Hz:=Bl.hid hz
 clear hnt hz
 subst hk
 obtain⟨W0,hW0⟩:∃W0,W0=w.alloc (.cells #[.int .i64 2,.int .i64 id,.int .i64 oj,.slice p1 np c1,.slice p2 ns c2,.int .i64 fr,.int .i64 ct,.slice p3 nb c3,.int .i64 cd] 43):=⟨_,rfl⟩
 have HE0:Hid (Ext w W0):=Bl.hid (by rw [hW0];exact ext_alloc _ _)
 obtain⟨CS,hCS⟩:∃CS,CS=cL ⟨2,id,oj,pl,sh,fr,ct,bl,cd⟩ (.slice p1 np c1) (.slice p2 ns c2) (.slice p3 nb c3):=⟨_,rfl⟩
 have HB:Hid (BoxC W0 w.heap.size CS):=Bl.hid (by rw [hW0,hCS];exact BoxC.box w 43 (cs:=(cL ⟨2,id,oj,pl,sh,fr,ct,bl,cd⟩ (.slice p1 np c1) (.slice p2 ns c2) (.slice p3 nb c3))) (fun h=>by cases h))
 have HC:Hid (CS[0]? =some (.int .i64 2)/\CS[1]? =some (.int .i64 id)/\CS[2]? =some (.int .i64 oj)/\CS[3]? =some (.slice p1 np c1)/\CS[4]? =some (.slice p2 ns c2)/\CS[5]? =some (.int .i64 fr)/\CS[6]? =some (.int .i64 ct)/\CS[7]? =some (.slice p3 nb c3)/\CS[8]? =some (.int .i64 cd)):=Bl.hid (by rw [hCS];exact⟨rfl,rfl,rfl,rfl,rfl,rfl,rfl,rfl,rfl⟩)
 show Calls Tryz.prog 60 #[.agg #[.int .i64 2,.int .i64 id,.int .i64 oj,.slice p1 np c1,.slice p2 ns c2,.int .i64 fr,.int .i64 ct,.slice p3 nb c3,.int .i64 cd]] w _
 obtain⟨hi1,hi2⟩:=hid
 obtain⟨hj1,hj2⟩:=hoj
 have hwk:IntKind.u8.wrap 2=2:=rfl
 clear hCS
 go_enter Tryz.func60,Tryz.ntmps60
 go_wp2_with fail
 rw [<-hW0]
 clear hW0
 apply wp_region_ev 7 [12,13,14,15,16,17,18] [eqv _,eqv _,eqv _,(fun v w'=>Pk w' (w.heap.size+1) 1 v 1 [.int .u8 2]),eqv _,eqv _,(fun v w'=>SlB w' v (numL id))] (by kernel_rfl) (by kernel_rfl) (by kernel_rfl) (by kernel_rfl)
 case hsteps=>
  refine⟨?_,?_,?_,?_,?_,?_,?_,trivial⟩
  all_goals
   intro ev w1 hext hb hd
   have e1:=hb 1 (by decide)
   clear hb
   simp only [Qa,Qb,Q1,Bl.Q2,Qd]at e1
   simp only [DepsE,Q1,Bl.Q2,Qc,Q3,Q4,eqv,and_true]at hd
   have hc:=(bcell hext).1
   have q0:=(HB.out.ext hext).cell HC.out.1
   have q1:=(HB.out.ext hext).cell HC.out.2.1
   simp only [Bl.Good,Region.wanted,if_true]
   go_simp
   first | exact⟨ext_alloc _ _,pk_new1 _ _ _ (HB.out.ext hext).lt⟩ | (go_at_call 104;(with_reducible refine(rnumber_any id w1 hi1 hi2).mono ?_);rintro e w2 ⟨v',rfl,h1,h2⟩;exact⟨_,rfl,h2,h1⟩) | exact⟨Below.refl _ _,by rw [hwk];rfl⟩ | exact⟨Below.refl _ _,rfl⟩
 case hmono=>exact⟨mono_eqv _,mono_eqv _,mono_eqv _,(fun _ _ _ h k=>Pk.ext h k),mono_eqv _,mono_eqv _,(fun _ _ _ h k=>SlB.ext h k),trivial⟩
 case hend=>
  intro u w1 hext hend
  simp only [EndE,Q1,Bl.Q2,Qc,Q3,Q4,eqv,true_and]at hend
  simp only [fillAct,Q5,Q6,Q7,Q8,Q9,hend]
  have hp15:Pk w1 (w.heap.size+1) 1 (u 15) 1 [.int .u8 2]:=(by first | ((repeat(first | exact hend | exact hend.2 | replace hend:=hend.1));done) | (repeat(first | exact hend | exact hend.1 | replace hend:=hend.2)))
  have hs18:SlB w1 (u 18) (numL id):=(by first | ((repeat(first | exact hend | exact hend.2 | replace hend:=hend.1));done) | (repeat(first | exact hend | exact hend.1 | replace hend:=hend.2)))
  obtain⟨b18,o18,c18,hv18',hr18⟩:=slb_pos hs18 (show 0 < 8 by decide)
  have hv18:u 18= .slice (some ⟨b18,o18,none⟩) 8 c18:=hv18'
  have HA0:Hid (Bl.Acc w CS w1 (u 15) 1 [2]):=Bl.hid ⟨HB.out.ext hext,hp15,HE0.out.trans hext⟩
  obtain⟨v15,hv15⟩:∃v15,v15=u 15:=⟨_,rfl⟩
  rw [<-hv15]at HA0
  rw [<-hv15,hv18]
  have R18:=Bl.hid hr18
  clear hp15 hs18 hv18 hv18' hr18 hv15 hend hext HB hwk HE0
  obtain⟨p15,c15,rfl⟩:=HA0.out.form
  go_wp2_with (with_reducible refine stop_append ?_)
  refine go_on ?_
  refine wpL_appPk tBytes HA0.out.own R18.out rfl (ints_one _ _) (by decide) (by decide) (by decide) HA0.out.le rfl rfl ?_
  intro vHA1 wHA1 hp hg hk
  have h:Bl.Acc w CS wHA1 vHA1 (9) (2 :: numL id):=HA0.out.push hp hg
  obtain⟨pHA1,cHA1,rfl⟩:=h.form
  have HA1:=Bl.hid h
  clear hp hg hk h HA0
  have q2:=HA1.out.box.cell HC.out.2.2.1
  go_wp2_with fail
  refine(rnumber_any oj _ hj1 hj2).mono ?_
  rintro e wx ⟨vx,rfl,hsx,hEx⟩
  obtain⟨bx,ox,cx,hvx',hrx⟩:=slb_pos hsx (show 0 < 8 by decide)
  have hvx:vx= .slice (some ⟨bx,ox,none⟩) 8 cx:=hvx'
  clear hvx'
  subst hvx
  have HAx:=Bl.hid (HA1.out.ext' hEx)
  have Rx:=Bl.hid hrx
  clear hsx hEx hrx q2 HA1
  go_wp2_with (with_reducible refine stop_append ?_)
  refine go_on ?_
  refine wpL_appPk tBytes HAx.out.own Rx.out rfl (ints_one _ _) (by decide) (by decide) (by decide) HAx.out.le rfl rfl ?_
  intro vHA2 wHA2 hp hg hk
  have h:Bl.Acc w CS wHA2 vHA2 (17) (2 :: (numL id++numL oj)):=HAx.out.push hp hg
  obtain⟨pHA2,cHA2,rfl⟩:=h.form
  have HA2:=Bl.hid h
  clear hp hg hk h HAx
  have q0:=HA2.out.box.cell HC.out.1
  ·have HV:Hid (bytL ⟨2,id,oj,pl,sh,fr,ct,bl,cd⟩=2 :: (numL id++numL oj)):=Bl.hid (by unfold bytL tailL;simp [])
   go_wp2_with fail
   go_ret
   refine⟨_,rfl,?_,HA2.out.ext⟩
   rw [HV.out]
   exact HA2.out.rd rfl
theorem rlaid3_any (v:Value) (l:Bl.LT) (w:World) (h:LtV w v l) (hk:l.kind=3) (hn:numOk l=true) (hz:sizOk l=true):
  Calls Tryz.prog 60 #[v] w fun e w'=>∃v',e= .returned v'/\Rd w' .u8 v' (bytL l)/\Ext w w':=by
 obtain⟨cs0,vp,vs,vb,L,rfl,hc⟩:=h
 obtain rfl:=hc.eq
 obtain⟨hid,hoj,hnt⟩:=numOk_id hn
 obtain⟨kd,id,oj,pl,sh,fr,ct,bl,cd⟩:=l
 obtain⟨p1,c1,e1,hc1,hm1⟩:=hc.pl.form
 obtain⟨p2,c2,e2,hc2,hm2⟩:=hc.sh.rd.form
 obtain⟨p3,c3,e3,hc3,hm3⟩:=hc.bl.form
 have Hpl:Hid (Rd w .i64 vp pl):=Bl.hid hc.pl
 have Hsh:=Bl.hid hc.sh
 have Hsl:Hid (L.map plS=sh):=Bl.hid hc.sl
 have Hbl:Hid (Rdss w vb bl):=Bl.hid hc.bl
 simp only at e1 e2 e3 hk hid hoj hc1 hc3
 subst e1 e2 e3
 clear hc hn
 unfold maxLen at hm1 hm2 hm3
 obtain⟨np,hnp⟩:∃np,np=pl.length:=⟨_,rfl⟩
 obtain⟨ns,hns⟩:∃ns,ns=L.length:=⟨_,rfl⟩
 obtain⟨nb,hnb⟩:∃nb,nb=bl.length:=⟨_,rfl⟩
 have Hnp:=Bl.hid hnp
 have Hns:=Bl.hid hns
 have Hnb:=Bl.hid hnb
 rw [<-hnp]at Hpl hc1⊢
 rw [<-hns]at Hsh hc2⊢
 rw [<-hnb]at Hbl hc3⊢
 clear hnp hns hnb
 have Hnt:=Bl.hid hnt
 have Hz:=Bl.hid hz
 clear hnt hz
 subst hk
 obtain⟨W0,hW0⟩:∃W0,W0=w.alloc (.cells #[.int .i64 3,.int .i64 id,.int .i64 oj,.slice p1 np c1,.slice p2 ns c2,.int .i64 fr,.int .i64 ct,.slice p3 nb c3,.int .i64 cd] 43):=⟨_,rfl⟩
 have HE0:Hid (Ext w W0):=Bl.hid (by rw [hW0];exact ext_alloc _ _)
 obtain⟨CS,hCS⟩:∃CS,CS=cL ⟨3,id,oj,pl,sh,fr,ct,bl,cd⟩ (.slice p1 np c1) (.slice p2 ns c2) (.slice p3 nb c3):=⟨_,rfl⟩
 have HB:Hid (BoxC W0 w.heap.size CS):=Bl.hid (by rw [hW0,hCS];exact BoxC.box w 43 (cs:=(cL ⟨3,id,oj,pl,sh,fr,ct,bl,cd⟩ (.slice p1 np c1) (.slice p2 ns c2) (.slice p3 nb c3))) (fun h=>by cases h))
 have HC:Hid (CS[0]? =some (.int .i64 3)/\CS[1]? =some (.int .i64 id)/\CS[2]? =some (.int .i64 oj)/\CS[3]? =some (.slice p1 np c1)/\CS[4]? =some (.slice p2 ns c2)/\CS[5]? =some (.int .i64 fr)/\CS[6]? =some (.int .i64 ct)/\CS[7]? =some (.slice p3 nb c3)/\CS[8]? =some (.int .i64 cd)):=Bl.hid (by rw [hCS];exact⟨rfl,rfl,rfl,rfl,rfl,rfl,rfl,rfl,rfl⟩)
 show Calls Tryz.prog 60 #[.agg #[.int .i64 3,.int .i64 id,.int .i64 oj,.slice p1 np c1,.slice p2 ns c2,.int .i64 fr,.int .i64 ct,.slice p3 nb c3,.int .i64 cd]] w _
 obtain⟨hi1,hi2⟩:=hid
 obtain⟨hj1,hj2⟩:=hoj
 have hwk:IntKind.u8.wrap 3=3:=rfl
 clear hCS
 go_enter Tryz.func60,Tryz.ntmps60
 go_wp2_with fail
 rw [<-hW0]
 clear hW0
 apply wp_region_ev 7 [12,13,14,15,16,17,18] [eqv _,eqv _,eqv _,(fun v w'=>Pk w' (w.heap.size+1) 1 v 1 [.int .u8 3]),eqv _,eqv _,(fun v w'=>SlB w' v (numL id))] (by kernel_rfl) (by kernel_rfl) (by kernel_rfl) (by kernel_rfl)
 case hsteps=>
  refine⟨?_,?_,?_,?_,?_,?_,?_,trivial⟩
  all_goals
   intro ev w1 hext hb hd
   have e1:=hb 1 (by decide)
   clear hb
   simp only [Qa,Qb,Q1,Bl.Q2,Qd]at e1
   simp only [DepsE,Q1,Bl.Q2,Qc,Q3,Q4,eqv,and_true]at hd
   have hc:=(bcell hext).1
   have q0:=(HB.out.ext hext).cell HC.out.1
   have q1:=(HB.out.ext hext).cell HC.out.2.1
   simp only [Bl.Good,Region.wanted,if_true]
   go_simp
   first | exact⟨ext_alloc _ _,pk_new1 _ _ _ (HB.out.ext hext).lt⟩ | (go_at_call 104;(with_reducible refine(rnumber_any id w1 hi1 hi2).mono ?_);rintro e w2 ⟨v',rfl,h1,h2⟩;exact⟨_,rfl,h2,h1⟩) | exact⟨Below.refl _ _,by rw [hwk];rfl⟩ | exact⟨Below.refl _ _,rfl⟩
 case hmono=>exact⟨mono_eqv _,mono_eqv _,mono_eqv _,(fun _ _ _ h k=>Pk.ext h k),mono_eqv _,mono_eqv _,(fun _ _ _ h k=>SlB.ext h k),trivial⟩
 case hend=>
  intro u w1 hext hend
  simp only [EndE,Q1,Bl.Q2,Qc,Q3,Q4,eqv,true_and]at hend
  simp only [fillAct,Q5,Q6,Q7,Q8,Q9,hend]
  have hp15:Pk w1 (w.heap.size+1) 1 (u 15) 1 [.int .u8 3]:=(by first | ((repeat(first | exact hend | exact hend.2 | replace hend:=hend.1));done) | (repeat(first | exact hend | exact hend.1 | replace hend:=hend.2)))
  have hs18:SlB w1 (u 18) (numL id):=(by first | ((repeat(first | exact hend | exact hend.2 | replace hend:=hend.1));done) | (repeat(first | exact hend | exact hend.1 | replace hend:=hend.2)))
  obtain⟨b18,o18,c18,hv18',hr18⟩:=slb_pos hs18 (show 0 < 8 by decide)
  have hv18:u 18= .slice (some ⟨b18,o18,none⟩) 8 c18:=hv18'
  have HA0:Hid (Bl.Acc w CS w1 (u 15) 1 [3]):=Bl.hid ⟨HB.out.ext hext,hp15,HE0.out.trans hext⟩
  obtain⟨v15,hv15⟩:∃v15,v15=u 15:=⟨_,rfl⟩
  rw [<-hv15]at HA0
  rw [<-hv15,hv18]
  have R18:=Bl.hid hr18
  clear hp15 hs18 hv18 hv18' hr18 hv15 hend hext HB hwk HE0
  obtain⟨p15,c15,rfl⟩:=HA0.out.form
  go_wp2_with (with_reducible refine stop_append ?_)
  refine go_on ?_
  refine wpL_appPk tBytes HA0.out.own R18.out rfl (ints_one _ _) (by decide) (by decide) (by decide) HA0.out.le rfl rfl ?_
  intro vHA1 wHA1 hp hg hk
  have h:Bl.Acc w CS wHA1 vHA1 (9) (3 :: numL id):=HA0.out.push hp hg
  obtain⟨pHA1,cHA1,rfl⟩:=h.form
  have HA1:=Bl.hid h
  clear hp hg hk h HA0
  have q2:=HA1.out.box.cell HC.out.2.2.1
  go_wp2_with fail
  refine(rnumber_any oj _ hj1 hj2).mono ?_
  rintro e wx ⟨vx,rfl,hsx,hEx⟩
  obtain⟨bx,ox,cx,hvx',hrx⟩:=slb_pos hsx (show 0 < 8 by decide)
  have hvx:vx= .slice (some ⟨bx,ox,none⟩) 8 cx:=hvx'
  clear hvx'
  subst hvx
  have HAx:=Bl.hid (HA1.out.ext' hEx)
  have Rx:=Bl.hid hrx
  clear hsx hEx hrx q2 HA1
  go_wp2_with (with_reducible refine stop_append ?_)
  refine go_on ?_
  refine wpL_appPk tBytes HAx.out.own Rx.out rfl (ints_one _ _) (by decide) (by decide) (by decide) HAx.out.le rfl rfl ?_
  intro vHA2 wHA2 hp hg hk
  have h:Bl.Acc w CS wHA2 vHA2 (17) (3 :: (numL id++numL oj)):=HAx.out.push hp hg
  obtain⟨pHA2,cHA2,rfl⟩:=h.form
  have HA2:=Bl.hid h
  clear hp hg hk h HAx
  have q0:=HA2.out.box.cell HC.out.1
  ·have hnp1:Hid ((1<=np/\np<=12)/\∀x∈pl,badP x=false):=Bl.hid (by
    have h:wi pl.length 1 12=true:=Hz.out
    have h1:=wi_iff.1 h
    exact⟨by have:=Hnp.out;omega,any_false Hnt.out⟩)
   have hb1:(np:Int)<=12:=by have:=hnp1.out.1.2;omega
   have hb0:(0:Int)<=(np:Int):=by omega
   have HV:Hid (bytL ⟨3,id,oj,pl,sh,fr,ct,bl,cd⟩=3 :: (numL id++numL oj)++[(np:Int)]++pl.flatMap twoL):=Bl.hid (by unfold bytL tailL;simp [Hnp.out])
   have q3:=HA2.out.box.cell HC.out.2.2.2.1
   have HB1:=Bl.hid (HA2.out.ext' (ext_alloc wHA2 (.cells #[.int .u8 (np:Int)] 5)))
   have RB1:Hid ((wHA2.alloc (.cells #[.int .u8 (np:Int)] 5)).rangeAt wHA2.heap.size 0 (ints .u8 [(np:Int)])):=Bl.hid fun j x hx=>by rw [Nat.zero_add,World.cell?_alloc_new];exact cell1 hx
   go_wp2_with (with_reducible refine stop_append ?_)
   refine go_on ?_
   refine wpL_appPk tBytes HB1.out.own RB1.out rfl (ints_one _ _) (by decide) (by decide) (by decide) HB1.out.le rfl rfl ?_
   intro vHB2 wHB2 hp hg hk
   have h:Bl.Acc w CS wHB2 vHB2 (18) (3 :: (numL id++numL oj)++[(np:Int)]):=HB1.out.push hp hg
   obtain⟨pHB2,cHB2,rfl⟩:=h.form
   have HB2:=Bl.hid h
   clear hp hg hk h HB1
   clear q3 q0
   have q3:=HB2.out.box.cell HC.out.2.2.2.1
   go_wp2_with fail
   clear q3
   go_loopw [3,76] (fun o i wr=>∃(k:Nat) (p:Option Addr) (c:Nat),k<=np/\i= .int .i64 k/\o= .slice p (18+k*2) c/\Hid (Bl.Acc w CS wr (.slice p (18+k*2) c) (18+k*2) (3 :: (numL id++numL oj)++[(np:Int)]++(pl.take k).flatMap twoL))) (fun _ i _=>np - (intOf i).toNat)
   case atStart=>exact⟨0,_,_,Nat.zero_le _,rfl,rfl,by rw [List.take_zero,List.flatMap_nil,List.append_nil];exact HB2⟩
   case round=>
    obtain⟨k,p,c,hk,rfl,rfl,HA⟩:=hrel
    by_cases hlt:k < np
    ·have hla:k < pl.length:=by rw [<-Hnp.out];exact hlt
     obtain⟨b1,o1,cc1,hpa,_,_,_,_,hel1⟩:=Rd.pos (k:= .i64) (l:=pl) (by rw [Hnp.out]at Hpl;exact Hpl.out.ext HA.out.ext) (by omega)
     injection hpa with ha1 ha2 ha3
     subst ha1
     have hcell1:=hel1 k hla
     have hxb:=badP_not (hnp1.out.2 _ (getD_mem 0 hla))
     have Htk:=Bl.hid (flatMap_take 0 twoL pl k hla)
     obtain⟨x,hx⟩:∃x,x=pl.getD k 0:=⟨_,rfl⟩
     rw [<-hx]at hcell1 hxb Htk
     obtain⟨hx0,hx1⟩:=hxb
     clear hel1 ha2 ha3 hx
     go_wp2_with fail
     refine(rtwo2_any x _ hx0 (by omega)).mono ?_
     rintro e wHD ⟨bHD,oHD,cHD,rfl,hr,hE⟩
     have HD:=Bl.hid (HA.out.ext' hE)
     have RHD:=Bl.hid hr
     clear hr hE HA
     clear hcell1
     go_wp2_with (with_reducible refine stop_append ?_)
     refine go_on ?_
     refine wpL_appPk tBytes HD.out.own RHD.out rfl (ints_one _ _) (by decide) (by unfold maxLen;omega) (by omega) HD.out.le rfl rfl ?_
     intro v5 w5 hp hg hkk
     have h:Bl.Acc w CS w5 v5 (18+k*2+2) _:=HD.out.push hp hg
     have e2:18+k*2+2=18+(k+1)*2:=by omega
     rw [e2]at h
     obtain⟨p5,c5,rfl⟩:=h.form
     have H5:=Bl.hid h
     clear hp hg hkk h e2
     go_wp2_with fail
     go_roundw
     case rel=>exact⟨k+1,p5,c5,by omega,by go_num,rfl,Bl.hid (by rw [Htk.out,<-List.append_assoc];exact H5.out)⟩
     case measure=>simp [intOf];omega
    ·obtain rfl:k=np:=by omega
     have q0:=HA.out.box.cell HC.out.1
     go_wp2_with fail
     go_ret
     refine⟨_,rfl,?_,HA.out.ext⟩
     have h:=HA.out
     rw [List.take_of_length_le (by rw [<-Hnp.out];exact Nat.le_refl _)]at h
     rw [HV.out]
     exact h.rd (by rw [List.length_append,twos_len,<-Hnp.out,Nat.mul_comm];rfl)
theorem rlaid5_any (v:Value) (l:Bl.LT) (w:World) (h:LtV w v l) (hk:l.kind=5) (hn:numOk l=true) (hz:sizOk l=true):
  Calls Tryz.prog 60 #[v] w fun e w'=>∃v',e= .returned v'/\Rd w' .u8 v' (bytL l)/\Ext w w':=by
 obtain⟨cs0,vp,vs,vb,L,rfl,hc⟩:=h
 obtain rfl:=hc.eq
 obtain⟨hid,hoj,hnt⟩:=numOk_id hn
 obtain⟨kd,id,oj,pl,sh,fr,ct,bl,cd⟩:=l
 obtain⟨p1,c1,e1,hc1,hm1⟩:=hc.pl.form
 obtain⟨p2,c2,e2,hc2,hm2⟩:=hc.sh.rd.form
 obtain⟨p3,c3,e3,hc3,hm3⟩:=hc.bl.form
 have Hpl:Hid (Rd w .i64 vp pl):=Bl.hid hc.pl
 have Hsh:=Bl.hid hc.sh
 have Hsl:Hid (L.map plS=sh):=Bl.hid hc.sl
 have Hbl:Hid (Rdss w vb bl):=Bl.hid hc.bl
 simp only at e1 e2 e3 hk hid hoj hc1 hc3
 subst e1 e2 e3
 clear hc hn
 unfold maxLen at hm1 hm2 hm3
 obtain⟨np,hnp⟩:∃np,np=pl.length:=⟨_,rfl⟩
 obtain⟨ns,hns⟩:∃ns,ns=L.length:=⟨_,rfl⟩
 obtain⟨nb,hnb⟩:∃nb,nb=bl.length:=⟨_,rfl⟩
 have Hnp:=Bl.hid hnp
 have Hns:=Bl.hid hns
 have Hnb:=Bl.hid hnb
 rw [<-hnp]at Hpl hc1⊢
 rw [<-hns]at Hsh hc2⊢
 rw [<-hnb]at Hbl hc3⊢
 clear hnp hns hnb
 have Hnt:=Bl.hid hnt
 have Hz:=Bl.hid hz
 clear hnt hz
 subst hk
 obtain⟨W0,hW0⟩:∃W0,W0=w.alloc (.cells #[.int .i64 5,.int .i64 id,.int .i64 oj,.slice p1 np c1,.slice p2 ns c2,.int .i64 fr,.int .i64 ct,.slice p3 nb c3,.int .i64 cd] 43):=⟨_,rfl⟩
 have HE0:Hid (Ext w W0):=Bl.hid (by rw [hW0];exact ext_alloc _ _)
 obtain⟨CS,hCS⟩:∃CS,CS=cL ⟨5,id,oj,pl,sh,fr,ct,bl,cd⟩ (.slice p1 np c1) (.slice p2 ns c2) (.slice p3 nb c3):=⟨_,rfl⟩
 have HB:Hid (BoxC W0 w.heap.size CS):=Bl.hid (by rw [hW0,hCS];exact BoxC.box w 43 (cs:=(cL ⟨5,id,oj,pl,sh,fr,ct,bl,cd⟩ (.slice p1 np c1) (.slice p2 ns c2) (.slice p3 nb c3))) (fun h=>by cases h))
 have HC:Hid (CS[0]? =some (.int .i64 5)/\CS[1]? =some (.int .i64 id)/\CS[2]? =some (.int .i64 oj)/\CS[3]? =some (.slice p1 np c1)/\CS[4]? =some (.slice p2 ns c2)/\CS[5]? =some (.int .i64 fr)/\CS[6]? =some (.int .i64 ct)/\CS[7]? =some (.slice p3 nb c3)/\CS[8]? =some (.int .i64 cd)):=Bl.hid (by rw [hCS];exact⟨rfl,rfl,rfl,rfl,rfl,rfl,rfl,rfl,rfl⟩)
 show Calls Tryz.prog 60 #[.agg #[.int .i64 5,.int .i64 id,.int .i64 oj,.slice p1 np c1,.slice p2 ns c2,.int .i64 fr,.int .i64 ct,.slice p3 nb c3,.int .i64 cd]] w _
 obtain⟨hi1,hi2⟩:=hid
 obtain⟨hj1,hj2⟩:=hoj
 have hwk:IntKind.u8.wrap 5=5:=rfl
 clear hCS
 go_enter Tryz.func60,Tryz.ntmps60
 go_wp2_with fail
 rw [<-hW0]
 clear hW0
 apply wp_region_ev 7 [12,13,14,15,16,17,18] [eqv _,eqv _,eqv _,(fun v w'=>Pk w' (w.heap.size+1) 1 v 1 [.int .u8 5]),eqv _,eqv _,(fun v w'=>SlB w' v (numL id))] (by kernel_rfl) (by kernel_rfl) (by kernel_rfl) (by kernel_rfl)
 case hsteps=>
  refine⟨?_,?_,?_,?_,?_,?_,?_,trivial⟩
  all_goals
   intro ev w1 hext hb hd
   have e1:=hb 1 (by decide)
   clear hb
   simp only [Qa,Qb,Q1,Bl.Q2,Qd]at e1
   simp only [DepsE,Q1,Bl.Q2,Qc,Q3,Q4,eqv,and_true]at hd
   have hc:=(bcell hext).1
   have q0:=(HB.out.ext hext).cell HC.out.1
   have q1:=(HB.out.ext hext).cell HC.out.2.1
   simp only [Bl.Good,Region.wanted,if_true]
   go_simp
   first | exact⟨ext_alloc _ _,pk_new1 _ _ _ (HB.out.ext hext).lt⟩ | (go_at_call 104;(with_reducible refine(rnumber_any id w1 hi1 hi2).mono ?_);rintro e w2 ⟨v',rfl,h1,h2⟩;exact⟨_,rfl,h2,h1⟩) | exact⟨Below.refl _ _,by rw [hwk];rfl⟩ | exact⟨Below.refl _ _,rfl⟩
 case hmono=>exact⟨mono_eqv _,mono_eqv _,mono_eqv _,(fun _ _ _ h k=>Pk.ext h k),mono_eqv _,mono_eqv _,(fun _ _ _ h k=>SlB.ext h k),trivial⟩
 case hend=>
  intro u w1 hext hend
  simp only [EndE,Q1,Bl.Q2,Qc,Q3,Q4,eqv,true_and]at hend
  simp only [fillAct,Q5,Q6,Q7,Q8,Q9,hend]
  have hp15:Pk w1 (w.heap.size+1) 1 (u 15) 1 [.int .u8 5]:=(by first | ((repeat(first | exact hend | exact hend.2 | replace hend:=hend.1));done) | (repeat(first | exact hend | exact hend.1 | replace hend:=hend.2)))
  have hs18:SlB w1 (u 18) (numL id):=(by first | ((repeat(first | exact hend | exact hend.2 | replace hend:=hend.1));done) | (repeat(first | exact hend | exact hend.1 | replace hend:=hend.2)))
  obtain⟨b18,o18,c18,hv18',hr18⟩:=slb_pos hs18 (show 0 < 8 by decide)
  have hv18:u 18= .slice (some ⟨b18,o18,none⟩) 8 c18:=hv18'
  have HA0:Hid (Bl.Acc w CS w1 (u 15) 1 [5]):=Bl.hid ⟨HB.out.ext hext,hp15,HE0.out.trans hext⟩
  obtain⟨v15,hv15⟩:∃v15,v15=u 15:=⟨_,rfl⟩
  rw [<-hv15]at HA0
  rw [<-hv15,hv18]
  have R18:=Bl.hid hr18
  clear hp15 hs18 hv18 hv18' hr18 hv15 hend hext HB hwk HE0
  obtain⟨p15,c15,rfl⟩:=HA0.out.form
  go_wp2_with (with_reducible refine stop_append ?_)
  refine go_on ?_
  refine wpL_appPk tBytes HA0.out.own R18.out rfl (ints_one _ _) (by decide) (by decide) (by decide) HA0.out.le rfl rfl ?_
  intro vHA1 wHA1 hp hg hk
  have h:Bl.Acc w CS wHA1 vHA1 (9) (5 :: numL id):=HA0.out.push hp hg
  obtain⟨pHA1,cHA1,rfl⟩:=h.form
  have HA1:=Bl.hid h
  clear hp hg hk h HA0
  have q2:=HA1.out.box.cell HC.out.2.2.1
  go_wp2_with fail
  refine(rnumber_any oj _ hj1 hj2).mono ?_
  rintro e wx ⟨vx,rfl,hsx,hEx⟩
  obtain⟨bx,ox,cx,hvx',hrx⟩:=slb_pos hsx (show 0 < 8 by decide)
  have hvx:vx= .slice (some ⟨bx,ox,none⟩) 8 cx:=hvx'
  clear hvx'
  subst hvx
  have HAx:=Bl.hid (HA1.out.ext' hEx)
  have Rx:=Bl.hid hrx
  clear hsx hEx hrx q2 HA1
  go_wp2_with (with_reducible refine stop_append ?_)
  refine go_on ?_
  refine wpL_appPk tBytes HAx.out.own Rx.out rfl (ints_one _ _) (by decide) (by decide) (by decide) HAx.out.le rfl rfl ?_
  intro vHA2 wHA2 hp hg hk
  have h:Bl.Acc w CS wHA2 vHA2 (17) (5 :: (numL id++numL oj)):=HAx.out.push hp hg
  obtain⟨pHA2,cHA2,rfl⟩:=h.form
  have HA2:=Bl.hid h
  clear hp hg hk h HAx
  have q0:=HA2.out.box.cell HC.out.1
  ·have hf:wi ct 1 512=true/\wi fr 0 511=true:=by
    have h:(wi ct 1 512&&wi fr 0 511)=true:=Hnt.out
    rwa [Bool.and_eq_true]at h
   have hf1:=wi_iff.1 hf.1
   have hf2:=wi_iff.1 hf.2
   have hct0:0<=ct:=by omega
   have hct1:ct<=65535:=by omega
   have hfr0:0<=fr:=hf2.1
   have hfr1:fr<=65535:=by omega
   clear hf hf1 hf2
   have HV:Hid (bytL ⟨5,id,oj,pl,sh,fr,ct,bl,cd⟩=5 :: (numL id++numL oj)++twoL fr++twoL ct):=Bl.hid (by unfold bytL tailL;simp)
   have q5:=HA2.out.box.cell HC.out.2.2.2.2.2.1
   go_wp2_with fail
   refine(rtwo2_any fr _ hfr0 hfr1).mono ?_
   rintro e wHB1 ⟨bHB1,oHB1,cHB1,rfl,hr,hE⟩
   have HB1:=Bl.hid (HA2.out.ext' hE)
   have RHB1:=Bl.hid hr
   clear hr hE HA2
   clear q5 q0
   go_wp2_with (with_reducible refine stop_append ?_)
   refine go_on ?_
   refine wpL_appPk tBytes HB1.out.own RHB1.out rfl (ints_one _ _) (by decide) (by decide) (by decide) HB1.out.le rfl rfl ?_
   intro vHB2 wHB2 hp hg hk
   have h:Bl.Acc w CS wHB2 vHB2 (19) (5 :: (numL id++numL oj)++twoL fr):=HB1.out.push hp hg
   obtain⟨pHB2,cHB2,rfl⟩:=h.form
   have HB2:=Bl.hid h
   clear hp hg hk h HB1
   have q0:=HB2.out.box.cell HC.out.1
   have q6:=HB2.out.box.cell HC.out.2.2.2.2.2.2.1
   go_wp2_with fail
   refine(rtwo2_any ct _ hct0 hct1).mono ?_
   rintro e wHB3 ⟨bHB3,oHB3,cHB3,rfl,hr,hE⟩
   have HB3:=Bl.hid (HB2.out.ext' hE)
   have RHB3:=Bl.hid hr
   clear hr hE HB2
   clear q6 q0
   go_wp2_with (with_reducible refine stop_append ?_)
   refine go_on ?_
   refine wpL_appPk tBytes HB3.out.own RHB3.out rfl (ints_one _ _) (by decide) (by decide) (by decide) HB3.out.le rfl rfl ?_
   intro vHB4 wHB4 hp hg hk
   have h:Bl.Acc w CS wHB4 vHB4 (21) (5 :: (numL id++numL oj)++twoL fr++twoL ct):=HB3.out.push hp hg
   obtain⟨pHB4,cHB4,rfl⟩:=h.form
   have HB4:=Bl.hid h
   clear hp hg hk h HB3
   have q0:=HB4.out.box.cell HC.out.1
   go_wp2_with fail
   go_ret
   refine⟨_,rfl,?_,HB4.out.ext⟩
   rw [HV.out]
   exact HB4.out.rd rfl
theorem rlaid7_any (v:Value) (l:Bl.LT) (w:World) (h:LtV w v l) (hk:l.kind=7) (hn:numOk l=true) (hz:sizOk l=true):
  Calls Tryz.prog 60 #[v] w fun e w'=>∃v',e= .returned v'/\Rd w' .u8 v' (bytL l)/\Ext w w':=by
 obtain⟨cs0,vp,vs,vb,L,rfl,hc⟩:=h
 obtain rfl:=hc.eq
 obtain⟨hid,hoj,hnt⟩:=numOk_id hn
 obtain⟨kd,id,oj,pl,sh,fr,ct,bl,cd⟩:=l
 obtain⟨p1,c1,e1,hc1,hm1⟩:=hc.pl.form
 obtain⟨p2,c2,e2,hc2,hm2⟩:=hc.sh.rd.form
 obtain⟨p3,c3,e3,hc3,hm3⟩:=hc.bl.form
 have Hpl:Hid (Rd w .i64 vp pl):=Bl.hid hc.pl
 have Hsh:=Bl.hid hc.sh
 have Hsl:Hid (L.map plS=sh):=Bl.hid hc.sl
 have Hbl:Hid (Rdss w vb bl):=Bl.hid hc.bl
 simp only at e1 e2 e3 hk hid hoj hc1 hc3
 subst e1 e2 e3
 clear hc hn
 unfold maxLen at hm1 hm2 hm3
 obtain⟨np,hnp⟩:∃np,np=pl.length:=⟨_,rfl⟩
 obtain⟨ns,hns⟩:∃ns,ns=L.length:=⟨_,rfl⟩
 obtain⟨nb,hnb⟩:∃nb,nb=bl.length:=⟨_,rfl⟩
 have Hnp:=Bl.hid hnp
 have Hns:=Bl.hid hns
 have Hnb:=Bl.hid hnb
 rw [<-hnp]at Hpl hc1⊢
 rw [<-hns]at Hsh hc2⊢
 rw [<-hnb]at Hbl hc3⊢
 clear hnp hns hnb
 have Hnt:=Bl.hid hnt
 have Hz:=Bl.hid hz
 clear hnt hz
 subst hk
 obtain⟨W0,hW0⟩:∃W0,W0=w.alloc (.cells #[.int .i64 7,.int .i64 id,.int .i64 oj,.slice p1 np c1,.slice p2 ns c2,.int .i64 fr,.int .i64 ct,.slice p3 nb c3,.int .i64 cd] 43):=⟨_,rfl⟩
 have HE0:Hid (Ext w W0):=Bl.hid (by rw [hW0];exact ext_alloc _ _)
 obtain⟨CS,hCS⟩:∃CS,CS=cL ⟨7,id,oj,pl,sh,fr,ct,bl,cd⟩ (.slice p1 np c1) (.slice p2 ns c2) (.slice p3 nb c3):=⟨_,rfl⟩
 have HB:Hid (BoxC W0 w.heap.size CS):=Bl.hid (by rw [hW0,hCS];exact BoxC.box w 43 (cs:=(cL ⟨7,id,oj,pl,sh,fr,ct,bl,cd⟩ (.slice p1 np c1) (.slice p2 ns c2) (.slice p3 nb c3))) (fun h=>by cases h))
 have HC:Hid (CS[0]? =some (.int .i64 7)/\CS[1]? =some (.int .i64 id)/\CS[2]? =some (.int .i64 oj)/\CS[3]? =some (.slice p1 np c1)/\CS[4]? =some (.slice p2 ns c2)/\CS[5]? =some (.int .i64 fr)/\CS[6]? =some (.int .i64 ct)/\CS[7]? =some (.slice p3 nb c3)/\CS[8]? =some (.int .i64 cd)):=Bl.hid (by rw [hCS];exact⟨rfl,rfl,rfl,rfl,rfl,rfl,rfl,rfl,rfl⟩)
 show Calls Tryz.prog 60 #[.agg #[.int .i64 7,.int .i64 id,.int .i64 oj,.slice p1 np c1,.slice p2 ns c2,.int .i64 fr,.int .i64 ct,.slice p3 nb c3,.int .i64 cd]] w _
 obtain⟨hi1,hi2⟩:=hid
 obtain⟨hj1,hj2⟩:=hoj
 have hwk:IntKind.u8.wrap 7=7:=rfl
 clear hCS
 go_enter Tryz.func60,Tryz.ntmps60
 go_wp2_with fail
 rw [<-hW0]
 clear hW0
 apply wp_region_ev 7 [12,13,14,15,16,17,18] [eqv _,eqv _,eqv _,(fun v w'=>Pk w' (w.heap.size+1) 1 v 1 [.int .u8 7]),eqv _,eqv _,(fun v w'=>SlB w' v (numL id))] (by kernel_rfl) (by kernel_rfl) (by kernel_rfl) (by kernel_rfl)
 case hsteps=>
  refine⟨?_,?_,?_,?_,?_,?_,?_,trivial⟩
  all_goals
   intro ev w1 hext hb hd
   have e1:=hb 1 (by decide)
   clear hb
   simp only [Qa,Qb,Q1,Bl.Q2,Qd]at e1
   simp only [DepsE,Q1,Bl.Q2,Qc,Q3,Q4,eqv,and_true]at hd
   have hc:=(bcell hext).1
   have q0:=(HB.out.ext hext).cell HC.out.1
   have q1:=(HB.out.ext hext).cell HC.out.2.1
   simp only [Bl.Good,Region.wanted,if_true]
   go_simp
   first | exact⟨ext_alloc _ _,pk_new1 _ _ _ (HB.out.ext hext).lt⟩ | (go_at_call 104;(with_reducible refine(rnumber_any id w1 hi1 hi2).mono ?_);rintro e w2 ⟨v',rfl,h1,h2⟩;exact⟨_,rfl,h2,h1⟩) | exact⟨Below.refl _ _,by rw [hwk];rfl⟩ | exact⟨Below.refl _ _,rfl⟩
 case hmono=>exact⟨mono_eqv _,mono_eqv _,mono_eqv _,(fun _ _ _ h k=>Pk.ext h k),mono_eqv _,mono_eqv _,(fun _ _ _ h k=>SlB.ext h k),trivial⟩
 case hend=>
  intro u w1 hext hend
  simp only [EndE,Q1,Bl.Q2,Qc,Q3,Q4,eqv,true_and]at hend
  simp only [fillAct,Q5,Q6,Q7,Q8,Q9,hend]
  have hp15:Pk w1 (w.heap.size+1) 1 (u 15) 1 [.int .u8 7]:=(by first | ((repeat(first | exact hend | exact hend.2 | replace hend:=hend.1));done) | (repeat(first | exact hend | exact hend.1 | replace hend:=hend.2)))
  have hs18:SlB w1 (u 18) (numL id):=(by first | ((repeat(first | exact hend | exact hend.2 | replace hend:=hend.1));done) | (repeat(first | exact hend | exact hend.1 | replace hend:=hend.2)))
  obtain⟨b18,o18,c18,hv18',hr18⟩:=slb_pos hs18 (show 0 < 8 by decide)
  have hv18:u 18= .slice (some ⟨b18,o18,none⟩) 8 c18:=hv18'
  have HA0:Hid (Bl.Acc w CS w1 (u 15) 1 [7]):=Bl.hid ⟨HB.out.ext hext,hp15,HE0.out.trans hext⟩
  obtain⟨v15,hv15⟩:∃v15,v15=u 15:=⟨_,rfl⟩
  rw [<-hv15]at HA0
  rw [<-hv15,hv18]
  have R18:=Bl.hid hr18
  clear hp15 hs18 hv18 hv18' hr18 hv15 hend hext HB hwk HE0
  obtain⟨p15,c15,rfl⟩:=HA0.out.form
  go_wp2_with (with_reducible refine stop_append ?_)
  refine go_on ?_
  refine wpL_appPk tBytes HA0.out.own R18.out rfl (ints_one _ _) (by decide) (by decide) (by decide) HA0.out.le rfl rfl ?_
  intro vHA1 wHA1 hp hg hk
  have h:Bl.Acc w CS wHA1 vHA1 (9) (7 :: numL id):=HA0.out.push hp hg
  obtain⟨pHA1,cHA1,rfl⟩:=h.form
  have HA1:=Bl.hid h
  clear hp hg hk h HA0
  have q2:=HA1.out.box.cell HC.out.2.2.1
  go_wp2_with fail
  refine(rnumber_any oj _ hj1 hj2).mono ?_
  rintro e wx ⟨vx,rfl,hsx,hEx⟩
  obtain⟨bx,ox,cx,hvx',hrx⟩:=slb_pos hsx (show 0 < 8 by decide)
  have hvx:vx= .slice (some ⟨bx,ox,none⟩) 8 cx:=hvx'
  clear hvx'
  subst hvx
  have HAx:=Bl.hid (HA1.out.ext' hEx)
  have Rx:=Bl.hid hrx
  clear hsx hEx hrx q2 HA1
  go_wp2_with (with_reducible refine stop_append ?_)
  refine go_on ?_
  refine wpL_appPk tBytes HAx.out.own Rx.out rfl (ints_one _ _) (by decide) (by decide) (by decide) HAx.out.le rfl rfl ?_
  intro vHA2 wHA2 hp hg hk
  have h:Bl.Acc w CS wHA2 vHA2 (17) (7 :: (numL id++numL oj)):=HAx.out.push hp hg
  obtain⟨pHA2,cHA2,rfl⟩:=h.form
  have HA2:=Bl.hid h
  clear hp hg hk h HAx
  have q0:=HA2.out.box.cell HC.out.1
  ·have hf2:wi cd 1 255=true:=Hnt.out
   have hf3:=wi_iff.1 hf2
   have hwc:IntKind.u8.wrap cd=cd:=IntWalk.u8_in _ (by omega)
   clear hf2
   have HV:Hid (bytL ⟨7,id,oj,pl,sh,fr,ct,bl,cd⟩=7 :: (numL id++numL oj)++[cd]):=Bl.hid (by unfold bytL tailL;simp)
   have q8:=HA2.out.box.cell HC.out.2.2.2.2.2.2.2.2
   have HB1:=Bl.hid (HA2.out.ext' (ext_alloc wHA2 (.cells #[.int .u8 cd] 5)))
   have RB1:Hid ((wHA2.alloc (.cells #[.int .u8 cd] 5)).rangeAt wHA2.heap.size 0 (ints .u8 [cd])):=Bl.hid fun j x hx=>by rw [Nat.zero_add,World.cell?_alloc_new];exact cell1 hx
   go_wp2_with (with_reducible refine stop_append ?_)
   refine go_on ?_
   refine wpL_appPk tBytes HB1.out.own RB1.out rfl (ints_one _ _) (by decide) (by decide) (by decide) HB1.out.le rfl rfl ?_
   intro vHB2 wHB2 hp hg hk
   have h:Bl.Acc w CS wHB2 vHB2 (18) (7 :: (numL id++numL oj)++[cd]):=HB1.out.push hp hg
   obtain⟨pHB2,cHB2,rfl⟩:=h.form
   have HB2:=Bl.hid h
   clear hp hg hk h HB1
   go_wp2_with fail
   go_ret
   refine⟨_,rfl,?_,HB2.out.ext⟩
   rw [HV.out]
   exact HB2.out.rd rfl
end Go.Proofs.YtglenbikdahgjaaGreatDoor
