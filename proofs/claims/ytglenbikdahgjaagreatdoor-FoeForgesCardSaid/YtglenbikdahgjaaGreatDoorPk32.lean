/- Texts that stood apart, in one: LR5, LR4, LC0. -/
import Derived.Test.YtglenbikdahgjaaGreatDoorPk29
import Derived.Test.YtglenbikdahgjaaGreatDoorPk30
import Derived.Test.YtglenbikdahgjaaGreatDoorPk31
import Derived.Test.YtglenbikdahgjaaGreatDoorPk11
set_option maxRecDepth 100000
set_option maxHeartbeats 16000000
namespace Go.Proofs.YtglenbikdahgjaaGreatDoor
open Go Go.RowKit Go.Proofs Go.Proofs.Bl
theorem rlaid6_any (v:Value) (l:Bl.LT) (w:World) (h:LtV w v l) (hk:l.kind=6) (hn:numOk l=true) (hz:sizOk l=true):
  Calls Tryz.prog 60 #[v] w fun e w'=>∃v',e= .returned v'/\Rd w' .u8 v' (bytL l)/\Ext w w':=by
 obtain⟨cs0,vp,vs,vb,L,rfl,hc⟩:=h
 obtain rfl:=hc.eq
 obtain⟨hid,hoj,hnt⟩:=numOk_id hn
 obtain⟨kd,id,oj,pl,sh,fr,ct,bl,cd⟩:=l
 obtain⟨p1,c1,e1,hc1,hm1⟩:=hc.pl.form
 obtain⟨p2,c2,e2,hc2,hm2⟩:=hc.sh.rd.form
 obtain⟨p3,c3,e3,hc3,hm3⟩:=hc.bl.form
 have Hpl:Hid (Rd w .i64 vp pl):=Bl.hid hc.pl
 have Hsh:=Bl.hid hc.sh
 have Hsl:Hid (L.map plS=sh):=Bl.hid hc.sl
 have Hbl:Hid (Rdss w vb bl):=Bl.hid hc.bl
 simp only at e1 e2 e3 hk hid hoj hc1 hc3
 subst e1 e2 e3
 clear hc hn
 unfold maxLen at hm1 hm2 hm3
 obtain⟨np,hnp⟩:∃np,np=pl.length:=⟨_,rfl⟩
 obtain⟨ns,hns⟩:∃ns,ns=L.length:=⟨_,rfl⟩
 obtain⟨nb,hnb⟩:∃nb,nb=bl.length:=⟨_,rfl⟩
 have Hnp:=Bl.hid hnp
 have Hns:=Bl.hid hns
 have Hnb:=Bl.hid hnb
 rw [<-hnp]at Hpl hc1⊢
 rw [<-hns]at Hsh hc2⊢
 rw [<-hnb]at Hbl hc3⊢
 clear hnp hns hnb
 have Hnt:=Bl.hid hnt
 have Hz:=Bl.hid hz
 clear hnt hz
 subst hk
 obtain⟨W0,hW0⟩:∃W0,W0=w.alloc (.cells #[.int .i64 6,.int .i64 id,.int .i64 oj,.slice p1 np c1,.slice p2 ns c2,.int .i64 fr,.int .i64 ct,.slice p3 nb c3,.int .i64 cd] 43):=⟨_,rfl⟩
 have HE0:Hid (Ext w W0):=Bl.hid (by rw [hW0];exact ext_alloc _ _)
 obtain⟨CS,hCS⟩:∃CS,CS=cL ⟨6,id,oj,pl,sh,fr,ct,bl,cd⟩ (.slice p1 np c1) (.slice p2 ns c2) (.slice p3 nb c3):=⟨_,rfl⟩
 have HB:Hid (BoxC W0 w.heap.size CS):=Bl.hid (by rw [hW0,hCS];exact BoxC.box w 43 (cs:=(cL ⟨6,id,oj,pl,sh,fr,ct,bl,cd⟩ (.slice p1 np c1) (.slice p2 ns c2) (.slice p3 nb c3))) (fun h=>by cases h))
 have HC:Hid (CS[0]? =some (.int .i64 6)/\CS[1]? =some (.int .i64 id)/\CS[2]? =some (.int .i64 oj)/\CS[3]? =some (.slice p1 np c1)/\CS[4]? =some (.slice p2 ns c2)/\CS[5]? =some (.int .i64 fr)/\CS[6]? =some (.int .i64 ct)/\CS[7]? =some (.slice p3 nb c3)/\CS[8]? =some (.int .i64 cd)):=Bl.hid (by rw [hCS];exact⟨rfl,rfl,rfl,rfl,rfl,rfl,rfl,rfl,rfl⟩)
 show Calls Tryz.prog 60 #[.agg #[.int .i64 6,.int .i64 id,.int .i64 oj,.slice p1 np c1,.slice p2 ns c2,.int .i64 fr,.int .i64 ct,.slice p3 nb c3,.int .i64 cd]] w _
 obtain⟨hi1,hi2⟩:=hid
 obtain⟨hj1,hj2⟩:=hoj
 have hwk:IntKind.u8.wrap 6=6:=rfl
 clear hCS
 go_enter Tryz.func60,Tryz.ntmps60
 go_wp2_with fail
 rw [<-hW0]
 clear hW0
 apply wp_region_ev 7 [12,13,14,15,16,17,18] [eqv _,eqv _,eqv _,(fun v w'=>Pk w' (w.heap.size+1) 1 v 1 [.int .u8 6]),eqv _,eqv _,(fun v w'=>SlB w' v (numL id))] (by kernel_rfl) (by kernel_rfl) (by kernel_rfl) (by kernel_rfl)
 case hsteps=>
  refine⟨?_,?_,?_,?_,?_,?_,?_,trivial⟩
  all_goals
   intro ev w1 hext hb hd
   have e1:=hb 1 (by decide)
   clear hb
   simp only [Qa,Qb,Q1,Bl.Q2,Qd]at e1
   simp only [DepsE,Q1,Bl.Q2,Qc,Q3,Q4,eqv,and_true]at hd
   have hc:=(bcell hext).1
   have q0:=(HB.out.ext hext).cell HC.out.1
   have q1:=(HB.out.ext hext).cell HC.out.2.1
   simp only [Bl.Good,Region.wanted,if_true]
   go_simp
   first | exact⟨ext_alloc _ _,pk_new1 _ _ _ (HB.out.ext hext).lt⟩ | (go_at_call 104;(with_reducible refine(rnumber_any id w1 hi1 hi2).mono ?_);rintro e w2 ⟨v',rfl,h1,h2⟩;exact⟨_,rfl,h2,h1⟩) | exact⟨Below.refl _ _,by rw [hwk];rfl⟩ | exact⟨Below.refl _ _,rfl⟩
 case hmono=>exact⟨mono_eqv _,mono_eqv _,mono_eqv _,(fun _ _ _ h k=>Pk.ext h k),mono_eqv _,mono_eqv _,(fun _ _ _ h k=>SlB.ext h k),trivial⟩
 case hend=>
  intro u w1 hext hend
  simp only [EndE,Q1,Bl.Q2,Qc,Q3,Q4,eqv,true_and]at hend
  simp only [fillAct,Q5,Q6,Q7,Q8,Q9,hend]
  have hp15:Pk w1 (w.heap.size+1) 1 (u 15) 1 [.int .u8 6]:=(by first | ((repeat(first | exact hend | exact hend.2 | replace hend:=hend.1));done) | (repeat(first | exact hend | exact hend.1 | replace hend:=hend.2)))
  have hs18:SlB w1 (u 18) (numL id):=(by first | ((repeat(first | exact hend | exact hend.2 | replace hend:=hend.1));done) | (repeat(first | exact hend | exact hend.1 | replace hend:=hend.2)))
  obtain⟨b18,o18,c18,hv18',hr18⟩:=slb_pos hs18 (show 0 < 8 by decide)
  have hv18:u 18= .slice (some ⟨b18,o18,none⟩) 8 c18:=hv18'
  have HA0:Hid (Bl.Acc w CS w1 (u 15) 1 [6]):=Bl.hid ⟨HB.out.ext hext,hp15,HE0.out.trans hext⟩
  obtain⟨v15,hv15⟩:∃v15,v15=u 15:=⟨_,rfl⟩
  rw [<-hv15]at HA0
  rw [<-hv15,hv18]
  have R18:=Bl.hid hr18
  clear hp15 hs18 hv18 hv18' hr18 hv15 hend hext HB hwk HE0
  obtain⟨p15,c15,rfl⟩:=HA0.out.form
  go_wp2_with (with_reducible refine stop_append ?_)
  refine go_on ?_
  refine wpL_appPk tBytes HA0.out.own R18.out rfl (ints_one _ _) (by decide) (by decide) (by decide) HA0.out.le rfl rfl ?_
  intro vHA1 wHA1 hp hg hk
  have h:Bl.Acc w CS wHA1 vHA1 (9) (6 :: numL id):=HA0.out.push hp hg
  obtain⟨pHA1,cHA1,rfl⟩:=h.form
  have HA1:=Bl.hid h
  clear hp hg hk h HA0
  have q2:=HA1.out.box.cell HC.out.2.2.1
  go_wp2_with fail
  refine(rnumber_any oj _ hj1 hj2).mono ?_
  rintro e wx ⟨vx,rfl,hsx,hEx⟩
  obtain⟨bx,ox,cx,hvx',hrx⟩:=slb_pos hsx (show 0 < 8 by decide)
  have hvx:vx= .slice (some ⟨bx,ox,none⟩) 8 cx:=hvx'
  clear hvx'
  subst hvx
  have HAx:=Bl.hid (HA1.out.ext' hEx)
  have Rx:=Bl.hid hrx
  clear hsx hEx hrx q2 HA1
  go_wp2_with (with_reducible refine stop_append ?_)
  refine go_on ?_
  refine wpL_appPk tBytes HAx.out.own Rx.out rfl (ints_one _ _) (by decide) (by decide) (by decide) HAx.out.le rfl rfl ?_
  intro vHA2 wHA2 hp hg hk
  have h:Bl.Acc w CS wHA2 vHA2 (17) (6 :: (numL id++numL oj)):=HAx.out.push hp hg
  obtain⟨pHA2,cHA2,rfl⟩:=h.form
  have HA2:=Bl.hid h
  clear hp hg hk h HAx
  have q0:=HA2.out.box.cell HC.out.1
  ·have hnb1:Hid ((1<=nb/\nb<=512)/\∀b∈bl,badB b=false):=Bl.hid (by
    have h:(wi bl.length 1 512&& !bl.any badB)=true:=Hz.out
    rw [Bool.and_eq_true]at h
    have h1:=wi_iff.1 h.1
    exact⟨by have:=Hnb.out;omega,any_false h.2⟩)
   have hb1:(nb:Int)<=512:=by have:=hnb1.out.1.2;omega
   have hb0:(0:Int)<=(nb:Int):=by omega
   have Hfl:Hid (bl.flatten.length=nb*16):=Bl.hid (by rw [Hnb.out];exact flat_const 16 bl (fun x hx=>badB_not (hnb1.out.2 x hx)))
   have hf2:wi fr 0 511=true:=Hnt.out
   have hf3:=wi_iff.1 hf2
   have hfr0:0<=fr:=hf3.1
   have hfr1:fr<=65535:=by omega
   clear hf2 hf3
   have HV:Hid (bytL ⟨6,id,oj,pl,sh,fr,ct,bl,cd⟩=6 :: (numL id++numL oj)++twoL fr++twoL nb++bl.flatten):=Bl.hid (by unfold bytL tailL;simp [Hnb.out])
   have q5:=HA2.out.box.cell HC.out.2.2.2.2.2.1
   go_wp2_with fail
   refine(rtwo2_any fr _ hfr0 hfr1).mono ?_
   rintro e wHC1 ⟨bHC1,oHC1,cHC1,rfl,hr,hE⟩
   have HC1:=Bl.hid (HA2.out.ext' hE)
   have RHC1:=Bl.hid hr
   clear hr hE HA2
   clear q5 q0
   go_wp2_with (with_reducible refine stop_append ?_)
   refine go_on ?_
   refine wpL_appPk tBytes HC1.out.own RHC1.out rfl (ints_one _ _) (by decide) (by decide) (by decide) HC1.out.le rfl rfl ?_
   intro vHC2 wHC2 hp hg hk
   have h:Bl.Acc w CS wHC2 vHC2 (19) (6 :: (numL id++numL oj)++twoL fr):=HC1.out.push hp hg
   obtain⟨pHC2,cHC2,rfl⟩:=h.form
   have HC2:=Bl.hid h
   clear hp hg hk h HC1
   have q0:=HC2.out.box.cell HC.out.1
   have q7:=HC2.out.box.cell HC.out.2.2.2.2.2.2.2.1
   go_wp2_with fail
   refine(rtwo2_any (nb:Int) _ hb0 (by omega)).mono ?_
   rintro e wHB1 ⟨bHB1,oHB1,cHB1,rfl,hr,hE⟩
   have HB1:=Bl.hid (HC2.out.ext' hE)
   have RHB1:=Bl.hid hr
   clear hr hE HC2
   clear q7
   go_wp2_with (with_reducible refine stop_append ?_)
   refine go_on ?_
   refine wpL_appPk tBytes HB1.out.own RHB1.out rfl (ints_one _ _) (by decide) (by decide) (by decide) HB1.out.le rfl rfl ?_
   intro vHB2 wHB2 hp hg hk
   have h:Bl.Acc w CS wHB2 vHB2 (19+2) (6 :: (numL id++numL oj)++twoL fr++twoL nb):=HB1.out.push hp hg
   obtain⟨pHB2,cHB2,rfl⟩:=h.form
   have HB2:=Bl.hid h
   clear hp hg hk h HB1
   have q7:=HB2.out.box.cell HC.out.2.2.2.2.2.2.2.1
   go_wp2_with fail
   clear q7 q0
   go_loopw [3,55] (fun o i wr=>∃(k:Nat) (p:Option Addr) (c:Nat),k<=nb/\i= .int .i64 k/\o= .slice p (19+2+k*16) c/\Hid (Bl.Acc w CS wr (.slice p (19+2+k*16) c) (19+2+k*16) (6 :: (numL id++numL oj)++twoL fr++twoL nb++(bl.take k).flatten))) (fun _ i _=>nb - (intOf i).toNat)
   case atStart=>exact⟨0,_,_,Nat.zero_le _,rfl,rfl,by rw [List.take_zero,List.flatten_nil,List.append_nil];exact HB2⟩
   case round=>
    obtain⟨k,p,c,hk,rfl,rfl,HA⟩:=hrel
    by_cases hlt:k < nb
    ·have hla:k < bl.length:=by rw [<-Hnb.out];exact hlt
     obtain⟨vsb,hvb,hvl,hvs⟩:=Hbl.out.ext HA.out.ext
     obtain⟨gb,ob,hpb,hgb,hcell⟩:=Rdss.cell' hvb hvl k hla
     subst hpb
     have hrk:=hvs k hla
     have h16:=badB_not (hnb1.out.2 _ (getDm bl hla))
     have Htk:Hid ((bl.take (k+1)).flatten=(bl.take k).flatten++bl.getD k []):=Bl.hid (by rw [take_succ_getDD [] bl k hla];simp)
     obtain⟨y,hy⟩:∃y,y=bl.getD k []:=⟨_,rfl⟩
     rw [<-hy]at hrk h16 Htk
     obtain⟨g1,o1,cc1,hf1,_,_,_,hr1,_⟩:=Rd.pos hrk (by omega)
     rw [hf1,h16]at hcell
     have R1:=Bl.hid hr1
     have H16:=Bl.hid h16
     clear hvb hvl hvs hgb hrk h16 hy hf1 hr1
     go_wp2_with (with_reducible refine stop_append ?_)
     refine go_on ?_
     refine wpL_appPk tBytes HA.out.own R1.out (by rw [ints_length,H16.out]) (ints_one _ _) (by decide) (by unfold maxLen;omega) (by omega) HA.out.le rfl rfl ?_
     intro v5 w5 hp hg hkk
     have h:Bl.Acc w CS w5 v5 (19+2+k*16+16) _:=HA.out.push hp hg
     have e2:19+2+k*16+16=19+2+(k+1)*16:=by omega
     rw [e2]at h
     obtain⟨p5,c5,rfl⟩:=h.form
     have H5:=Bl.hid h
     clear hp hg hkk h e2 hcell
     go_wp2_with fail
     go_roundw
     case rel=>exact⟨k+1,p5,c5,by omega,by go_num,rfl,Bl.hid (by rw [Htk.out,<-List.append_assoc];exact H5.out)⟩
     case measure=>simp [intOf];omega
    ·obtain rfl:k=nb:=by omega
     have q0:=HA.out.box.cell HC.out.1
     go_wp2_with fail
     go_ret
     refine⟨_,rfl,?_,HA.out.ext⟩
     have h:=HA.out
     rw [List.take_of_length_le (by rw [<-Hnb.out];exact Nat.le_refl _)]at h
     rw [HV.out]
     exact h.rd (by rw [List.length_append,Hfl.out];rfl)
theorem rlaid_any (v:Value) (l:Bl.LT) (w:World) (h:LtV w v l) (hk:1<=l.kind/\l.kind<=7) (hn:numOk l=true) (hz:sizOk l=true):
  Calls Tryz.prog 60 #[v] w fun e w'=>∃v',e= .returned v'/\Rd w' .u8 v' (bytL l)/\Ext w w':=by
 rcases kinds7 hk with h1 | h1 | h1 | h1 | h1 | h1 | h1
 ·exact rlaid1_any v l w h h1 hn hz
 ·exact rlaid2_any v l w h h1 hn hz
 ·exact rlaid3_any v l w h h1 hn hz
 ·exact rlaid4_any v l w h h1 hn hz
 ·exact rlaid5_any v l w h h1 hn hz
 ·exact rlaid6_any v l w h h1 hn hz
 ·exact rlaid7_any v l w h h1 hn hz
end Go.Proofs.YtglenbikdahgjaaGreatDoor
namespace Go.Proofs.Bl
open Go Go.RowKit
theorem frm_iff (l:LT):frmOk l=true↔(l.kind=3\/l.places.length=0)/\(l.kind=4\/l.shown.length=0)/\((l.kind=5\/l.kind=6)\/l.frm=0)/\(l.kind=5\/l.cnt=0)/\((l.kind=1\/l.kind=6)\/l.blocks.length=0)/\(l.kind=7\/l.code=0):=by
 unfold frmOk sameL bareL lt0
 simp only [decide_eq_true_eq,LT.ext_iff']
 by_cases h3:l.kind=3<;>by_cases h4:l.kind=4<;>by_cases h5:l.kind=5<;>by_cases h6:l.kind=6<;>by_cases h1:l.kind=1<;>by_cases h7:l.kind=7<;>(simp [h1,h3,h4,h5,h6,h7,LT.nums]<;>constructor<;>simp_all)
section
variable {l:LT}
theorem chk7 (h:wi l.kind 1 7=false):chkL l=7:=by unfold chkL;rw [if_pos h]
theorem chk1 (h:wi l.kind 1 7=true) (h1:numOk l=false):chkL l=1:=by unfold chkL;rw [h,if_neg (by decide),if_pos h1]
theorem chk8 (h:wi l.kind 1 7=true) (h1:numOk l=true) (h2:sizOk l=false):chkL l=8:=by unfold chkL;rw [h,if_neg (by decide),h1,if_neg (by decide),if_pos h2]
theorem chk4 (h:wi l.kind 1 7=true) (h1:numOk l=true) (h2:sizOk l=true) (h3:¬frmOk l=true):chkL l=4:=by
 have h3:frmOk l=false:=by simpa using h3
 unfold chkL;rw [h,if_neg (by decide),h1,if_neg (by decide),h2,if_neg (by decide),if_pos h3]
theorem chk3 (h:wi l.kind 1 7=true) (h1:numOk l=true) (h2:sizOk l=true) (h3:frmOk l=true) (h4:8000 < (bytL l).length):chkL l=3:=by unfold chkL;rw [h,if_neg (by decide),h1,if_neg (by decide),h2,if_neg (by decide),h3,if_neg (by decide),if_pos h4]
theorem chk0 (h:wi l.kind 1 7=true) (h1:numOk l=true) (h2:sizOk l=true) (h3:frmOk l=true) (h4:¬8000 < (bytL l).length):chkL l=0:=by unfold chkL;rw [h,if_neg (by decide),h1,if_neg (by decide),h2,if_neg (by decide),h3,if_neg (by decide),if_neg h4]
end
theorem any_take1 {α :Type} (p: α ->Bool) (l:List α) (d: α) {k:Nat} (h:k < l.length):(l.take (k+1)).any p=((l.take k).any p||p (l.getD k d)):=by
 rw [List.take_add_one,List.getElem?_eq_getElem h,List.any_append,List.getD_eq_getElem?_getD,List.getElem?_eq_getElem h]
 simp
theorem app35 {α :Type} (x0 x1 x2 x3 x4 x5 x6 x7 x8 x9 x10 x11 x12 x13 x14 x15 x16 x17 x18 x19 x20 x21 x22 x23 x24 x25 x26 x27 x28 x29 x30 x31 x32 x33 x34: α) (l:List α):List.append [x0,x1,x2,x3,x4,x5,x6,x7,x8,x9,x10,x11,x12,x13,x14,x15,x16,x17,x18,x19,x20,x21,x22,x23,x24,x25,x26,x27,x28,x29,x30,x31,x32,x33,x34] l=x0 :: x1 :: x2 :: x3 :: x4 :: x5 :: x6 :: x7 :: x8 :: x9 :: x10 :: x11 :: x12 :: x13 :: x14 :: x15 :: x16 :: x17 :: x18 :: x19 :: x20 :: x21 :: x22 :: x23 :: x24 :: x25 :: x26 :: x27 :: x28 :: x29 :: x30 :: x31 :: x32 :: x33 :: x34 :: l:=rfl
theorem stop_long {P:Program} {ops:Array Oper} {rest:List Oper} {o:Op} {tt:TypeId} {pp:String} {af:Array Edge} {g:Option (Nat × Bool)} {Q:Exit->Act->World->Prop} {a:Act} {w:World} (h:Stuck (wpList P ops Q (⟨some 148,o,tt,pp,af,g⟩ :: rest) a w)):wpList P ops Q (⟨some 148,o,tt,pp,af,g⟩ :: rest) a w:=h
theorem nob1:∀ {a b c:Bool},true=(!b||c)->(a&&b&& !c)=false:=by decide
theorem nob0:∀ {b c:Bool},false=(!b||c)->b=true/\c=false:=by decide
theorem nob3:∀ {b c:Bool},true=(!b||c)->(b&& !c)=false:=by decide
end Go.Proofs.Bl
namespace Go.Proofs.YtglenbikdahgjaaGreatDoor
open Go Go.RowKit Go.Proofs Go.Proofs.Bl
theorem rcheck1_any (v:Value) (l:Bl.LT) (w:World) (h:LtV w v l) (hk:l.kind=1):
  Calls Tryz.prog 40 #[v] w fun e w'=>e= .returned (.int .i64 (chkL l:Nat))/\Ext w w':=by
 have HL:=Bl.hid h
 obtain⟨cs0,vp,vs,vb,L,rfl,hc⟩:=h
 obtain rfl:=hc.eq
 have HLa:Hid (∀w2,Ext w w2->numOk l=true->sizOk l=true->Calls Tryz.prog 60 #[.agg (cL l vp vs vb).toArray] w2 fun e w'=>∃v',e= .returned v'/\Rd w' .u8 v' (bytL l)/\Ext w2 w'):=Bl.hid fun w2 h2 hn hz=>rlaid_any _ l w2 (HL.out.ext h2) (by rw [hk];decide) hn hz
 obtain⟨kd,id,oj,pl,sh,fr,ct,bl,cd⟩:=l
 obtain⟨p1,c1,e1,hc1,hm1⟩:=hc.pl.form
 obtain⟨p2,c2,e2,hc2,hm2⟩:=hc.sh.rd.form
 obtain⟨p3,c3,e3,hc3,hm3⟩:=hc.bl.form
 have Hpl:Hid (Rd w .i64 vp pl):=Bl.hid hc.pl
 have Hsh:=Bl.hid hc.sh
 have Hsl:Hid (L.map plS=sh):=Bl.hid hc.sl
 have Hbl:Hid (Rdss w vb bl):=Bl.hid hc.bl
 simp only at e1 e2 e3 hk hc1 hc3
 subst hk
 subst e1 e2 e3
 clear hc HL
 unfold maxLen at hm1 hm2 hm3
 obtain⟨np,hnp⟩:∃np,np=pl.length:=⟨_,rfl⟩
 obtain⟨ns,hns⟩:∃ns,ns=L.length:=⟨_,rfl⟩
 obtain⟨nb,hnb⟩:∃nb,nb=bl.length:=⟨_,rfl⟩
 have Hnp:=Bl.hid hnp
 have Hns:=Bl.hid hns
 have Hnb:=Bl.hid hnb
 have Hnsh:Hid (sh.length=ns):=Bl.hid (by rw [<-Hsl.out,List.length_map,hns])
 rw [<-hnp]at Hpl hc1 HLa⊢
 rw [<-hns]at Hsh hc2 HLa⊢
 rw [<-hnb]at Hbl hc3 HLa⊢
 clear hnp hns hnb
 obtain⟨qI,hqI⟩:∃q,q=wi id 0 1099511627776:=⟨_,rfl⟩
 obtain⟨qO,hqO⟩:∃q,q=wi oj 0 1099511627776:=⟨_,rfl⟩
 have HN:Hid (numOk ⟨1,id,oj,pl,sh,fr,ct,bl,cd⟩=(qI&&qO&&true)):=Bl.hid (by rw [hqI,hqO];unfold numOk numT;rfl)
 have HS:Hid (sizOk ⟨1,id,oj,pl,sh,fr,ct,bl,cd⟩=(wi bl.length 1 512&& !bl.any badB)):=Bl.hid (by unfold sizOk;rfl)
 have HF:=Bl.hid (frm_iff ⟨1,id,oj,pl,sh,fr,ct,bl,cd⟩)
 have HqI:=Bl.hid hqI
 have HqO:=Bl.hid hqO
 clear hqI hqO
 obtain⟨W0,hW0⟩:∃W0,W0=w.alloc (.cells #[.int .i64 1,.int .i64 id,.int .i64 oj,.slice p1 np c1,.slice p2 ns c2,.int .i64 fr,.int .i64 ct,.slice p3 nb c3,.int .i64 cd] 43):=⟨_,rfl⟩
 have HE0:Hid (Ext w W0):=Bl.hid (by rw [hW0];exact ext_alloc _ _)
 obtain⟨CS,hCS⟩:∃CS,CS=cL ⟨1,id,oj,pl,sh,fr,ct,bl,cd⟩ (.slice p1 np c1) (.slice p2 ns c2) (.slice p3 nb c3):=⟨_,rfl⟩
 rw [<-hCS]at HLa
 have HB:Hid (BoxC W0 w.heap.size CS):=Bl.hid (by rw [hW0,hCS];exact BoxC.box w 43 (cs:=(cL ⟨1,id,oj,pl,sh,fr,ct,bl,cd⟩ (.slice p1 np c1) (.slice p2 ns c2) (.slice p3 nb c3))) (fun h=>by cases h))
 have HC:Hid (CS[0]? =some (.int .i64 1)/\CS[1]? =some (.int .i64 id)/\CS[2]? =some (.int .i64 oj)/\CS[3]? =some (.slice p1 np c1)/\CS[4]? =some (.slice p2 ns c2)/\CS[5]? =some (.int .i64 fr)/\CS[6]? =some (.int .i64 ct)/\CS[7]? =some (.slice p3 nb c3)/\CS[8]? =some (.int .i64 cd)/\CS.length=9):=Bl.hid (by rw [hCS];exact⟨rfl,rfl,rfl,rfl,rfl,rfl,rfl,rfl,rfl,rfl⟩)
 show Calls Tryz.prog 40 #[.agg #[.int .i64 1,.int .i64 id,.int .i64 oj,.slice p1 np c1,.slice p2 ns c2,.int .i64 fr,.int .i64 ct,.slice p3 nb c3,.int .i64 cd]] w _
 clear hCS
 go_enter Tryz.func40,Tryz.ntmps40
 go_wp2_with fail
 rw [<-hW0]
 clear hW0
 refine(out_any _ _ _ _).mono ?_
 rintro e w2 ⟨rfl,hw⟩
 subst hw
 have q0:=HB.out.cell HC.out.1
 have q1:=HB.out.cell HC.out.2.1
 have q2:=HB.out.cell HC.out.2.2.1
 rw [show(!wi 1 1 7)=false from rfl]
 go_wp2_with fail
 refine(out_any _ _ _ _).mono ?_
 rintro e w2 ⟨rfl,hw⟩
 subst hw
 rw [<-HqI.out]
 clear q1
 cases qI
 ·rw [Bool.not_false]
  have HV:=Bl.hid (chk1 (l:=⟨1,id,oj,pl,sh,fr,ct,bl,cd⟩) rfl (by rw [HN.out];rfl))
  go_wp2_with fail
  go_ret
  exact⟨by rw [HV.out];rfl,HE0.out⟩
 ·rw [Bool.not_true]
  go_wp2_with fail
  refine(out_any _ _ _ _).mono ?_
  rintro e w2 ⟨rfl,hw⟩
  subst hw
  rw [<-HqO.out]
  cases qO
  ·rw [Bool.not_false]
   have HV:=Bl.hid (chk1 (l:=⟨1,id,oj,pl,sh,fr,ct,bl,cd⟩) rfl (by rw [HN.out];rfl))
   go_wp2_with fail
   go_ret
   exact⟨by rw [HV.out];rfl,HE0.out⟩
  ·rw [Bool.not_true]
   have q0:=HB.out.cell HC.out.1
   have q1:=HB.out.cell HC.out.2.1
   have q2:=HB.out.cell HC.out.2.2.1
   have q3:=HB.out.cell HC.out.2.2.2.1
   have q4:=HB.out.cell HC.out.2.2.2.2.1
   have q5:=HB.out.cell HC.out.2.2.2.2.2.1
   have q6:=HB.out.cell HC.out.2.2.2.2.2.2.1
   have q7:=HB.out.cell HC.out.2.2.2.2.2.2.2.1
   have q8:=HB.out.cell HC.out.2.2.2.2.2.2.2.2.1
   have Hn:Hid (numOk ⟨1,id,oj,pl,sh,fr,ct,bl,cd⟩=true):=Bl.hid (by rw [HN.out];rfl)
   obtain⟨qB,hqB⟩:∃q,q=wi (nb:Int) 1 512:=⟨_,rfl⟩
   rw [<-Hnb.out,<-hqB]at HS
   have HqB:=Bl.hid hqB
   clear hqB
   go_wp2_with fail
   refine(out_any _ _ _ _).mono ?_
   rintro e w2 ⟨rfl,hw⟩
   subst hw
   rw [<-HqB.out]
   go_wp2_with fail
   clear q0 q1 q2 q3 q4 q5 q6 q7 q8
   go_loopw [3,107] (fun o i wr=>∃(k:Nat) (b:Bool),k<=nb/\i= .int .i64 k/\o= .bool b/\Hid (b=(!qB||(bl.take k).any badB))/\Hid (BoxC wr w.heap.size CS)/\Hid (Ext w wr)) (fun _ i _=>nb - (intOf i).toNat)
   case atStart=>exact⟨0,_,Nat.zero_le _,rfl,rfl,Bl.hid (by rw [List.take_zero];simp),HB,HE0⟩
   case round=>
    obtain⟨k,b,hk,rfl,rfl,Hb,HBr,HEr⟩:=hrel
    by_cases hlt:k < nb
    ·have hla:k < bl.length:=by rw [<-Hnb.out];exact hlt
     obtain⟨vsb,hvb,hvl,hvs⟩:=Hbl.out.ext HEr.out
     obtain⟨gb,ob,hpb,hgb,hcell⟩:=Rdss.cell' hvb hvl k hla
     subst hpb
     have hrk:=hvs k hla
     have Htk:=Bl.hid (any_take1 badB bl [] hla)
     obtain⟨y,hy⟩:∃y,y=bl.getD k []:=⟨_,rfl⟩
     rw [<-hy]at hrk Htk
     obtain⟨g1,cc1,hf1,_,_⟩:=hrk.form
     rw [hf1]at hcell
     obtain⟨ny,hny⟩:∃ny,ny=y.length:=⟨_,rfl⟩
     rw [<-hny]at hcell
     have Hny:=Bl.hid hny
     have hb':Hid (badB y= !decide (ny=16)):=Bl.hid (by unfold badB;rw [hny])
     clear hvb hvl hvs hgb hrk hy hf1 hny
     cases b
     ·by_cases h16:ny=16
      ·subst h16
       go_wp2_with fail
       go_roundw
       case rel=>exact⟨k+1,false,by omega,by go_num,rfl,Bl.hid (by rw [Htk.out,hb'.out,<-Bool.or_assoc,<-Hb.out];rfl),HBr,HEr⟩
       case measure=>simp [intOf];omega
      ·have h16a:¬((ny:Int)=16):=by omega
       have h16b:((ny:Int)==16)=false:=by rw [beq_eq_false_iff_ne];exact h16a
       have h16c:((ny:Int) != 16)=true:=by rw [bne_iff_ne];exact h16a
       have Hd:Hid (decide (ny=16)=false):=Bl.hid (decide_eq_false h16)
       clear h16
       go_wp2_with fail
       go_roundw
       case rel=>exact⟨k+1,true,by omega,by go_num,(by first | rfl | exact congrArg Value.bool h16c),Bl.hid (by rw [Htk.out,hb'.out,Hd.out,<-Bool.or_assoc,<-Hb.out];rfl),HBr,HEr⟩
       case measure=>simp [intOf];omega
     ·go_wp2_with fail
      go_roundw
      case rel=>exact⟨k+1,true,by omega,by go_num,rfl,Bl.hid (by rw [Htk.out,<-Bool.or_assoc,<-Hb.out];rfl),HBr,HEr⟩
      case measure=>simp [intOf];omega
    ·obtain rfl:k=nb:=by omega
     rw [List.take_of_length_le (by rw [<-Hnb.out];exact Nat.le_refl _)]at Hb
     have q0:=HBr.out.cell HC.out.1
     have q1:=HBr.out.cell HC.out.2.1
     have q2:=HBr.out.cell HC.out.2.2.1
     have q3:=HBr.out.cell HC.out.2.2.2.1
     have q4:=HBr.out.cell HC.out.2.2.2.2.1
     have q5:=HBr.out.cell HC.out.2.2.2.2.2.1
     have q6:=HBr.out.cell HC.out.2.2.2.2.2.2.1
     have q7:=HBr.out.cell HC.out.2.2.2.2.2.2.2.1
     have q8:=HBr.out.cell HC.out.2.2.2.2.2.2.2.2.1
     cases b
     rotate_left
     ·have HV:=Bl.hid (chk8 (l:=⟨1,id,oj,pl,sh,fr,ct,bl,cd⟩) rfl Hn.out (by rw [HS.out];exact nob3 Hb.out))
      go_wp2_with fail
      go_ret
      exact⟨by rw [HV.out];rfl,HEr.out⟩
     have Hs:Hid (sizOk ⟨1,id,oj,pl,sh,fr,ct,bl,cd⟩=true):=Bl.hid (by rw [HS.out];obtain⟨z1,z2⟩:=nob0 Hb.out;rw [z1,z2];rfl)
     go_wp2_with (with_reducible refine stop_long ?_)
     refine go_on ?_
     iterate 28 (try (first | go_values | go_skip | go_guarded | go_step | go_upon | go_back | (simp only [Int.not_lt,Int.not_le]at*;go_simp) | (go_values<;>(try go_simp))))
     rw [app35]
     by_cases hgnp:(0:Int) < (np:Int)
     ·have HV:=Bl.hid (chk4 (l:=⟨1,id,oj,pl,sh,fr,ct,bl,cd⟩) rfl Hn.out Hs.out (fun q=>by obtain⟨a1,a2,a3,a4,a5,a6⟩:=HF.out.1 q;(try dsimp only at a1);(try dsimp only at a2);(try dsimp only at a3);(try dsimp only at a4);(try dsimp only at a5);(try dsimp only at a6);have:=Hnp.out;have:=Hnsh.out;have:=Hnb.out;omega))
      go_wp2_with fail
      go_ret
      exact⟨by rw [HV.out];rfl,HEr.out⟩
     by_cases hgns:(0:Int) < (ns:Int)
     ·have HV:=Bl.hid (chk4 (l:=⟨1,id,oj,pl,sh,fr,ct,bl,cd⟩) rfl Hn.out Hs.out (fun q=>by obtain⟨a1,a2,a3,a4,a5,a6⟩:=HF.out.1 q;(try dsimp only at a1);(try dsimp only at a2);(try dsimp only at a3);(try dsimp only at a4);(try dsimp only at a5);(try dsimp only at a6);have:=Hnp.out;have:=Hnsh.out;have:=Hnb.out;omega))
      go_wp2_with fail
      go_ret
      exact⟨by rw [HV.out];rfl,HEr.out⟩
     by_cases hgfr:fr=0
     rotate_left
     ·have hhfr:(fr==0)=false:=by rw [beq_eq_false_iff_ne];exact hgfr
      have HV:=Bl.hid (chk4 (l:=⟨1,id,oj,pl,sh,fr,ct,bl,cd⟩) rfl Hn.out Hs.out (fun q=>by obtain⟨a1,a2,a3,a4,a5,a6⟩:=HF.out.1 q;(try dsimp only at a1);(try dsimp only at a2);(try dsimp only at a3);(try dsimp only at a4);(try dsimp only at a5);(try dsimp only at a6);have:=Hnp.out;have:=Hnsh.out;have:=Hnb.out;omega))
      go_wp2_with fail
      go_ret
      exact⟨by rw [HV.out];rfl,HEr.out⟩
     subst hgfr
     by_cases hgct:ct=0
     rotate_left
     ·have hhct:(ct==0)=false:=by rw [beq_eq_false_iff_ne];exact hgct
      have HV:=Bl.hid (chk4 (l:=⟨1,id,oj,pl,sh,0,ct,bl,cd⟩) rfl Hn.out Hs.out (fun q=>by obtain⟨a1,a2,a3,a4,a5,a6⟩:=HF.out.1 q;(try dsimp only at a1);(try dsimp only at a2);(try dsimp only at a3);(try dsimp only at a4);(try dsimp only at a5);(try dsimp only at a6);have:=Hnp.out;have:=Hnsh.out;have:=Hnb.out;omega))
      go_wp2_with fail
      go_ret
      exact⟨by rw [HV.out];rfl,HEr.out⟩
     subst hgct
     by_cases hgcd:cd=0
     rotate_left
     ·have hhcd:(cd==0)=false:=by rw [beq_eq_false_iff_ne];exact hgcd
      have HV:=Bl.hid (chk4 (l:=⟨1,id,oj,pl,sh,0,0,bl,cd⟩) rfl Hn.out Hs.out (fun q=>by obtain⟨a1,a2,a3,a4,a5,a6⟩:=HF.out.1 q;(try dsimp only at a1);(try dsimp only at a2);(try dsimp only at a3);(try dsimp only at a4);(try dsimp only at a5);(try dsimp only at a6);have:=Hnp.out;have:=Hnsh.out;have:=Hnb.out;omega))
      go_wp2_with fail
      go_ret
      exact⟨by rw [HV.out];rfl,HEr.out⟩
     subst hgcd
     have hf:frmOk ⟨1,id,oj,pl,sh,0,0,bl,0⟩=true:=by
      refine HF.out.2 ⟨?_,?_,?_,?_,?_,?_⟩<;>(first | exact Or.inl rfl | exact Or.inl (Or.inl rfl) | exact Or.inl (Or.inr rfl) | exact Or.inl trivial | exact Or.inl (Or.inl trivial) | exact Or.inl (Or.inr trivial) | ((try dsimp only);have:=Hnp.out;have:=Hnsh.out;have:=Hnb.out;omega))
     have Hf:=Bl.hid hf
     clear hf
     have Hl:=Bl.hid (HBr.out.load (P:=Tryz.prog) Tryz.underlying43 rfl (by rw [HC.out.2.2.2.2.2.2.2.2.2];kernel_rfl))
     go_wp2_with (with_reducible refine stop_load (ty:=43) ?_)
     refine go_on ?_
     refine wpL_load rfl Hl.out ?_
     go_wp2_with fail
     refine(HLa.out _ HEr.out Hn.out Hs.out).mono ?_
     rintro e wz ⟨vz,rfl,hrz,hEz⟩
     obtain⟨pz,cz,hfz,_,_⟩:=hrz.form
     subst hfz
     have HEz:=Bl.hid (HEr.out.trans hEz)
     obtain⟨M,hM⟩:∃M,M=(bytL ⟨1,id,oj,pl,sh,0,0,bl,0⟩).length:=⟨_,rfl⟩
     rw [<-hM]
     have HM:=Bl.hid hM
     clear hM hrz hEz Hl
     by_cases h8:8000 < M
     ·have h8i:(8000:Int) < (M:Int):=by omega
      have HV:=Bl.hid (chk3 (l:=⟨1,id,oj,pl,sh,0,0,bl,0⟩) rfl Hn.out Hs.out Hf.out (by rw [<-HM.out];exact h8))
      clear h8
      go_wp2_with fail
      go_ret
      exact⟨by rw [HV.out];rfl,HEz.out⟩
     ·have h8i:¬((8000:Int) < (M:Int)):=by omega
      have HV:=Bl.hid (chk0 (l:=⟨1,id,oj,pl,sh,0,0,bl,0⟩) rfl Hn.out Hs.out Hf.out (by rw [<-HM.out];exact h8))
      clear h8
      go_wp2_with fail
      go_ret
      exact⟨by rw [HV.out];rfl,HEz.out⟩
end Go.Proofs.YtglenbikdahgjaaGreatDoor
