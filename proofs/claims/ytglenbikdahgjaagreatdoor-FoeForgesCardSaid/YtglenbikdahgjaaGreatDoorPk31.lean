/- Walk of baileeref22.laid. -/
import Derived.Test.YtglenbikdahgjaaGreatDoorPk29
set_option maxRecDepth 100000
set_option maxHeartbeats 16000000
namespace Go.Proofs.YtglenbikdahgjaaGreatDoor
open Go Go.RowKit Go.Proofs Go.Proofs.Bl
theorem rlaid4_any (v:Value) (l:Bl.LT) (w:World) (h:LtV w v l) (hk:l.kind=4) (hn:numOk l=true) (hz:sizOk l=true):
  Calls Tryz.prog 60 #[v] w fun e w'=>∃v',e= .returned v'/\Rd w' .u8 v' (bytL l)/\Ext w w':=by
 obtain⟨cs0,vp,vs,vb,L,rfl,hc⟩:=h
 obtain rfl:=hc.eq
 obtain⟨hid,hoj,hnt⟩:=numOk_id hn
 obtain⟨kd,id,oj,pl,sh,fr,ct,bl,cd⟩:=l
 obtain⟨p1,c1,e1,hc1,hm1⟩:=hc.pl.form
 obtain⟨p2,c2,e2,hc2,hm2⟩:=hc.sh.rd.form
 obtain⟨p3,c3,e3,hc3,hm3⟩:=hc.bl.form
 have Hpl:Hid (Rd w .i64 vp pl):=Bl.hid hc.pl
 have Hsh:=Bl.hid hc.sh
 have Hsl:Hid (L.map plS=sh):=Bl.hid hc.sl
 have Hbl:Hid (Rdss w vb bl):=Bl.hid hc.bl
 simp only at e1 e2 e3 hk hid hoj hc1 hc3
 subst e1 e2 e3
 clear hc hn
 unfold maxLen at hm1 hm2 hm3
 obtain⟨np,hnp⟩:∃np,np=pl.length:=⟨_,rfl⟩
 obtain⟨ns,hns⟩:∃ns,ns=L.length:=⟨_,rfl⟩
 obtain⟨nb,hnb⟩:∃nb,nb=bl.length:=⟨_,rfl⟩
 have Hnp:=Bl.hid hnp
 have Hns:=Bl.hid hns
 have Hnb:=Bl.hid hnb
 rw [<-hnp]at Hpl hc1⊢
 rw [<-hns]at Hsh hc2⊢
 rw [<-hnb]at Hbl hc3⊢
 clear hnp hns hnb
 have Hnt:=Bl.hid hnt
 have Hz:=Bl.hid hz
 clear hnt hz
 subst hk
 obtain⟨W0,hW0⟩:∃W0,W0=w.alloc (.cells #[.int .i64 4,.int .i64 id,.int .i64 oj,.slice p1 np c1,.slice p2 ns c2,.int .i64 fr,.int .i64 ct,.slice p3 nb c3,.int .i64 cd] 43):=⟨_,rfl⟩
 have HE0:Hid (Ext w W0):=Bl.hid (by rw [hW0];exact ext_alloc _ _)
 obtain⟨CS,hCS⟩:∃CS,CS=cL ⟨4,id,oj,pl,sh,fr,ct,bl,cd⟩ (.slice p1 np c1) (.slice p2 ns c2) (.slice p3 nb c3):=⟨_,rfl⟩
 have HB:Hid (BoxC W0 w.heap.size CS):=Bl.hid (by rw [hW0,hCS];exact BoxC.box w 43 (cs:=(cL ⟨4,id,oj,pl,sh,fr,ct,bl,cd⟩ (.slice p1 np c1) (.slice p2 ns c2) (.slice p3 nb c3))) (fun h=>by cases h))
 have HC:Hid (CS[0]? =some (.int .i64 4)/\CS[1]? =some (.int .i64 id)/\CS[2]? =some (.int .i64 oj)/\CS[3]? =some (.slice p1 np c1)/\CS[4]? =some (.slice p2 ns c2)/\CS[5]? =some (.int .i64 fr)/\CS[6]? =some (.int .i64 ct)/\CS[7]? =some (.slice p3 nb c3)/\CS[8]? =some (.int .i64 cd)):=Bl.hid (by rw [hCS];exact⟨rfl,rfl,rfl,rfl,rfl,rfl,rfl,rfl,rfl⟩)
 show Calls Tryz.prog 60 #[.agg #[.int .i64 4,.int .i64 id,.int .i64 oj,.slice p1 np c1,.slice p2 ns c2,.int .i64 fr,.int .i64 ct,.slice p3 nb c3,.int .i64 cd]] w _
 obtain⟨hi1,hi2⟩:=hid
 obtain⟨hj1,hj2⟩:=hoj
 have hwk:IntKind.u8.wrap 4=4:=rfl
 clear hCS
 go_enter Tryz.func60,Tryz.ntmps60
 go_wp2_with fail
 rw [<-hW0]
 clear hW0
 apply wp_region_ev 7 [12,13,14,15,16,17,18] [eqv _,eqv _,eqv _,(fun v w'=>Pk w' (w.heap.size+1) 1 v 1 [.int .u8 4]),eqv _,eqv _,(fun v w'=>SlB w' v (numL id))] (by kernel_rfl) (by kernel_rfl) (by kernel_rfl) (by kernel_rfl)
 case hsteps=>
  refine⟨?_,?_,?_,?_,?_,?_,?_,trivial⟩
  all_goals
   intro ev w1 hext hb hd
   have e1:=hb 1 (by decide)
   clear hb
   simp only [Qa,Qb,Q1,Bl.Q2,Qd]at e1
   simp only [DepsE,Q1,Bl.Q2,Qc,Q3,Q4,eqv,and_true]at hd
   have hc:=(bcell hext).1
   have q0:=(HB.out.ext hext).cell HC.out.1
   have q1:=(HB.out.ext hext).cell HC.out.2.1
   simp only [Bl.Good,Region.wanted,if_true]
   go_simp
   first | exact⟨ext_alloc _ _,pk_new1 _ _ _ (HB.out.ext hext).lt⟩ | (go_at_call 104;(with_reducible refine(rnumber_any id w1 hi1 hi2).mono ?_);rintro e w2 ⟨v',rfl,h1,h2⟩;exact⟨_,rfl,h2,h1⟩) | exact⟨Below.refl _ _,by rw [hwk];rfl⟩ | exact⟨Below.refl _ _,rfl⟩
 case hmono=>exact⟨mono_eqv _,mono_eqv _,mono_eqv _,(fun _ _ _ h k=>Pk.ext h k),mono_eqv _,mono_eqv _,(fun _ _ _ h k=>SlB.ext h k),trivial⟩
 case hend=>
  intro u w1 hext hend
  simp only [EndE,Q1,Bl.Q2,Qc,Q3,Q4,eqv,true_and]at hend
  simp only [fillAct,Q5,Q6,Q7,Q8,Q9,hend]
  have hp15:Pk w1 (w.heap.size+1) 1 (u 15) 1 [.int .u8 4]:=(by first | ((repeat(first | exact hend | exact hend.2 | replace hend:=hend.1));done) | (repeat(first | exact hend | exact hend.1 | replace hend:=hend.2)))
  have hs18:SlB w1 (u 18) (numL id):=(by first | ((repeat(first | exact hend | exact hend.2 | replace hend:=hend.1));done) | (repeat(first | exact hend | exact hend.1 | replace hend:=hend.2)))
  obtain⟨b18,o18,c18,hv18',hr18⟩:=slb_pos hs18 (show 0 < 8 by decide)
  have hv18:u 18= .slice (some ⟨b18,o18,none⟩) 8 c18:=hv18'
  have HA0:Hid (Bl.Acc w CS w1 (u 15) 1 [4]):=Bl.hid ⟨HB.out.ext hext,hp15,HE0.out.trans hext⟩
  obtain⟨v15,hv15⟩:∃v15,v15=u 15:=⟨_,rfl⟩
  rw [<-hv15]at HA0
  rw [<-hv15,hv18]
  have R18:=Bl.hid hr18
  clear hp15 hs18 hv18 hv18' hr18 hv15 hend hext HB hwk HE0
  obtain⟨p15,c15,rfl⟩:=HA0.out.form
  go_wp2_with (with_reducible refine stop_append ?_)
  refine go_on ?_
  refine wpL_appPk tBytes HA0.out.own R18.out rfl (ints_one _ _) (by decide) (by decide) (by decide) HA0.out.le rfl rfl ?_
  intro vHA1 wHA1 hp hg hk
  have h:Bl.Acc w CS wHA1 vHA1 (9) (4 :: numL id):=HA0.out.push hp hg
  obtain⟨pHA1,cHA1,rfl⟩:=h.form
  have HA1:=Bl.hid h
  clear hp hg hk h HA0
  have q2:=HA1.out.box.cell HC.out.2.2.1
  go_wp2_with fail
  refine(rnumber_any oj _ hj1 hj2).mono ?_
  rintro e wx ⟨vx,rfl,hsx,hEx⟩
  obtain⟨bx,ox,cx,hvx',hrx⟩:=slb_pos hsx (show 0 < 8 by decide)
  have hvx:vx= .slice (some ⟨bx,ox,none⟩) 8 cx:=hvx'
  clear hvx'
  subst hvx
  have HAx:=Bl.hid (HA1.out.ext' hEx)
  have Rx:=Bl.hid hrx
  clear hsx hEx hrx q2 HA1
  go_wp2_with (with_reducible refine stop_append ?_)
  refine go_on ?_
  refine wpL_appPk tBytes HAx.out.own Rx.out rfl (ints_one _ _) (by decide) (by decide) (by decide) HAx.out.le rfl rfl ?_
  intro vHA2 wHA2 hp hg hk
  have h:Bl.Acc w CS wHA2 vHA2 (17) (4 :: (numL id++numL oj)):=HAx.out.push hp hg
  obtain⟨pHA2,cHA2,rfl⟩:=h.form
  have HA2:=Bl.hid h
  clear hp hg hk h HAx
  have q0:=HA2.out.box.cell HC.out.1
  ·have hns1:Hid ((1<=ns/\ns<=12)/\(∀s∈sh,badS s=false)/\∀s∈sh,badP s.1=false):=Bl.hid (by
    have h:(wi sh.length 1 12&& !sh.any badS)=true:=Hz.out
    rw [Bool.and_eq_true]at h
    have h1:=wi_iff.1 h.1
    exact⟨by have:=Hns.out;rw [<-Hsl.out,List.length_map]at h1;omega,any_false h.2,any_false Hnt.out⟩)
   have hb1:(ns:Int)<=12:=by have:=hns1.out.1.2;omega
   have hb0:(0:Int)<=(ns:Int):=by omega
   have HV:Hid (bytL ⟨4,id,oj,pl,sh,fr,ct,bl,cd⟩=4 :: (numL id++numL oj)++[(ns:Int)]++sh.flatMap shB):=Bl.hid (by unfold bytL tailL;simp [Hns.out,<-Hsl.out])
   have hdg:Hid (∀s∈sh,badS s=false/\Dig s.2.2):=Bl.hid fun s hs=>⟨hns1.out.2.1 s hs,by
    rw [<-Hsl.out]at hs
    obtain⟨x,hx,rfl⟩:=List.mem_map.1 hs
    exact(Hsh.out.ok x hx).dg⟩
   have q4:=HA2.out.box.cell HC.out.2.2.2.2.1
   have HB1:=Bl.hid (HA2.out.ext' (ext_alloc wHA2 (.cells #[.int .u8 (ns:Int)] 5)))
   have RB1:Hid ((wHA2.alloc (.cells #[.int .u8 (ns:Int)] 5)).rangeAt wHA2.heap.size 0 (ints .u8 [(ns:Int)])):=Bl.hid fun j x hx=>by rw [Nat.zero_add,World.cell?_alloc_new];exact cell1 hx
   go_wp2_with (with_reducible refine stop_append ?_)
   refine go_on ?_
   refine wpL_appPk tBytes HB1.out.own RB1.out rfl (ints_one _ _) (by decide) (by decide) (by decide) HB1.out.le rfl rfl ?_
   intro vHB2 wHB2 hp hg hk
   have h:Bl.Acc w CS wHB2 vHB2 18 (4 :: (numL id++numL oj)++[(ns:Int)]):=HB1.out.push hp hg
   obtain⟨pHB2,cHB2,rfl⟩:=h.form
   have HB2:=Bl.hid h
   clear hp hg hk h HB1 q4 q0
   have q4:=HB2.out.box.cell HC.out.2.2.2.2.1
   go_wp2_with fail
   clear q4
   go_loopw [3,98] (fun o i wr=>∃(k N:Nat) (p:Option Addr) (c:Nat) (pre:List Int),k<=ns/\i= .int .i64 k/\o= .slice p N c/\Hid (pre=4 :: (numL id++numL oj)++[(ns:Int)]++(sh.take k).flatMap shB)/\Hid (pre.length=N)/\Hid (Bl.Acc w CS wr (.slice p N c) N pre)) (fun _ i _=>ns - (intOf i).toNat)
   case atStart=>exact⟨0,18,_,_,4 :: (numL id++numL oj)++[(ns:Int)],Nat.zero_le _,rfl,rfl,Bl.hid (by rw [List.take_zero,List.flatMap_nil,List.append_nil]),Bl.hid rfl,HB2⟩
   case round=>
    obtain⟨k,N,p,c,pre,hk,rfl,rfl,Hpre,HN,HA⟩:=hrel
    by_cases hlt:k < ns
    ·have hla:k < L.length:=by rw [<-Hns.out];exact hlt
     have hls:k < sh.length:=by rw [<-Hsl.out,List.length_map];exact hla
     have hRA:=Hsh.out.ext HA.out.ext
     obtain⟨g,o,cc,hpe,_,_,_,hel⟩:=hRA.pos (by omega)
     injection hpe with ha1 ha2 ha3
     subst ha1
     have hrg:=hel k hla
     have hok0:=Hsh.out.ok _ (getD_mem s0 hla)
     have hok:=hRA.ok _ (getD_mem s0 hla)
     have hpx:plS (L.getD k s0)=sh.getD k Bl.h0:=by rw [<-plS_getD,Hsl.out]
     have hxs:=hns1.out.2.1 _ (getD_mem Bl.h0 hls)
     have hxp:=badP_not (hns1.out.2.2 _ (getD_mem Bl.h0 hls))
     have Htk:=Bl.hid (flatMap_take Bl.h0 shB sh k hls)
     have HNl:Hid (N<=18+12*339):=Bl.hid (by
      rw [<-HN.out,Hpre.out]
      have h9:=shs_len (sh.take k) (fun s hs=>hdg.out s (List.mem_of_mem_take hs))
      have h10:(sh.take k).length<=12:=by rw [List.length_take];have:=hns1.out.1.2;omega
      have h11:((sh.take k).length)*339<=12*339:=Nat.mul_le_mul_right _ h10
      rw [List.length_append]
      have:(4 :: (numL id++numL oj)++[(ns:Int)]).length=18:=rfl
      omega)
     rw [<-hpx]at hxs hxp Htk
     obtain⟨x,hx⟩:∃x,x=L.getD k s0:=⟨_,rfl⟩
     rw [<-hx]at hrg hok hok0 hxs hxp Htk
     clear hx hpx hel ha2 ha3 hRA
     obtain⟨pc,⟨u1,st⟩,u2,pa⟩:=x
     obtain⟨hx0,hx1⟩:0<=pc/\pc<=511:=hxp
     obtain⟨hx2,hx3⟩:st.length=16/\pa.length<=10:=badS_not hxs
     obtain⟨g1,o1,d1,hq1f,_,_,hgb1,hr1,_⟩:=Rd.pos hok0.st (by show 0 < st.length;omega)
     obtain⟨q2,d2,hq2f,_,hd2⟩:=hok.pa.form
     simp only at hq1f hq2f
     rw [hx2]at hq1f
     subst hq1f hq2f
     obtain⟨m,hm⟩:∃m,m=pa.length:=⟨_,rfl⟩
     have Hm:=Bl.hid hm
     have hm10:m<=10:=by rw [hm];exact hx3
     rw [<-hm]at hok hrg
     have HPa:Hid (RdD w (.slice q2 m d2) pa):=Bl.hid (by rw [hm];exact hok0.pa)
     have HDg:Hid (Dig pa):=Bl.hid hok0.dg
     have R1:Hid (∀w2,Ext w w2->w2.rangeAt g1 o1 (ints .u8 st)):=Bl.hid fun w2 h2=>rangeAt_ext hr1 h2
     have Hg1:Hid (g1 < w.heap.size):=Bl.hid hgb1
     have H16:=Bl.hid hx2
     have Hld:=Bl.hid (run_loadAt_mid (P:=Tryz.prog) wr g (o+k*3) 100 _ _ hrg Tryz.underlying100 rfl (by rw [cS_len];kernel_rfl))
     have hone:∀z∈([.int .i64 pc,.slice (some ⟨g1,o1,none⟩) 16 d1,.slice q2 m d2]:List Value),z.oneCell'=true:=cS3_one ⟨_,_,_,rfl⟩ ⟨_,_,_,rfl⟩
     obtain⟨hB5,hE5⟩:=BoxC.fresh (cs:=[.int .i64 pc,.slice (some ⟨g1,o1,none⟩) 16 d1,.slice q2 m d2]) wr 100 zSh rfl (fun q=>by cases q)
     have Hst:=Bl.hid (fresh_store (P:=Tryz.prog) (cs:=[.int .i64 pc,.slice (some ⟨g1,o1,none⟩) 16 d1,.slice q2 m d2]) wr 100 zSh rfl hone (ty:=100) (by kernel_rfl))
     have HB5:=Bl.hid hB5
     have HE5:=Bl.hid hE5
     have hk0:(0:Int)<=(k:Int):=by omega
     have hk1:(k:Int) < (ns:Int):=by omega
     clear hrg hok hok0 hone hB5 hE5 hm hx2 hx3 hxs hla hls hr1 hgb1
     go_wp2_with (with_reducible refine stop_load (ty:=100) ?_)
     refine go_on ?_
     refine wpL_load rfl Hld.out ?_
     go_wp2_with (with_reducible refine stop_store (ty:=100) ?_)
     refine go_on ?_
     refine wpL_store0 rfl rfl Hst.out ?_
     obtain⟨W5,hW5⟩:∃W5,W5=(wr.alloc (.cells zSh 100)).setCells wr.heap.size 0 [.int .i64 pc,.slice (some ⟨g1,o1,none⟩) 16 d1,.slice q2 m d2]:=⟨_,rfl⟩
     obtain⟨D,hD⟩:∃D,D=wr.heap.size:=⟨_,rfl⟩
     rw [<-hW5]at HB5 HE5⊢
     rw [<-hD]at HB5⊢
     have HDo:Hid ((∀j,(Value.slice p N c).ownBlock=some j->j < D)/\D < W5.heap.size/\w.heap.size < D):=Bl.hid ⟨fun j hj=>by rw [hD];exact(HA.out.own.block j hj).2,HB5.out.lt,by rw [hD];exact HA.out.box.lt⟩
     have HA5:=Bl.hid (HA.out.ext' HE5.out)
     clear hW5 hD Hst Hld
     have Hq:Hid (∀w2,Kq (fun j=>(Value.slice p N c).ownBlock=some j\/W5.heap.size<=j) W5 w2->BoxC w2 D [.int .i64 pc,.slice (some ⟨g1,o1,none⟩) 16 d1,.slice q2 m d2]/\w2.rangeAt g1 o1 (ints .u8 st)):=Bl.hid fun w2 h2=>by
      refine⟨h2.box (fun q=> ?_) HB5.out,fun j z hz=>h2.cell (fun q=> ?_) (R1.out W5 HA5.out.ext j z hz)⟩
      ·rcases q with q | q
       ·have:=HDo.out.1 D q;omega
       ·have:=HDo.out.2.1;omega
      ·rcases q with q | q
       ·have:=(HA5.out.own.block g1 q).1;have:=Hg1.out;omega
       ·have:=Hg1.out;have:=HA5.out.le;omega
     have hwm:IntKind.u8.wrap (m:Int)=(m:Int):=IntWalk.u8_in _ (by omega)
     have HNb:Hid (N+2<=maxLen/\(N+2)*1<=140737488355328/\N+2+16<=maxLen/\(N+2+16)*1<=140737488355328/\N+2+16+1<=maxLen/\(N+2+16+1)*1<=140737488355328):=Bl.hid (by have:=HNl.out;unfold maxLen;omega)
     have Hl32:Hid ((ints .u8 (twoL pc)).length=2*1/\(ints .u8 st).length=16*1):=Bl.hid ⟨rfl,by rw [ints_length,H16.out]⟩
     go_wp2_with fail
     apply wp_region_evK (Kq (fun j=>(Value.slice p N c).ownBlock=some j\/W5.heap.size<=j)) (JL W5.heap.size N (.slice p N c) (w.heap.size+1) pre (twoL pc) st (m:Int)) 13 [102,103,104,105,106,107,108,109,110,111,112,113,114] [eqv _,eqv _,eqv _,anyv,anyv,eqv _,eqv _,anyv,eqv _,eqv _,eqv _,eqv _,anyv] (fun w=>Kq.refl w) (fun a b c h k=>Kq.trans h k) (by kernel_rfl) (by kernel_rfl) (by kernel_rfl) (by kernel_rfl)
     case hsteps=>
      refine⟨?_,?_,?_,?_,?_,?_,?_,?_,?_,?_,?_,?_,?_,trivial⟩
      all_goals
       intro d ev w1 hext HJd Hanc Hdes hni hb hd
       replace Hanc:=Bl.hid Hanc
       replace HJd:=Bl.hid HJd
       replace Hdes:=Bl.hid Hdes
       replace hni:=Bl.hid hni
       have e3:=hb 3 (by decide)
       have e9:=hb 9 (by decide)
       clear hb
       simp only [Qa,Qb,Q1,Bl.Q2,Qd]at e3 e9
       simp only [DepsE2,Q1,Bl.Q2,Qc,Q3,Q4,eqv,and_true]at hd
       have hq:=Hq.out _ hext
       have c0:=hq.1.cell (i:=0) (v:= .int .i64 pc) rfl
       have c1:=hq.1.cell (i:=1) (v:= .slice (some ⟨g1,o1,none⟩) 16 d1) rfl
       have c2:=hq.1.cell (i:=2) (v:= .slice q2 m d2) rfl
       rw [if_pos (rfl:Region.wanted _ _=true)]
       first
       | (obtain⟨b9,o9,c9,hu9,hr9⟩:=HJd.out.b (Hanc.out 3 (by kernel_rfl)) hni.out;(with_reducible refine goodX_append (c:=c9) tBytes (HJd.out.a hni.out) hr9 Hl32.out.1 (ints_one _ _) (by decide) HNb.out.1 HNb.out.2.1 (Nat.le_trans HJd.out.bw HJd.out.le) ?_ ?_ ?_);exact(by first | ((repeat(first | exact hd | exact hd.2 | replace hd:=hd.1));done) | (repeat(first | exact hd | exact hd.1 | replace hd:=hd.2)));exact hu9;exact fun v' w' z1 z2 z3=>(HJd.out.app1 hni.out (Hdes.out 7 (by kernel_rfl)) z1 z2 z3).imp (fun y=>y) fun z=>⟨trivial,z⟩) | ((with_reducible refine goodX_append (c:=d1) tBytes (HJd.out.c (Hanc.out 4 (by kernel_rfl)) hni.out).1 hq.2 Hl32.out.2 (ints_one _ _) (by decide) HNb.out.2.2.1 HNb.out.2.2.2.1 (Nat.le_trans HJd.out.bw HJd.out.le) ?_ ?_ ?_);rfl;exact(by first | ((repeat(first | exact hd | exact hd.2 | replace hd:=hd.1));done) | (repeat(first | exact hd | exact hd.1 | replace hd:=hd.2)));exact fun v' w' z1 z2 z3=>(HJd.out.app2 (Hanc.out 4 (by kernel_rfl)) hni.out z1 z2 z3).imp (fun y=>y) fun z=>⟨trivial,z⟩)
       | (go_simp;first | exact⟨Kq.refl _,rfl,HJd.out.same (by decide)⟩ | exact⟨Kq.refl _,by rw [hwm];rfl,HJd.out.same (by decide)⟩ | (go_at_call 105;(with_reducible refine(rtwo2_any pc w1 hx0 (by omega)).mono ?_);rintro e w2 ⟨b9,o9,c9,rfl,k1,k2⟩;exact⟨_,rfl,Kq.of_ext k2,trivial,HJd.out.call (Hdes.out 4 (by kernel_rfl)) (Hdes.out 7 (by kernel_rfl)) k2 ⟨b9,o9,c9,rfl,k1⟩⟩) | exact⟨Kq.of_ext (ext_alloc _ _),trivial,HJd.out.bld _⟩ | exact⟨Kq.of_ext (ext_alloc _ _),HJd.out.bld _⟩ | exact⟨Below.refl _ _,rfl,Bl.HJ.same (by decide) HJd.out⟩)
     case hmono=>exact⟨monoR_eqv _,monoR_eqv _,monoR_eqv _,monoR_anyv,monoR_anyv,monoR_eqv _,monoR_eqv _,monoR_anyv,monoR_eqv _,monoR_eqv _,monoR_eqv _,monoR_eqv _,monoR_anyv,trivial⟩
     case hR0=>exact Kq.drew _
     case hend=>
      intro u w1 hext hJ hend
      simp only [EndE,Q1,Bl.Q2,Qc,Q3,Q4,eqv,true_and]at hend
      simp only [fillAct,Q5,Q6,Q7,Q8,Q9,hend]
      have hP:=hJ.f rfl
      obtain⟨gg,hug,_,_,hrg,_,hng⟩:=hJ.g rfl
      obtain⟨v9,hv9⟩:∃v9,v9=u 109:=⟨_,rfl⟩
      rw [<-hv9]at hP
      rw [<-hv9,hug]
      have HBX:Hid (BoxC w1 w.heap.size CS):=Bl.hid (hext.box (fun q=>by
       rcases q with q | q
       ·have:=(HA5.out.own.block _ q).1;omega
       ·have:=HA5.out.box.lt;omega) HA5.out.box)
      have HEX:Hid (Ext w w1):=Bl.hid (Below.trans HA5.out.ext (hext.below HA5.out.ext.size (fun j q=>by
       rcases q with q | q
       ·have:=(HA5.out.own.block _ q).1;omega
       ·have:=HA5.out.ext.size;omega)))
      have HAx:Hid (Bl.Acc w CS w1 v9 (N+2+16) (pre++twoL pc++st)):=Bl.hid ⟨HBX.out,by rw [ints_append,ints_append];exact hP,HEX.out⟩
      have HBD:=Bl.hid (Hq.out _ hext).1
      have RG:Hid (w1.rangeAt gg 0 (ints .u8 [(m:Int)])):=Bl.hid hrg
      have HD9:Hid (∀j,v9.ownBlock=some j->j≠D):=Bl.hid fun j hj q=>by
       have h9:=hJ.f rfl
       subst q
       exact absurd hj (by
        intro z
        rcases hJ.k9 rfl j (by rw [<-hv9];exact z)with y | y
        ·have:=HDo.out.1 j y;omega
        ·have:=HDo.out.2.1;omega)
      clear hext hJ hend hP hug hrg hng hv9 HBX HEX Hq HA5 HA HB5
      go_wp2_with (with_reducible refine stop_append ?_)
      refine go_on ?_
      refine wpL_appPk tBytes HAx.out.own RG.out rfl (ints_one _ _) (by decide) HNb.out.2.2.2.2.1 HNb.out.2.2.2.2.2 HAx.out.le rfl rfl ?_
      intro v7 w7 hp hg hkk
      have h:Bl.Acc w CS w7 v7 (N+2+16+1) (pre++twoL pc++st++[(m:Int)]):=HAx.out.push hp hg
      have HBD7:=Bl.hid (HBD.out.grown hg (fun q=>HD9.out D q rfl))
      have HD7:Hid ((∀j,v7.ownBlock=some j->j≠D)):=Bl.hid fun j hj q=>by
       rcases hkk j hj with y | y
       ·exact HD9.out j y q
       ·have:=HBD.out.lt;omega
      obtain⟨p7,c7,rfl⟩:=h.form
      have HA7:=Bl.hid h
      clear hp hg hkk h HAx HBD HD9 RG
      have c2:=HBD7.out.cell (i:=2) (v:= .slice q2 m d2) rfl
      obtain⟨pre2,hpre2⟩:∃pre2,pre2=pre++twoL pc++st++[(m:Int)]:=⟨_,rfl⟩
      rw [<-hpre2]at HA7
      have Hpre2:=Bl.hid hpre2
      obtain⟨N2,hN2⟩:∃N2,N2=N+2+16+1:=⟨_,rfl⟩
      rw [<-hN2]at HA7⊢
      have HN2:Hid (pre2.length=N2):=Bl.hid (by rw [hpre2,hN2];simp only [List.length_append,HN.out,H16.out,List.length_singleton];rfl)
      have hN2l:N2<=5000:=by have:=HNl.out;omega
      have Hw7:Hid (D < w7.heap.size):=Bl.hid HBD7.out.lt
      clear hpre2 hN2 HNb
      go_wp2_with fail
      clear c2
      go_loopw [3,119] (fun o i wr=>∃(j:Nat) (p8:Option Addr) (c8:Nat),j<=m/\i= .int .i64 j/\o= .slice p8 (N2+j*32) c8/\Hid (Bl.Acc w CS wr (.slice p8 (N2+j*32) c8) (N2+j*32) (pre2++(pa.take j).flatten))) (fun _ i _=>m - (intOf i).toNat)
      case atStart=>exact⟨0,_,_,Nat.zero_le _,rfl,rfl,by rw [List.take_zero,List.flatten_nil,List.append_nil];exact HA7⟩
      case round=>
       obtain⟨j,p8,c8,hj,rfl,rfl,HI⟩:=hrel
       by_cases hjt:j < m
       ·have hjp:j < pa.length:=by rw [<-Hm.out];exact hjt
        obtain⟨b1,o1',c1',hpa,_,_,_,hrg1⟩:=RdD.pos (ds:=pa) (Rds.ext HPa.out HI.out.ext) HDg.out (by omega)
        injection hpa with hpa hx1 hx2
        subst hpa
        clear hx1 hx2
        have hr1:=digit_at hrg1 HDg.out (i:=j) hjp
        obtain⟨hl1,_⟩:=HDg.out.get (i:=j) hjp
        have Ht1:Hid ((pa.take (j+1)).flatten=(pa.take j).flatten++pa.getD j []):=Bl.hid (by rw [take_succ_getDD [] pa j hjp];simp)
        obtain⟨dg,hdg'⟩:∃dg,dg=pa.getD j []:=⟨_,rfl⟩
        rw [<-hdg']at hr1 hl1 Ht1
        have Hld:=Bl.hid (load_ints (P:=Tryz.prog) (ty:=52) hr1 Tryz.underlying52 (by kernel_rfl) hl1)
        have hne1:ints .u8 dg≠[]:=fun q=>by have:=congrArg List.length q;rw [ints_length,hl1]at this;cases this
        obtain⟨hB8,hE8⟩:=BoxC.fresh (cs:=ints .u8 dg) wr 52 #[.int .u8 0,.int .u8 0,.int .u8 0,.int .u8 0,.int .u8 0,.int .u8 0,.int .u8 0,.int .u8 0,.int .u8 0,.int .u8 0,.int .u8 0,.int .u8 0,.int .u8 0,.int .u8 0,.int .u8 0,.int .u8 0,.int .u8 0,.int .u8 0,.int .u8 0,.int .u8 0,.int .u8 0,.int .u8 0,.int .u8 0,.int .u8 0,.int .u8 0,.int .u8 0,.int .u8 0,.int .u8 0,.int .u8 0,.int .u8 0,.int .u8 0,.int .u8 0] (by rw [ints_length,hl1];rfl) hne1
        have Hst:=Bl.hid (fresh_store (P:=Tryz.prog) (cs:=ints .u8 dg) wr 52 #[.int .u8 0,.int .u8 0,.int .u8 0,.int .u8 0,.int .u8 0,.int .u8 0,.int .u8 0,.int .u8 0,.int .u8 0,.int .u8 0,.int .u8 0,.int .u8 0,.int .u8 0,.int .u8 0,.int .u8 0,.int .u8 0,.int .u8 0,.int .u8 0,.int .u8 0,.int .u8 0,.int .u8 0,.int .u8 0,.int .u8 0,.int .u8 0,.int .u8 0,.int .u8 0,.int .u8 0,.int .u8 0,.int .u8 0,.int .u8 0,.int .u8 0,.int .u8 0] (by rw [ints_length,hl1];rfl) (ints_one _ _) (ty:=52) (by rw [ints_length,hl1];kernel_rfl))
        have HB8:=Bl.hid hB8
        have HA8:=Bl.hid (HI.out.ext' hE8)
        have Hl1:=Bl.hid hl1
        have hj0:(0:Int)<=(j:Int):=by omega
        have hj1:(j:Int) < (m:Int):=by omega
        clear hrg1 hr1 hl1 hne1 hdg' hB8 hE8 hjp
        go_wp2_with (with_reducible refine stop_load (ty:=52) ?_)
        refine go_on ?_
        refine wpL_load rfl Hld.out ?_
        go_wp2_with (with_reducible refine stop_store (ty:=52) ?_)
        refine go_on ?_
        refine wpL_store0 rfl rfl Hst.out ?_
        obtain⟨W8,hW8⟩:∃W8,W8=(wr.alloc (.cells #[.int .u8 0,.int .u8 0,.int .u8 0,.int .u8 0,.int .u8 0,.int .u8 0,.int .u8 0,.int .u8 0,.int .u8 0,.int .u8 0,.int .u8 0,.int .u8 0,.int .u8 0,.int .u8 0,.int .u8 0,.int .u8 0,.int .u8 0,.int .u8 0,.int .u8 0,.int .u8 0,.int .u8 0,.int .u8 0,.int .u8 0,.int .u8 0,.int .u8 0,.int .u8 0,.int .u8 0,.int .u8 0,.int .u8 0,.int .u8 0,.int .u8 0,.int .u8 0] 52)).setCells wr.heap.size 0 (ints .u8 dg):=⟨_,rfl⟩
        obtain⟨X8,hX8⟩:∃X8,X8=wr.heap.size:=⟨_,rfl⟩
        rw [<-hW8]at HB8 HA8⊢
        rw [<-hX8]at HB8⊢
        clear hW8 hX8 Hst Hld
        go_wp2_with (with_reducible refine stop_append ?_)
        refine go_on ?_
        refine wpL_appPk tBytes HA8.out.own HB8.out.rg (by rw [ints_length,Hl1.out]) (ints_one _ _) (by decide) (by unfold maxLen;omega) (by omega) HA8.out.le rfl rfl ?_
        intro v10 w10 hp hg hkk
        have h:Bl.Acc w CS w10 v10 (N2+j*32+32) _:=HA8.out.push hp hg
        have e2:N2+j*32+32=N2+(j+1)*32:=by omega
        rw [e2]at h
        obtain⟨p10,c10,rfl⟩:=h.form
        have H10:=Bl.hid h
        clear hp hg hkk h e2
        go_wp2_with fail
        go_roundw
        case rel=>exact⟨j+1,p10,c10,by omega,by go_num,rfl,Bl.hid (by rw [Ht1.out,<-List.append_assoc];exact H10.out)⟩
        case measure=>simp [intOf];omega
       ·obtain rfl:j=m:=by omega
        have hpt:pa.take j=pa:=List.take_of_length_le (by rw [<-Hm.out];exact Nat.le_refl _)
        have HI2:Hid (Bl.Acc w CS wr (.slice p8 (N2+j*32) c8) (N2+j*32) (pre2++pa.flatten)):=Bl.hid (by have h:=HI.out;rw [hpt]at h;exact h)
        have Hfl:Hid (pa.flatten.length=j*32):=Bl.hid (by rw [Hm.out];exact flat_const 32 pa (fun z hz=>(HDg.out z hz).1))
        clear hpt hjt hj
        obtain⟨N3,hN3⟩:∃N3,N3=N2+j*32:=⟨_,rfl⟩
        rw [<-hN3]at HI2⊢
        have HN3:Hid ((pre2++pa.flatten).length=N3):=Bl.hid (by rw [List.length_append,HN2.out,Hfl.out,hN3])
        clear hN3
        go_wp2_with fail
        go_roundw
        case rel=>exact⟨k+1,N3,p8,c8,pre2++pa.flatten,by omega,by go_num,rfl,Bl.hid (by
         rw [Hpre2.out,Hpre.out,Htk.out]
         show _=_++(_++shB (pc,st,pa))
         unfold shB
         simp only [List.append_assoc,Hm.out]),HN3,HI2⟩
        case measure=>simp [intOf];omega
     case hJ0=>exact JL.start (HA5.out.own.kept (fun _ _=>rfl) (Nat.le_refl _)) rfl HA5.out.le
    ·obtain rfl:k=ns:=by omega
     have q0:=HA.out.box.cell HC.out.1
     have h:=HA.out
     have e:pre=4 :: (numL id++numL oj)++[(k:Int)]++sh.flatMap shB:=by
      rw [Hpre.out,List.take_of_length_le (by rw [<-Hsl.out,List.length_map,<-Hns.out];exact Nat.le_refl _)]
     have HRd:Hid (Rd wr .u8 (.slice p N c) pre):=Bl.hid (h.rd HN.out)
     have He:=Bl.hid e
     have HE:=Bl.hid h.ext
     clear h e
     go_wp2_with fail
     go_ret
     refine⟨_,rfl,?_,HE.out⟩
     rw [HV.out,<-He.out]
     exact HRd.out
end Go.Proofs.YtglenbikdahgjaaGreatDoor
