/- Walk of baileeref22.Check. -/
import Derived.Test.YtglenbikdahgjaaGreatDoorPk32
set_option maxRecDepth 100000
set_option maxHeartbeats 16000000
namespace Go.Proofs.YtglenbikdahgjaaGreatDoor
open Go Go.RowKit Go.Proofs Go.Proofs.Bl
theorem rcheck2_any (v:Value) (l:Bl.LT) (w:World) (h:LtV w v l) (hk:l.kind=2):
  Calls Tryz.prog 40 #[v] w fun e w'=>e= .returned (.int .i64 (chkL l:Nat))/\Ext w w':=by
 have HL:=Bl.hid h
 obtain⟨cs0,vp,vs,vb,L,rfl,hc⟩:=h
 obtain rfl:=hc.eq
 have HLa:Hid (∀w2,Ext w w2->numOk l=true->sizOk l=true->Calls Tryz.prog 60 #[.agg (cL l vp vs vb).toArray] w2 fun e w'=>∃v',e= .returned v'/\Rd w' .u8 v' (bytL l)/\Ext w2 w'):=Bl.hid fun w2 h2 hn hz=>rlaid_any _ l w2 (HL.out.ext h2) (by rw [hk];decide) hn hz
 obtain⟨kd,id,oj,pl,sh,fr,ct,bl,cd⟩:=l
 obtain⟨p1,c1,e1,hc1,hm1⟩:=hc.pl.form
 obtain⟨p2,c2,e2,hc2,hm2⟩:=hc.sh.rd.form
 obtain⟨p3,c3,e3,hc3,hm3⟩:=hc.bl.form
 have Hpl:Hid (Rd w .i64 vp pl):=Bl.hid hc.pl
 have Hsh:=Bl.hid hc.sh
 have Hsl:Hid (L.map plS=sh):=Bl.hid hc.sl
 have Hbl:Hid (Rdss w vb bl):=Bl.hid hc.bl
 simp only at e1 e2 e3 hk hc1 hc3
 subst hk
 subst e1 e2 e3
 clear hc HL
 unfold maxLen at hm1 hm2 hm3
 obtain⟨np,hnp⟩:∃np,np=pl.length:=⟨_,rfl⟩
 obtain⟨ns,hns⟩:∃ns,ns=L.length:=⟨_,rfl⟩
 obtain⟨nb,hnb⟩:∃nb,nb=bl.length:=⟨_,rfl⟩
 have Hnp:=Bl.hid hnp
 have Hns:=Bl.hid hns
 have Hnb:=Bl.hid hnb
 have Hnsh:Hid (sh.length=ns):=Bl.hid (by rw [<-Hsl.out,List.length_map,hns])
 rw [<-hnp]at Hpl hc1 HLa⊢
 rw [<-hns]at Hsh hc2 HLa⊢
 rw [<-hnb]at Hbl hc3 HLa⊢
 clear hnp hns hnb
 obtain⟨qI,hqI⟩:∃q,q=wi id 0 1099511627776:=⟨_,rfl⟩
 obtain⟨qO,hqO⟩:∃q,q=wi oj 0 1099511627776:=⟨_,rfl⟩
 have HN:Hid (numOk ⟨2,id,oj,pl,sh,fr,ct,bl,cd⟩=(qI&&qO&&true)):=Bl.hid (by rw [hqI,hqO];unfold numOk numT;rfl)
 have HS:Hid (sizOk ⟨2,id,oj,pl,sh,fr,ct,bl,cd⟩=true):=Bl.hid (by unfold sizOk;rfl)
 have HF:=Bl.hid (frm_iff ⟨2,id,oj,pl,sh,fr,ct,bl,cd⟩)
 have HqI:=Bl.hid hqI
 have HqO:=Bl.hid hqO
 clear hqI hqO
 obtain⟨W0,hW0⟩:∃W0,W0=w.alloc (.cells #[.int .i64 2,.int .i64 id,.int .i64 oj,.slice p1 np c1,.slice p2 ns c2,.int .i64 fr,.int .i64 ct,.slice p3 nb c3,.int .i64 cd] 43):=⟨_,rfl⟩
 have HE0:Hid (Ext w W0):=Bl.hid (by rw [hW0];exact ext_alloc _ _)
 obtain⟨CS,hCS⟩:∃CS,CS=cL ⟨2,id,oj,pl,sh,fr,ct,bl,cd⟩ (.slice p1 np c1) (.slice p2 ns c2) (.slice p3 nb c3):=⟨_,rfl⟩
 rw [<-hCS]at HLa
 have HB:Hid (BoxC W0 w.heap.size CS):=Bl.hid (by rw [hW0,hCS];exact BoxC.box w 43 (cs:=(cL ⟨2,id,oj,pl,sh,fr,ct,bl,cd⟩ (.slice p1 np c1) (.slice p2 ns c2) (.slice p3 nb c3))) (fun h=>by cases h))
 have HC:Hid (CS[0]? =some (.int .i64 2)/\CS[1]? =some (.int .i64 id)/\CS[2]? =some (.int .i64 oj)/\CS[3]? =some (.slice p1 np c1)/\CS[4]? =some (.slice p2 ns c2)/\CS[5]? =some (.int .i64 fr)/\CS[6]? =some (.int .i64 ct)/\CS[7]? =some (.slice p3 nb c3)/\CS[8]? =some (.int .i64 cd)/\CS.length=9):=Bl.hid (by rw [hCS];exact⟨rfl,rfl,rfl,rfl,rfl,rfl,rfl,rfl,rfl,rfl⟩)
 show Calls Tryz.prog 40 #[.agg #[.int .i64 2,.int .i64 id,.int .i64 oj,.slice p1 np c1,.slice p2 ns c2,.int .i64 fr,.int .i64 ct,.slice p3 nb c3,.int .i64 cd]] w _
 clear hCS
 go_enter Tryz.func40,Tryz.ntmps40
 go_wp2_with fail
 rw [<-hW0]
 clear hW0
 refine(out_any _ _ _ _).mono ?_
 rintro e w2 ⟨rfl,hw⟩
 subst hw
 have q0:=HB.out.cell HC.out.1
 have q1:=HB.out.cell HC.out.2.1
 have q2:=HB.out.cell HC.out.2.2.1
 rw [show(!wi 2 1 7)=false from rfl]
 go_wp2_with fail
 refine(out_any _ _ _ _).mono ?_
 rintro e w2 ⟨rfl,hw⟩
 subst hw
 rw [<-HqI.out]
 clear q1
 cases qI
 ·rw [Bool.not_false]
  have HV:=Bl.hid (chk1 (l:=⟨2,id,oj,pl,sh,fr,ct,bl,cd⟩) rfl (by rw [HN.out];rfl))
  go_wp2_with fail
  go_ret
  exact⟨by rw [HV.out];rfl,HE0.out⟩
 ·rw [Bool.not_true]
  go_wp2_with fail
  refine(out_any _ _ _ _).mono ?_
  rintro e w2 ⟨rfl,hw⟩
  subst hw
  rw [<-HqO.out]
  cases qO
  ·rw [Bool.not_false]
   have HV:=Bl.hid (chk1 (l:=⟨2,id,oj,pl,sh,fr,ct,bl,cd⟩) rfl (by rw [HN.out];rfl))
   go_wp2_with fail
   go_ret
   exact⟨by rw [HV.out];rfl,HE0.out⟩
  ·rw [Bool.not_true]
   have q0:=HB.out.cell HC.out.1
   have q1:=HB.out.cell HC.out.2.1
   have q2:=HB.out.cell HC.out.2.2.1
   have q3:=HB.out.cell HC.out.2.2.2.1
   have q4:=HB.out.cell HC.out.2.2.2.2.1
   have q5:=HB.out.cell HC.out.2.2.2.2.2.1
   have q6:=HB.out.cell HC.out.2.2.2.2.2.2.1
   have q7:=HB.out.cell HC.out.2.2.2.2.2.2.2.1
   have q8:=HB.out.cell HC.out.2.2.2.2.2.2.2.2.1
   have Hn:Hid (numOk ⟨2,id,oj,pl,sh,fr,ct,bl,cd⟩=true):=Bl.hid (by rw [HN.out];rfl)
   have Hs:Hid (sizOk ⟨2,id,oj,pl,sh,fr,ct,bl,cd⟩=true):=Bl.hid HS.out
   go_wp2_with (with_reducible refine stop_long ?_)
   refine go_on ?_
   iterate 28 (try (first | go_values | go_skip | go_guarded | go_step | go_upon | go_back | (simp only [Int.not_lt,Int.not_le]at*;go_simp) | (go_values<;>(try go_simp))))
   rw [app35]
   by_cases hgnb:(0:Int) < (nb:Int)
   ·have HV:=Bl.hid (chk4 (l:=⟨2,id,oj,pl,sh,fr,ct,bl,cd⟩) rfl Hn.out Hs.out (fun q=>by obtain⟨a1,a2,a3,a4,a5,a6⟩:=HF.out.1 q;(try dsimp only at a1);(try dsimp only at a2);(try dsimp only at a3);(try dsimp only at a4);(try dsimp only at a5);(try dsimp only at a6);have:=Hnp.out;have:=Hnsh.out;have:=Hnb.out;omega))
    go_wp2_with fail
    go_ret
    exact⟨by rw [HV.out];rfl,HE0.out⟩
   by_cases hgnp:(0:Int) < (np:Int)
   ·have HV:=Bl.hid (chk4 (l:=⟨2,id,oj,pl,sh,fr,ct,bl,cd⟩) rfl Hn.out Hs.out (fun q=>by obtain⟨a1,a2,a3,a4,a5,a6⟩:=HF.out.1 q;(try dsimp only at a1);(try dsimp only at a2);(try dsimp only at a3);(try dsimp only at a4);(try dsimp only at a5);(try dsimp only at a6);have:=Hnp.out;have:=Hnsh.out;have:=Hnb.out;omega))
    go_wp2_with fail
    go_ret
    exact⟨by rw [HV.out];rfl,HE0.out⟩
   by_cases hgns:(0:Int) < (ns:Int)
   ·have HV:=Bl.hid (chk4 (l:=⟨2,id,oj,pl,sh,fr,ct,bl,cd⟩) rfl Hn.out Hs.out (fun q=>by obtain⟨a1,a2,a3,a4,a5,a6⟩:=HF.out.1 q;(try dsimp only at a1);(try dsimp only at a2);(try dsimp only at a3);(try dsimp only at a4);(try dsimp only at a5);(try dsimp only at a6);have:=Hnp.out;have:=Hnsh.out;have:=Hnb.out;omega))
    go_wp2_with fail
    go_ret
    exact⟨by rw [HV.out];rfl,HE0.out⟩
   by_cases hgfr:fr=0
   rotate_left
   ·have hhfr:(fr==0)=false:=by rw [beq_eq_false_iff_ne];exact hgfr
    have HV:=Bl.hid (chk4 (l:=⟨2,id,oj,pl,sh,fr,ct,bl,cd⟩) rfl Hn.out Hs.out (fun q=>by obtain⟨a1,a2,a3,a4,a5,a6⟩:=HF.out.1 q;(try dsimp only at a1);(try dsimp only at a2);(try dsimp only at a3);(try dsimp only at a4);(try dsimp only at a5);(try dsimp only at a6);have:=Hnp.out;have:=Hnsh.out;have:=Hnb.out;omega))
    go_wp2_with fail
    go_ret
    exact⟨by rw [HV.out];rfl,HE0.out⟩
   subst hgfr
   by_cases hgct:ct=0
   rotate_left
   ·have hhct:(ct==0)=false:=by rw [beq_eq_false_iff_ne];exact hgct
    have HV:=Bl.hid (chk4 (l:=⟨2,id,oj,pl,sh,0,ct,bl,cd⟩) rfl Hn.out Hs.out (fun q=>by obtain⟨a1,a2,a3,a4,a5,a6⟩:=HF.out.1 q;(try dsimp only at a1);(try dsimp only at a2);(try dsimp only at a3);(try dsimp only at a4);(try dsimp only at a5);(try dsimp only at a6);have:=Hnp.out;have:=Hnsh.out;have:=Hnb.out;omega))
    go_wp2_with fail
    go_ret
    exact⟨by rw [HV.out];rfl,HE0.out⟩
   subst hgct
   by_cases hgcd:cd=0
   rotate_left
   ·have hhcd:(cd==0)=false:=by rw [beq_eq_false_iff_ne];exact hgcd
    have HV:=Bl.hid (chk4 (l:=⟨2,id,oj,pl,sh,0,0,bl,cd⟩) rfl Hn.out Hs.out (fun q=>by obtain⟨a1,a2,a3,a4,a5,a6⟩:=HF.out.1 q;(try dsimp only at a1);(try dsimp only at a2);(try dsimp only at a3);(try dsimp only at a4);(try dsimp only at a5);(try dsimp only at a6);have:=Hnp.out;have:=Hnsh.out;have:=Hnb.out;omega))
    go_wp2_with fail
    go_ret
    exact⟨by rw [HV.out];rfl,HE0.out⟩
   subst hgcd
   have hf:frmOk ⟨2,id,oj,pl,sh,0,0,bl,0⟩=true:=by
    refine HF.out.2 ⟨?_,?_,?_,?_,?_,?_⟩<;>(first | exact Or.inl rfl | exact Or.inl (Or.inl rfl) | exact Or.inl (Or.inr rfl) | exact Or.inl trivial | exact Or.inl (Or.inl trivial) | exact Or.inl (Or.inr trivial) | ((try dsimp only);have:=Hnp.out;have:=Hnsh.out;have:=Hnb.out;omega))
   have Hf:=Bl.hid hf
   clear hf
   have Hl:=Bl.hid (HB.out.load (P:=Tryz.prog) Tryz.underlying43 rfl (by rw [HC.out.2.2.2.2.2.2.2.2.2];kernel_rfl))
   go_wp2_with (with_reducible refine stop_load (ty:=43) ?_)
   refine go_on ?_
   refine wpL_load rfl Hl.out ?_
   go_wp2_with fail
   refine(HLa.out _ HE0.out Hn.out Hs.out).mono ?_
   rintro e wz ⟨vz,rfl,hrz,hEz⟩
   obtain⟨pz,cz,hfz,_,_⟩:=hrz.form
   subst hfz
   have HEz:=Bl.hid (HE0.out.trans hEz)
   obtain⟨M,hM⟩:∃M,M=(bytL ⟨2,id,oj,pl,sh,0,0,bl,0⟩).length:=⟨_,rfl⟩
   rw [<-hM]
   have HM:=Bl.hid hM
   clear hM hrz hEz Hl
   by_cases h8:8000 < M
   ·have h8i:(8000:Int) < (M:Int):=by omega
    have HV:=Bl.hid (chk3 (l:=⟨2,id,oj,pl,sh,0,0,bl,0⟩) rfl Hn.out Hs.out Hf.out (by rw [<-HM.out];exact h8))
    clear h8
    go_wp2_with fail
    go_ret
    exact⟨by rw [HV.out];rfl,HEz.out⟩
   ·have h8i:¬((8000:Int) < (M:Int)):=by omega
    have HV:=Bl.hid (chk0 (l:=⟨2,id,oj,pl,sh,0,0,bl,0⟩) rfl Hn.out Hs.out Hf.out (by rw [<-HM.out];exact h8))
    clear h8
    go_wp2_with fail
    go_ret
    exact⟨by rw [HV.out];rfl,HEz.out⟩
theorem rcheck5_any (v:Value) (l:Bl.LT) (w:World) (h:LtV w v l) (hk:l.kind=5):
  Calls Tryz.prog 40 #[v] w fun e w'=>e= .returned (.int .i64 (chkL l:Nat))/\Ext w w':=by
 have HL:=Bl.hid h
 obtain⟨cs0,vp,vs,vb,L,rfl,hc⟩:=h
 obtain rfl:=hc.eq
 have HLa:Hid (∀w2,Ext w w2->numOk l=true->sizOk l=true->Calls Tryz.prog 60 #[.agg (cL l vp vs vb).toArray] w2 fun e w'=>∃v',e= .returned v'/\Rd w' .u8 v' (bytL l)/\Ext w2 w'):=Bl.hid fun w2 h2 hn hz=>rlaid_any _ l w2 (HL.out.ext h2) (by rw [hk];decide) hn hz
 obtain⟨kd,id,oj,pl,sh,fr,ct,bl,cd⟩:=l
 obtain⟨p1,c1,e1,hc1,hm1⟩:=hc.pl.form
 obtain⟨p2,c2,e2,hc2,hm2⟩:=hc.sh.rd.form
 obtain⟨p3,c3,e3,hc3,hm3⟩:=hc.bl.form
 have Hpl:Hid (Rd w .i64 vp pl):=Bl.hid hc.pl
 have Hsh:=Bl.hid hc.sh
 have Hsl:Hid (L.map plS=sh):=Bl.hid hc.sl
 have Hbl:Hid (Rdss w vb bl):=Bl.hid hc.bl
 simp only at e1 e2 e3 hk hc1 hc3
 subst hk
 subst e1 e2 e3
 clear hc HL
 unfold maxLen at hm1 hm2 hm3
 obtain⟨np,hnp⟩:∃np,np=pl.length:=⟨_,rfl⟩
 obtain⟨ns,hns⟩:∃ns,ns=L.length:=⟨_,rfl⟩
 obtain⟨nb,hnb⟩:∃nb,nb=bl.length:=⟨_,rfl⟩
 have Hnp:=Bl.hid hnp
 have Hns:=Bl.hid hns
 have Hnb:=Bl.hid hnb
 have Hnsh:Hid (sh.length=ns):=Bl.hid (by rw [<-Hsl.out,List.length_map,hns])
 rw [<-hnp]at Hpl hc1 HLa⊢
 rw [<-hns]at Hsh hc2 HLa⊢
 rw [<-hnb]at Hbl hc3 HLa⊢
 clear hnp hns hnb
 obtain⟨qI,hqI⟩:∃q,q=wi id 0 1099511627776:=⟨_,rfl⟩
 obtain⟨qO,hqO⟩:∃q,q=wi oj 0 1099511627776:=⟨_,rfl⟩
 have HN:Hid (numOk ⟨5,id,oj,pl,sh,fr,ct,bl,cd⟩=(qI&&qO&&(wi ct 1 512&&wi fr 0 511))):=Bl.hid (by rw [hqI,hqO];unfold numOk numT;rfl)
 have HS:Hid (sizOk ⟨5,id,oj,pl,sh,fr,ct,bl,cd⟩=true):=Bl.hid (by unfold sizOk;rfl)
 have HF:=Bl.hid (frm_iff ⟨5,id,oj,pl,sh,fr,ct,bl,cd⟩)
 have HqI:=Bl.hid hqI
 have HqO:=Bl.hid hqO
 clear hqI hqO
 obtain⟨W0,hW0⟩:∃W0,W0=w.alloc (.cells #[.int .i64 5,.int .i64 id,.int .i64 oj,.slice p1 np c1,.slice p2 ns c2,.int .i64 fr,.int .i64 ct,.slice p3 nb c3,.int .i64 cd] 43):=⟨_,rfl⟩
 have HE0:Hid (Ext w W0):=Bl.hid (by rw [hW0];exact ext_alloc _ _)
 obtain⟨CS,hCS⟩:∃CS,CS=cL ⟨5,id,oj,pl,sh,fr,ct,bl,cd⟩ (.slice p1 np c1) (.slice p2 ns c2) (.slice p3 nb c3):=⟨_,rfl⟩
 rw [<-hCS]at HLa
 have HB:Hid (BoxC W0 w.heap.size CS):=Bl.hid (by rw [hW0,hCS];exact BoxC.box w 43 (cs:=(cL ⟨5,id,oj,pl,sh,fr,ct,bl,cd⟩ (.slice p1 np c1) (.slice p2 ns c2) (.slice p3 nb c3))) (fun h=>by cases h))
 have HC:Hid (CS[0]? =some (.int .i64 5)/\CS[1]? =some (.int .i64 id)/\CS[2]? =some (.int .i64 oj)/\CS[3]? =some (.slice p1 np c1)/\CS[4]? =some (.slice p2 ns c2)/\CS[5]? =some (.int .i64 fr)/\CS[6]? =some (.int .i64 ct)/\CS[7]? =some (.slice p3 nb c3)/\CS[8]? =some (.int .i64 cd)/\CS.length=9):=Bl.hid (by rw [hCS];exact⟨rfl,rfl,rfl,rfl,rfl,rfl,rfl,rfl,rfl,rfl⟩)
 show Calls Tryz.prog 40 #[.agg #[.int .i64 5,.int .i64 id,.int .i64 oj,.slice p1 np c1,.slice p2 ns c2,.int .i64 fr,.int .i64 ct,.slice p3 nb c3,.int .i64 cd]] w _
 clear hCS
 go_enter Tryz.func40,Tryz.ntmps40
 go_wp2_with fail
 rw [<-hW0]
 clear hW0
 refine(out_any _ _ _ _).mono ?_
 rintro e w2 ⟨rfl,hw⟩
 subst hw
 have q0:=HB.out.cell HC.out.1
 have q1:=HB.out.cell HC.out.2.1
 have q2:=HB.out.cell HC.out.2.2.1
 rw [show(!wi 5 1 7)=false from rfl]
 go_wp2_with fail
 refine(out_any _ _ _ _).mono ?_
 rintro e w2 ⟨rfl,hw⟩
 subst hw
 rw [<-HqI.out]
 clear q1
 cases qI
 ·rw [Bool.not_false]
  have HV:=Bl.hid (chk1 (l:=⟨5,id,oj,pl,sh,fr,ct,bl,cd⟩) rfl (by rw [HN.out];rfl))
  go_wp2_with fail
  go_ret
  exact⟨by rw [HV.out];rfl,HE0.out⟩
 ·rw [Bool.not_true]
  go_wp2_with fail
  refine(out_any _ _ _ _).mono ?_
  rintro e w2 ⟨rfl,hw⟩
  subst hw
  rw [<-HqO.out]
  cases qO
  ·rw [Bool.not_false]
   have HV:=Bl.hid (chk1 (l:=⟨5,id,oj,pl,sh,fr,ct,bl,cd⟩) rfl (by rw [HN.out];rfl))
   go_wp2_with fail
   go_ret
   exact⟨by rw [HV.out];rfl,HE0.out⟩
  ·rw [Bool.not_true]
   have q0:=HB.out.cell HC.out.1
   have q1:=HB.out.cell HC.out.2.1
   have q2:=HB.out.cell HC.out.2.2.1
   have q3:=HB.out.cell HC.out.2.2.2.1
   have q4:=HB.out.cell HC.out.2.2.2.2.1
   have q5:=HB.out.cell HC.out.2.2.2.2.2.1
   have q6:=HB.out.cell HC.out.2.2.2.2.2.2.1
   have q7:=HB.out.cell HC.out.2.2.2.2.2.2.2.1
   have q8:=HB.out.cell HC.out.2.2.2.2.2.2.2.2.1
   obtain⟨qC,hqC⟩:∃q,q=wi ct 1 512:=⟨_,rfl⟩
   have HqC:=Bl.hid hqC
   clear hqC
   rw [<-HqC.out]at HN
   go_wp2_with fail
   refine(out_any _ _ _ _).mono ?_
   rintro e w2 ⟨rfl,hw⟩
   subst hw
   rw [<-HqC.out]
   cases qC
   ·rw [Bool.not_false]
    have HV:=Bl.hid (chk1 (l:=⟨5,id,oj,pl,sh,fr,ct,bl,cd⟩) rfl (by rw [HN.out];rfl))
    go_wp2_with fail
    go_ret
    exact⟨by rw [HV.out];rfl,HE0.out⟩
   rw [Bool.not_true]
   obtain⟨qF,hqF⟩:∃q,q=wi fr 0 511:=⟨_,rfl⟩
   have HqF:=Bl.hid hqF
   clear hqF
   rw [<-HqF.out]at HN
   go_wp2_with fail
   refine(out_any _ _ _ _).mono ?_
   rintro e w2 ⟨rfl,hw⟩
   subst hw
   rw [<-HqF.out]
   cases qF
   ·rw [Bool.not_false]
    have HV:=Bl.hid (chk1 (l:=⟨5,id,oj,pl,sh,fr,ct,bl,cd⟩) rfl (by rw [HN.out];rfl))
    go_wp2_with fail
    go_ret
    exact⟨by rw [HV.out];rfl,HE0.out⟩
   rw [Bool.not_true]
   have Hn:Hid (numOk ⟨5,id,oj,pl,sh,fr,ct,bl,cd⟩=true):=Bl.hid (by rw [HN.out];rfl)
   have Hs:Hid (sizOk ⟨5,id,oj,pl,sh,fr,ct,bl,cd⟩=true):=Bl.hid HS.out
   go_wp2_with (with_reducible refine stop_long ?_)
   refine go_on ?_
   iterate 28 (try (first | go_values | go_skip | go_guarded | go_step | go_upon | go_back | (simp only [Int.not_lt,Int.not_le]at*;go_simp) | (go_values<;>(try go_simp))))
   rw [app35]
   by_cases hgnb:(0:Int) < (nb:Int)
   ·have HV:=Bl.hid (chk4 (l:=⟨5,id,oj,pl,sh,fr,ct,bl,cd⟩) rfl Hn.out Hs.out (fun q=>by obtain⟨a1,a2,a3,a4,a5,a6⟩:=HF.out.1 q;(try dsimp only at a1);(try dsimp only at a2);(try dsimp only at a3);(try dsimp only at a4);(try dsimp only at a5);(try dsimp only at a6);have:=Hnp.out;have:=Hnsh.out;have:=Hnb.out;omega))
    go_wp2_with fail
    go_ret
    exact⟨by rw [HV.out];rfl,HE0.out⟩
   by_cases hgnp:(0:Int) < (np:Int)
   ·have HV:=Bl.hid (chk4 (l:=⟨5,id,oj,pl,sh,fr,ct,bl,cd⟩) rfl Hn.out Hs.out (fun q=>by obtain⟨a1,a2,a3,a4,a5,a6⟩:=HF.out.1 q;(try dsimp only at a1);(try dsimp only at a2);(try dsimp only at a3);(try dsimp only at a4);(try dsimp only at a5);(try dsimp only at a6);have:=Hnp.out;have:=Hnsh.out;have:=Hnb.out;omega))
    go_wp2_with fail
    go_ret
    exact⟨by rw [HV.out];rfl,HE0.out⟩
   by_cases hgns:(0:Int) < (ns:Int)
   ·have HV:=Bl.hid (chk4 (l:=⟨5,id,oj,pl,sh,fr,ct,bl,cd⟩) rfl Hn.out Hs.out (fun q=>by obtain⟨a1,a2,a3,a4,a5,a6⟩:=HF.out.1 q;(try dsimp only at a1);(try dsimp only at a2);(try dsimp only at a3);(try dsimp only at a4);(try dsimp only at a5);(try dsimp only at a6);have:=Hnp.out;have:=Hnsh.out;have:=Hnb.out;omega))
    go_wp2_with fail
    go_ret
    exact⟨by rw [HV.out];rfl,HE0.out⟩
   by_cases hgcd:cd=0
   rotate_left
   ·have hhcd:(cd==0)=false:=by rw [beq_eq_false_iff_ne];exact hgcd
    have HV:=Bl.hid (chk4 (l:=⟨5,id,oj,pl,sh,fr,ct,bl,cd⟩) rfl Hn.out Hs.out (fun q=>by obtain⟨a1,a2,a3,a4,a5,a6⟩:=HF.out.1 q;(try dsimp only at a1);(try dsimp only at a2);(try dsimp only at a3);(try dsimp only at a4);(try dsimp only at a5);(try dsimp only at a6);have:=Hnp.out;have:=Hnsh.out;have:=Hnb.out;omega))
    go_wp2_with fail
    go_ret
    exact⟨by rw [HV.out];rfl,HE0.out⟩
   subst hgcd
   have hf:frmOk ⟨5,id,oj,pl,sh,fr,ct,bl,0⟩=true:=by
    refine HF.out.2 ⟨?_,?_,?_,?_,?_,?_⟩<;>(first | exact Or.inl rfl | exact Or.inl (Or.inl rfl) | exact Or.inl (Or.inr rfl) | exact Or.inl trivial | exact Or.inl (Or.inl trivial) | exact Or.inl (Or.inr trivial) | ((try dsimp only);have:=Hnp.out;have:=Hnsh.out;have:=Hnb.out;omega))
   have Hf:=Bl.hid hf
   clear hf
   have Hl:=Bl.hid (HB.out.load (P:=Tryz.prog) Tryz.underlying43 rfl (by rw [HC.out.2.2.2.2.2.2.2.2.2];kernel_rfl))
   go_wp2_with (with_reducible refine stop_load (ty:=43) ?_)
   refine go_on ?_
   refine wpL_load rfl Hl.out ?_
   go_wp2_with fail
   refine(HLa.out _ HE0.out Hn.out Hs.out).mono ?_
   rintro e wz ⟨vz,rfl,hrz,hEz⟩
   obtain⟨pz,cz,hfz,_,_⟩:=hrz.form
   subst hfz
   have HEz:=Bl.hid (HE0.out.trans hEz)
   obtain⟨M,hM⟩:∃M,M=(bytL ⟨5,id,oj,pl,sh,fr,ct,bl,0⟩).length:=⟨_,rfl⟩
   rw [<-hM]
   have HM:=Bl.hid hM
   clear hM hrz hEz Hl
   by_cases h8:8000 < M
   ·have h8i:(8000:Int) < (M:Int):=by omega
    have HV:=Bl.hid (chk3 (l:=⟨5,id,oj,pl,sh,fr,ct,bl,0⟩) rfl Hn.out Hs.out Hf.out (by rw [<-HM.out];exact h8))
    clear h8
    go_wp2_with fail
    go_ret
    exact⟨by rw [HV.out];rfl,HEz.out⟩
   ·have h8i:¬((8000:Int) < (M:Int)):=by omega
    have HV:=Bl.hid (chk0 (l:=⟨5,id,oj,pl,sh,fr,ct,bl,0⟩) rfl Hn.out Hs.out Hf.out (by rw [<-HM.out];exact h8))
    clear h8
    go_wp2_with fail
    go_ret
    exact⟨by rw [HV.out];rfl,HEz.out⟩
theorem rcheck7_any (v:Value) (l:Bl.LT) (w:World) (h:LtV w v l) (hk:l.kind=7):
  Calls Tryz.prog 40 #[v] w fun e w'=>e= .returned (.int .i64 (chkL l:Nat))/\Ext w w':=by
 have HL:=Bl.hid h
 obtain⟨cs0,vp,vs,vb,L,rfl,hc⟩:=h
 obtain rfl:=hc.eq
 have HLa:Hid (∀w2,Ext w w2->numOk l=true->sizOk l=true->Calls Tryz.prog 60 #[.agg (cL l vp vs vb).toArray] w2 fun e w'=>∃v',e= .returned v'/\Rd w' .u8 v' (bytL l)/\Ext w2 w'):=Bl.hid fun w2 h2 hn hz=>rlaid_any _ l w2 (HL.out.ext h2) (by rw [hk];decide) hn hz
 obtain⟨kd,id,oj,pl,sh,fr,ct,bl,cd⟩:=l
 obtain⟨p1,c1,e1,hc1,hm1⟩:=hc.pl.form
 obtain⟨p2,c2,e2,hc2,hm2⟩:=hc.sh.rd.form
 obtain⟨p3,c3,e3,hc3,hm3⟩:=hc.bl.form
 have Hpl:Hid (Rd w .i64 vp pl):=Bl.hid hc.pl
 have Hsh:=Bl.hid hc.sh
 have Hsl:Hid (L.map plS=sh):=Bl.hid hc.sl
 have Hbl:Hid (Rdss w vb bl):=Bl.hid hc.bl
 simp only at e1 e2 e3 hk hc1 hc3
 subst hk
 subst e1 e2 e3
 clear hc HL
 unfold maxLen at hm1 hm2 hm3
 obtain⟨np,hnp⟩:∃np,np=pl.length:=⟨_,rfl⟩
 obtain⟨ns,hns⟩:∃ns,ns=L.length:=⟨_,rfl⟩
 obtain⟨nb,hnb⟩:∃nb,nb=bl.length:=⟨_,rfl⟩
 have Hnp:=Bl.hid hnp
 have Hns:=Bl.hid hns
 have Hnb:=Bl.hid hnb
 have Hnsh:Hid (sh.length=ns):=Bl.hid (by rw [<-Hsl.out,List.length_map,hns])
 rw [<-hnp]at Hpl hc1 HLa⊢
 rw [<-hns]at Hsh hc2 HLa⊢
 rw [<-hnb]at Hbl hc3 HLa⊢
 clear hnp hns hnb
 obtain⟨qI,hqI⟩:∃q,q=wi id 0 1099511627776:=⟨_,rfl⟩
 obtain⟨qO,hqO⟩:∃q,q=wi oj 0 1099511627776:=⟨_,rfl⟩
 have HN:Hid (numOk ⟨7,id,oj,pl,sh,fr,ct,bl,cd⟩=(qI&&qO&&wi cd 1 255)):=Bl.hid (by rw [hqI,hqO];unfold numOk numT;rfl)
 have HS:Hid (sizOk ⟨7,id,oj,pl,sh,fr,ct,bl,cd⟩=true):=Bl.hid (by unfold sizOk;rfl)
 have HF:=Bl.hid (frm_iff ⟨7,id,oj,pl,sh,fr,ct,bl,cd⟩)
 have HqI:=Bl.hid hqI
 have HqO:=Bl.hid hqO
 clear hqI hqO
 obtain⟨W0,hW0⟩:∃W0,W0=w.alloc (.cells #[.int .i64 7,.int .i64 id,.int .i64 oj,.slice p1 np c1,.slice p2 ns c2,.int .i64 fr,.int .i64 ct,.slice p3 nb c3,.int .i64 cd] 43):=⟨_,rfl⟩
 have HE0:Hid (Ext w W0):=Bl.hid (by rw [hW0];exact ext_alloc _ _)
 obtain⟨CS,hCS⟩:∃CS,CS=cL ⟨7,id,oj,pl,sh,fr,ct,bl,cd⟩ (.slice p1 np c1) (.slice p2 ns c2) (.slice p3 nb c3):=⟨_,rfl⟩
 rw [<-hCS]at HLa
 have HB:Hid (BoxC W0 w.heap.size CS):=Bl.hid (by rw [hW0,hCS];exact BoxC.box w 43 (cs:=(cL ⟨7,id,oj,pl,sh,fr,ct,bl,cd⟩ (.slice p1 np c1) (.slice p2 ns c2) (.slice p3 nb c3))) (fun h=>by cases h))
 have HC:Hid (CS[0]? =some (.int .i64 7)/\CS[1]? =some (.int .i64 id)/\CS[2]? =some (.int .i64 oj)/\CS[3]? =some (.slice p1 np c1)/\CS[4]? =some (.slice p2 ns c2)/\CS[5]? =some (.int .i64 fr)/\CS[6]? =some (.int .i64 ct)/\CS[7]? =some (.slice p3 nb c3)/\CS[8]? =some (.int .i64 cd)/\CS.length=9):=Bl.hid (by rw [hCS];exact⟨rfl,rfl,rfl,rfl,rfl,rfl,rfl,rfl,rfl,rfl⟩)
 show Calls Tryz.prog 40 #[.agg #[.int .i64 7,.int .i64 id,.int .i64 oj,.slice p1 np c1,.slice p2 ns c2,.int .i64 fr,.int .i64 ct,.slice p3 nb c3,.int .i64 cd]] w _
 clear hCS
 go_enter Tryz.func40,Tryz.ntmps40
 go_wp2_with fail
 rw [<-hW0]
 clear hW0
 refine(out_any _ _ _ _).mono ?_
 rintro e w2 ⟨rfl,hw⟩
 subst hw
 have q0:=HB.out.cell HC.out.1
 have q1:=HB.out.cell HC.out.2.1
 have q2:=HB.out.cell HC.out.2.2.1
 rw [show(!wi 7 1 7)=false from rfl]
 go_wp2_with fail
 refine(out_any _ _ _ _).mono ?_
 rintro e w2 ⟨rfl,hw⟩
 subst hw
 rw [<-HqI.out]
 clear q1
 cases qI
 ·rw [Bool.not_false]
  have HV:=Bl.hid (chk1 (l:=⟨7,id,oj,pl,sh,fr,ct,bl,cd⟩) rfl (by rw [HN.out];rfl))
  go_wp2_with fail
  go_ret
  exact⟨by rw [HV.out];rfl,HE0.out⟩
 ·rw [Bool.not_true]
  go_wp2_with fail
  refine(out_any _ _ _ _).mono ?_
  rintro e w2 ⟨rfl,hw⟩
  subst hw
  rw [<-HqO.out]
  cases qO
  ·rw [Bool.not_false]
   have HV:=Bl.hid (chk1 (l:=⟨7,id,oj,pl,sh,fr,ct,bl,cd⟩) rfl (by rw [HN.out];rfl))
   go_wp2_with fail
   go_ret
   exact⟨by rw [HV.out];rfl,HE0.out⟩
  ·rw [Bool.not_true]
   have q0:=HB.out.cell HC.out.1
   have q1:=HB.out.cell HC.out.2.1
   have q2:=HB.out.cell HC.out.2.2.1
   have q3:=HB.out.cell HC.out.2.2.2.1
   have q4:=HB.out.cell HC.out.2.2.2.2.1
   have q5:=HB.out.cell HC.out.2.2.2.2.2.1
   have q6:=HB.out.cell HC.out.2.2.2.2.2.2.1
   have q7:=HB.out.cell HC.out.2.2.2.2.2.2.2.1
   have q8:=HB.out.cell HC.out.2.2.2.2.2.2.2.2.1
   obtain⟨qC,hqC⟩:∃q,q=wi cd 1 255:=⟨_,rfl⟩
   have HqC:=Bl.hid hqC
   clear hqC
   rw [<-HqC.out]at HN
   go_wp2_with fail
   refine(out_any _ _ _ _).mono ?_
   rintro e w2 ⟨rfl,hw⟩
   subst hw
   rw [<-HqC.out]
   cases qC
   ·rw [Bool.not_false]
    have HV:=Bl.hid (chk1 (l:=⟨7,id,oj,pl,sh,fr,ct,bl,cd⟩) rfl (by rw [HN.out];rfl))
    go_wp2_with fail
    go_ret
    exact⟨by rw [HV.out];rfl,HE0.out⟩
   rw [Bool.not_true]
   have Hn:Hid (numOk ⟨7,id,oj,pl,sh,fr,ct,bl,cd⟩=true):=Bl.hid (by rw [HN.out];rfl)
   have Hs:Hid (sizOk ⟨7,id,oj,pl,sh,fr,ct,bl,cd⟩=true):=Bl.hid HS.out
   go_wp2_with (with_reducible refine stop_long ?_)
   refine go_on ?_
   iterate 28 (try (first | go_values | go_skip | go_guarded | go_step | go_upon | go_back | (simp only [Int.not_lt,Int.not_le]at*;go_simp) | (go_values<;>(try go_simp))))
   rw [app35]
   by_cases hgnb:(0:Int) < (nb:Int)
   ·have HV:=Bl.hid (chk4 (l:=⟨7,id,oj,pl,sh,fr,ct,bl,cd⟩) rfl Hn.out Hs.out (fun q=>by obtain⟨a1,a2,a3,a4,a5,a6⟩:=HF.out.1 q;(try dsimp only at a1);(try dsimp only at a2);(try dsimp only at a3);(try dsimp only at a4);(try dsimp only at a5);(try dsimp only at a6);have:=Hnp.out;have:=Hnsh.out;have:=Hnb.out;omega))
    go_wp2_with fail
    go_ret
    exact⟨by rw [HV.out];rfl,HE0.out⟩
   by_cases hgnp:(0:Int) < (np:Int)
   ·have HV:=Bl.hid (chk4 (l:=⟨7,id,oj,pl,sh,fr,ct,bl,cd⟩) rfl Hn.out Hs.out (fun q=>by obtain⟨a1,a2,a3,a4,a5,a6⟩:=HF.out.1 q;(try dsimp only at a1);(try dsimp only at a2);(try dsimp only at a3);(try dsimp only at a4);(try dsimp only at a5);(try dsimp only at a6);have:=Hnp.out;have:=Hnsh.out;have:=Hnb.out;omega))
    go_wp2_with fail
    go_ret
    exact⟨by rw [HV.out];rfl,HE0.out⟩
   by_cases hgns:(0:Int) < (ns:Int)
   ·have HV:=Bl.hid (chk4 (l:=⟨7,id,oj,pl,sh,fr,ct,bl,cd⟩) rfl Hn.out Hs.out (fun q=>by obtain⟨a1,a2,a3,a4,a5,a6⟩:=HF.out.1 q;(try dsimp only at a1);(try dsimp only at a2);(try dsimp only at a3);(try dsimp only at a4);(try dsimp only at a5);(try dsimp only at a6);have:=Hnp.out;have:=Hnsh.out;have:=Hnb.out;omega))
    go_wp2_with fail
    go_ret
    exact⟨by rw [HV.out];rfl,HE0.out⟩
   by_cases hgfr:fr=0
   rotate_left
   ·have hhfr:(fr==0)=false:=by rw [beq_eq_false_iff_ne];exact hgfr
    have HV:=Bl.hid (chk4 (l:=⟨7,id,oj,pl,sh,fr,ct,bl,cd⟩) rfl Hn.out Hs.out (fun q=>by obtain⟨a1,a2,a3,a4,a5,a6⟩:=HF.out.1 q;(try dsimp only at a1);(try dsimp only at a2);(try dsimp only at a3);(try dsimp only at a4);(try dsimp only at a5);(try dsimp only at a6);have:=Hnp.out;have:=Hnsh.out;have:=Hnb.out;omega))
    go_wp2_with fail
    go_ret
    exact⟨by rw [HV.out];rfl,HE0.out⟩
   subst hgfr
   by_cases hgct:ct=0
   rotate_left
   ·have hhct:(ct==0)=false:=by rw [beq_eq_false_iff_ne];exact hgct
    have HV:=Bl.hid (chk4 (l:=⟨7,id,oj,pl,sh,0,ct,bl,cd⟩) rfl Hn.out Hs.out (fun q=>by obtain⟨a1,a2,a3,a4,a5,a6⟩:=HF.out.1 q;(try dsimp only at a1);(try dsimp only at a2);(try dsimp only at a3);(try dsimp only at a4);(try dsimp only at a5);(try dsimp only at a6);have:=Hnp.out;have:=Hnsh.out;have:=Hnb.out;omega))
    go_wp2_with fail
    go_ret
    exact⟨by rw [HV.out];rfl,HE0.out⟩
   subst hgct
   have hf:frmOk ⟨7,id,oj,pl,sh,0,0,bl,cd⟩=true:=by
    refine HF.out.2 ⟨?_,?_,?_,?_,?_,?_⟩<;>(first | exact Or.inl rfl | exact Or.inl (Or.inl rfl) | exact Or.inl (Or.inr rfl) | exact Or.inl trivial | exact Or.inl (Or.inl trivial) | exact Or.inl (Or.inr trivial) | ((try dsimp only);have:=Hnp.out;have:=Hnsh.out;have:=Hnb.out;omega))
   have Hf:=Bl.hid hf
   clear hf
   have Hl:=Bl.hid (HB.out.load (P:=Tryz.prog) Tryz.underlying43 rfl (by rw [HC.out.2.2.2.2.2.2.2.2.2];kernel_rfl))
   go_wp2_with (with_reducible refine stop_load (ty:=43) ?_)
   refine go_on ?_
   refine wpL_load rfl Hl.out ?_
   go_wp2_with fail
   refine(HLa.out _ HE0.out Hn.out Hs.out).mono ?_
   rintro e wz ⟨vz,rfl,hrz,hEz⟩
   obtain⟨pz,cz,hfz,_,_⟩:=hrz.form
   subst hfz
   have HEz:=Bl.hid (HE0.out.trans hEz)
   obtain⟨M,hM⟩:∃M,M=(bytL ⟨7,id,oj,pl,sh,0,0,bl,cd⟩).length:=⟨_,rfl⟩
   rw [<-hM]
   have HM:=Bl.hid hM
   clear hM hrz hEz Hl
   by_cases h8:8000 < M
   ·have h8i:(8000:Int) < (M:Int):=by omega
    have HV:=Bl.hid (chk3 (l:=⟨7,id,oj,pl,sh,0,0,bl,cd⟩) rfl Hn.out Hs.out Hf.out (by rw [<-HM.out];exact h8))
    clear h8
    go_wp2_with fail
    go_ret
    exact⟨by rw [HV.out];rfl,HEz.out⟩
   ·have h8i:¬((8000:Int) < (M:Int)):=by omega
    have HV:=Bl.hid (chk0 (l:=⟨7,id,oj,pl,sh,0,0,bl,cd⟩) rfl Hn.out Hs.out Hf.out (by rw [<-HM.out];exact h8))
    clear h8
    go_wp2_with fail
    go_ret
    exact⟨by rw [HV.out];rfl,HEz.out⟩
end Go.Proofs.YtglenbikdahgjaaGreatDoor
