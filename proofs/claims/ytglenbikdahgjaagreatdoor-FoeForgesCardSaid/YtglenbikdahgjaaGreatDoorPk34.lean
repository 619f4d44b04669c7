/- Walk of baileeref22.Check. -/
import Derived.Test.YtglenbikdahgjaaGreatDoorPk32
set_option maxRecDepth 100000
set_option maxHeartbeats 16000000
namespace Go.Proofs.YtglenbikdahgjaaGreatDoor
open Go Go.RowKit Go.Proofs Go.Proofs.Bl
theorem rcheck3_any (v:Value) (l:Bl.LT) (w:World) (h:LtV w v l) (hk:l.kind=3):
  Calls Tryz.prog 40 #[v] w fun e w'=>e= .returned (.int .i64 (chkL l:Nat))/\Ext w w':=by
 have HL:=Bl.hid h
 obtain⟨cs0,vp,vs,vb,L,rfl,hc⟩:=h
 obtain rfl:=hc.eq
 have HLa:Hid (∀w2,Ext w w2->numOk l=true->sizOk l=true->Calls Tryz.prog 60 #[.agg (cL l vp vs vb).toArray] w2 fun e w'=>∃v',e= .returned v'/\Rd w' .u8 v' (bytL l)/\Ext w2 w'):=Bl.hid fun w2 h2 hn hz=>rlaid_any _ l w2 (HL.out.ext h2) (by rw [hk];decide) hn hz
 obtain⟨kd,id,oj,pl,sh,fr,ct,bl,cd⟩:=l
 obtain⟨p1,c1,e1,hc1,hm1⟩:=hc.pl.form
 obtain⟨p2,c2,e2,hc2,hm2⟩:=hc.sh.rd.form
 obtain⟨p3,c3,e3,hc3,hm3⟩:=hc.bl.form
 have Hpl:Hid (Rd w .i64 vp pl):=Bl.hid hc.pl
 have Hsh:=Bl.hid hc.sh
 have Hsl:Hid (L.map plS=sh):=Bl.hid hc.sl
 have Hbl:Hid (Rdss w vb bl):=Bl.hid hc.bl
 simp only at e1 e2 e3 hk hc1 hc3
 subst hk
 subst e1 e2 e3
 clear hc HL
 unfold maxLen at hm1 hm2 hm3
 obtain⟨np,hnp⟩:∃np,np=pl.length:=⟨_,rfl⟩
 obtain⟨ns,hns⟩:∃ns,ns=L.length:=⟨_,rfl⟩
 obtain⟨nb,hnb⟩:∃nb,nb=bl.length:=⟨_,rfl⟩
 have Hnp:=Bl.hid hnp
 have Hns:=Bl.hid hns
 have Hnb:=Bl.hid hnb
 have Hnsh:Hid (sh.length=ns):=Bl.hid (by rw [<-Hsl.out,List.length_map,hns])
 rw [<-hnp]at Hpl hc1 HLa⊢
 rw [<-hns]at Hsh hc2 HLa⊢
 rw [<-hnb]at Hbl hc3 HLa⊢
 clear hnp hns hnb
 obtain⟨qI,hqI⟩:∃q,q=wi id 0 1099511627776:=⟨_,rfl⟩
 obtain⟨qO,hqO⟩:∃q,q=wi oj 0 1099511627776:=⟨_,rfl⟩
 have HN:Hid (numOk ⟨3,id,oj,pl,sh,fr,ct,bl,cd⟩=(qI&&qO&& !pl.any badP)):=Bl.hid (by rw [hqI,hqO];unfold numOk numT;rfl)
 have HS:Hid (sizOk ⟨3,id,oj,pl,sh,fr,ct,bl,cd⟩=wi pl.length 1 12):=Bl.hid (by unfold sizOk;rfl)
 have HF:=Bl.hid (frm_iff ⟨3,id,oj,pl,sh,fr,ct,bl,cd⟩)
 have HqI:=Bl.hid hqI
 have HqO:=Bl.hid hqO
 clear hqI hqO
 obtain⟨W0,hW0⟩:∃W0,W0=w.alloc (.cells #[.int .i64 3,.int .i64 id,.int .i64 oj,.slice p1 np c1,.slice p2 ns c2,.int .i64 fr,.int .i64 ct,.slice p3 nb c3,.int .i64 cd] 43):=⟨_,rfl⟩
 have HE0:Hid (Ext w W0):=Bl.hid (by rw [hW0];exact ext_alloc _ _)
 obtain⟨CS,hCS⟩:∃CS,CS=cL ⟨3,id,oj,pl,sh,fr,ct,bl,cd⟩ (.slice p1 np c1) (.slice p2 ns c2) (.slice p3 nb c3):=⟨_,rfl⟩
 rw [<-hCS]at HLa
 have HB:Hid (BoxC W0 w.heap.size CS):=Bl.hid (by rw [hW0,hCS];exact BoxC.box w 43 (cs:=(cL ⟨3,id,oj,pl,sh,fr,ct,bl,cd⟩ (.slice p1 np c1) (.slice p2 ns c2) (.slice p3 nb c3))) (fun h=>by cases h))
 have HC:Hid (CS[0]? =some (.int .i64 3)/\CS[1]? =some (.int .i64 id)/\CS[2]? =some (.int .i64 oj)/\CS[3]? =some (.slice p1 np c1)/\CS[4]? =some (.slice p2 ns c2)/\CS[5]? =some (.int .i64 fr)/\CS[6]? =some (.int .i64 ct)/\CS[7]? =some (.slice p3 nb c3)/\CS[8]? =some (.int .i64 cd)/\CS.length=9):=Bl.hid (by rw [hCS];exact⟨rfl,rfl,rfl,rfl,rfl,rfl,rfl,rfl,rfl,rfl⟩)
 show Calls Tryz.prog 40 #[.agg #[.int .i64 3,.int .i64 id,.int .i64 oj,.slice p1 np c1,.slice p2 ns c2,.int .i64 fr,.int .i64 ct,.slice p3 nb c3,.int .i64 cd]] w _
 clear hCS
 go_enter Tryz.func40,Tryz.ntmps40
 go_wp2_with fail
 rw [<-hW0]
 clear hW0
 refine(out_any _ _ _ _).mono ?_
 rintro e w2 ⟨rfl,hw⟩
 subst hw
 have q0:=HB.out.cell HC.out.1
 have q1:=HB.out.cell HC.out.2.1
 have q2:=HB.out.cell HC.out.2.2.1
 rw [show(!wi 3 1 7)=false from rfl]
 go_wp2_with fail
 refine(out_any _ _ _ _).mono ?_
 rintro e w2 ⟨rfl,hw⟩
 subst hw
 rw [<-HqI.out]
 clear q1
 cases qI
 ·rw [Bool.not_false]
  have q0:=HB.out.cell HC.out.1
  have q1:=HB.out.cell HC.out.2.1
  have q2:=HB.out.cell HC.out.2.2.1
  have q3:=HB.out.cell HC.out.2.2.2.1
  have q4:=HB.out.cell HC.out.2.2.2.2.1
  have q5:=HB.out.cell HC.out.2.2.2.2.2.1
  have q6:=HB.out.cell HC.out.2.2.2.2.2.2.1
  have q7:=HB.out.cell HC.out.2.2.2.2.2.2.2.1
  have q8:=HB.out.cell HC.out.2.2.2.2.2.2.2.2.1
  go_wp2_with fail
  clear q0 q1 q2 q3 q4 q5 q6 q7 q8
  go_loopw [3,29] (fun o i wr=>∃(k:Nat) (b:Bool),k<=np/\i= .int .i64 k/\o= .bool b/\Hid (b=true)/\Hid (BoxC wr w.heap.size CS)/\Hid (Ext w wr)) (fun _ i _=>np - (intOf i).toNat)
  case atStart=>exact⟨0,_,Nat.zero_le _,rfl,rfl,Bl.hid (rfl),HB,HE0⟩
  case round=>
   obtain⟨k,b,hk,rfl,rfl,Hb,HBr,HEr⟩:=hrel
   by_cases hlt:k < np
   ·have hla:k < pl.length:=by rw [<-Hnp.out];exact hlt
    obtain⟨b1,o1,cc1,hpa,_,_,_,_,hel1⟩:=Rd.pos (k:= .i64) (l:=pl) (by rw [Hnp.out]at Hpl;exact Hpl.out.ext HEr.out) (by omega)
    injection hpa with ha1 ha2 ha3
    subst ha1
    have hcell1:=hel1 k hla
    have Htk:=Bl.hid (any_take1 badP pl 0 hla)
    obtain⟨x,hx⟩:∃x,x=pl.getD k 0:=⟨_,rfl⟩
    rw [<-hx]at hcell1 Htk
    clear hel1 ha2 ha3 hx
    obtain rfl:b=true:=Hb.out
    go_wp2_with fail
    go_roundw
    case rel=>exact⟨k+1,true,by omega,by go_num,rfl,Bl.hid rfl,HBr,HEr⟩
    case measure=>simp [intOf];omega
   ·obtain rfl:k=np:=by omega
    have q0:=HBr.out.cell HC.out.1
    have q1:=HBr.out.cell HC.out.2.1
    have q2:=HBr.out.cell HC.out.2.2.1
    have q3:=HBr.out.cell HC.out.2.2.2.1
    have q4:=HBr.out.cell HC.out.2.2.2.2.1
    have q5:=HBr.out.cell HC.out.2.2.2.2.2.1
    have q6:=HBr.out.cell HC.out.2.2.2.2.2.2.1
    have q7:=HBr.out.cell HC.out.2.2.2.2.2.2.2.1
    have q8:=HBr.out.cell HC.out.2.2.2.2.2.2.2.2.1
    obtain rfl:b=true:=Hb.out
    have HV:=Bl.hid (chk1 (l:=⟨3,id,oj,pl,sh,fr,ct,bl,cd⟩) rfl (by rw [HN.out];rfl))
    go_wp2_with fail
    go_ret
    exact⟨by rw [HV.out];rfl,HEr.out⟩
 ·rw [Bool.not_true]
  go_wp2_with fail
  refine(out_any _ _ _ _).mono ?_
  rintro e w2 ⟨rfl,hw⟩
  subst hw
  rw [<-HqO.out]
  have q0:=HB.out.cell HC.out.1
  have q1:=HB.out.cell HC.out.2.1
  have q2:=HB.out.cell HC.out.2.2.1
  have q3:=HB.out.cell HC.out.2.2.2.1
  have q4:=HB.out.cell HC.out.2.2.2.2.1
  have q5:=HB.out.cell HC.out.2.2.2.2.2.1
  have q6:=HB.out.cell HC.out.2.2.2.2.2.2.1
  have q7:=HB.out.cell HC.out.2.2.2.2.2.2.2.1
  have q8:=HB.out.cell HC.out.2.2.2.2.2.2.2.2.1
  go_wp2_with fail
  clear q0 q1 q2 q3 q4 q5 q6 q7 q8
  go_loopw [3,29] (fun o i wr=>∃(k:Nat) (b:Bool),k<=np/\i= .int .i64 k/\o= .bool b/\Hid (b=(!qO||(pl.take k).any badP))/\Hid (BoxC wr w.heap.size CS)/\Hid (Ext w wr)) (fun _ i _=>np - (intOf i).toNat)
  case atStart=>exact⟨0,_,Nat.zero_le _,rfl,rfl,Bl.hid (by rw [List.take_zero];simp),HB,HE0⟩
  case round=>
   obtain⟨k,b,hk,rfl,rfl,Hb,HBr,HEr⟩:=hrel
   by_cases hlt:k < np
   ·have hla:k < pl.length:=by rw [<-Hnp.out];exact hlt
    obtain⟨b1,o1,cc1,hpa,_,_,_,_,hel1⟩:=Rd.pos (k:= .i64) (l:=pl) (by rw [Hnp.out]at Hpl;exact Hpl.out.ext HEr.out) (by omega)
    injection hpa with ha1 ha2 ha3
    subst ha1
    have hcell1:=hel1 k hla
    have Htk:=Bl.hid (any_take1 badP pl 0 hla)
    obtain⟨x,hx⟩:∃x,x=pl.getD k 0:=⟨_,rfl⟩
    rw [<-hx]at hcell1 Htk
    clear hel1 ha2 ha3 hx
    cases b
    ·go_wp2_with fail
     refine(out_any _ _ _ _).mono ?_
     rintro e w2 ⟨rfl,hw⟩
     subst hw
     go_wp2_with fail
     go_roundw
     case rel=>exact⟨k+1,_,by omega,by go_num,rfl,Bl.hid (by rw [Htk.out,<-Bool.or_assoc,<-Hb.out];rfl),HBr,HEr⟩
     case measure=>simp [intOf];omega
    ·go_wp2_with fail
     go_roundw
     case rel=>exact⟨k+1,true,by omega,by go_num,rfl,Bl.hid (by rw [Htk.out,<-Bool.or_assoc,<-Hb.out];rfl),HBr,HEr⟩
     case measure=>simp [intOf];omega
   ·obtain rfl:k=np:=by omega
    have q0:=HBr.out.cell HC.out.1
    have q1:=HBr.out.cell HC.out.2.1
    have q2:=HBr.out.cell HC.out.2.2.1
    have q3:=HBr.out.cell HC.out.2.2.2.1
    have q4:=HBr.out.cell HC.out.2.2.2.2.1
    have q5:=HBr.out.cell HC.out.2.2.2.2.2.1
    have q6:=HBr.out.cell HC.out.2.2.2.2.2.2.1
    have q7:=HBr.out.cell HC.out.2.2.2.2.2.2.2.1
    have q8:=HBr.out.cell HC.out.2.2.2.2.2.2.2.2.1
    rw [List.take_of_length_le (by rw [<-Hnp.out];exact Nat.le_refl _)]at Hb
    cases b
    rotate_left
    ·have HV:=Bl.hid (chk1 (l:=⟨3,id,oj,pl,sh,fr,ct,bl,cd⟩) rfl (by rw [HN.out];exact nob1 Hb.out))
     go_wp2_with fail
     go_ret
     exact⟨by rw [HV.out];rfl,HEr.out⟩
    have Hn:Hid (numOk ⟨3,id,oj,pl,sh,fr,ct,bl,cd⟩=true):=Bl.hid (by rw [HN.out];obtain⟨z1,z2⟩:=nob0 Hb.out;rw [z1,z2];rfl)
    obtain⟨qB,hqB⟩:∃q,q=wi (k:Int) 1 12:=⟨_,rfl⟩
    rw [<-Hnp.out,<-hqB]at HS
    have HqB:=Bl.hid hqB
    clear hqB
    go_wp2_with fail
    refine(out_any _ _ _ _).mono ?_
    rintro e w2 ⟨rfl,hw⟩
    subst hw
    rw [<-HqB.out]
    cases qB
    ·rw [Bool.not_false]
     have HV:=Bl.hid (chk8 (l:=⟨3,id,oj,pl,sh,fr,ct,bl,cd⟩) rfl Hn.out (HS.out))
     go_wp2_with fail
     go_ret
     exact⟨by rw [HV.out];rfl,HEr.out⟩
    rw [Bool.not_true]
    iterate 17 (try (first | go_values | go_skip | go_guarded | go_step | go_upon | go_back | (simp only [Int.not_lt,Int.not_le]at*;go_simp) | (go_values<;>(try go_simp))))
    rw [app35]
    by_cases hgnb:(0:Int) < (nb:Int)
    ·have HV:=Bl.hid (chk4 (l:=⟨3,id,oj,pl,sh,fr,ct,bl,cd⟩) rfl Hn.out HS.out (fun q=>by obtain⟨a1,a2,a3,a4,a5,a6⟩:=HF.out.1 q;(try dsimp only at a1);(try dsimp only at a2);(try dsimp only at a3);(try dsimp only at a4);(try dsimp only at a5);(try dsimp only at a6);have:=Hnp.out;have:=Hnsh.out;have:=Hnb.out;omega))
     go_wp2_with fail
     go_ret
     exact⟨by rw [HV.out];rfl,HEr.out⟩
    by_cases hgns:(0:Int) < (ns:Int)
    ·have HV:=Bl.hid (chk4 (l:=⟨3,id,oj,pl,sh,fr,ct,bl,cd⟩) rfl Hn.out HS.out (fun q=>by obtain⟨a1,a2,a3,a4,a5,a6⟩:=HF.out.1 q;(try dsimp only at a1);(try dsimp only at a2);(try dsimp only at a3);(try dsimp only at a4);(try dsimp only at a5);(try dsimp only at a6);have:=Hnp.out;have:=Hnsh.out;have:=Hnb.out;omega))
     go_wp2_with fail
     go_ret
     exact⟨by rw [HV.out];rfl,HEr.out⟩
    by_cases hgfr:fr=0
    rotate_left
    ·have hhfr:(fr==0)=false:=by rw [beq_eq_false_iff_ne];exact hgfr
     have HV:=Bl.hid (chk4 (l:=⟨3,id,oj,pl,sh,fr,ct,bl,cd⟩) rfl Hn.out HS.out (fun q=>by obtain⟨a1,a2,a3,a4,a5,a6⟩:=HF.out.1 q;(try dsimp only at a1);(try dsimp only at a2);(try dsimp only at a3);(try dsimp only at a4);(try dsimp only at a5);(try dsimp only at a6);have:=Hnp.out;have:=Hnsh.out;have:=Hnb.out;omega))
     go_wp2_with fail
     go_ret
     exact⟨by rw [HV.out];rfl,HEr.out⟩
    subst hgfr
    by_cases hgct:ct=0
    rotate_left
    ·have hhct:(ct==0)=false:=by rw [beq_eq_false_iff_ne];exact hgct
     have HV:=Bl.hid (chk4 (l:=⟨3,id,oj,pl,sh,0,ct,bl,cd⟩) rfl Hn.out HS.out (fun q=>by obtain⟨a1,a2,a3,a4,a5,a6⟩:=HF.out.1 q;(try dsimp only at a1);(try dsimp only at a2);(try dsimp only at a3);(try dsimp only at a4);(try dsimp only at a5);(try dsimp only at a6);have:=Hnp.out;have:=Hnsh.out;have:=Hnb.out;omega))
     go_wp2_with fail
     go_ret
     exact⟨by rw [HV.out];rfl,HEr.out⟩
    subst hgct
    by_cases hgcd:cd=0
    rotate_left
    ·have hhcd:(cd==0)=false:=by rw [beq_eq_false_iff_ne];exact hgcd
     have HV:=Bl.hid (chk4 (l:=⟨3,id,oj,pl,sh,0,0,bl,cd⟩) rfl Hn.out HS.out (fun q=>by obtain⟨a1,a2,a3,a4,a5,a6⟩:=HF.out.1 q;(try dsimp only at a1);(try dsimp only at a2);(try dsimp only at a3);(try dsimp only at a4);(try dsimp only at a5);(try dsimp only at a6);have:=Hnp.out;have:=Hnsh.out;have:=Hnb.out;omega))
     go_wp2_with fail
     go_ret
     exact⟨by rw [HV.out];rfl,HEr.out⟩
    subst hgcd
    have hf:frmOk ⟨3,id,oj,pl,sh,0,0,bl,0⟩=true:=by
     refine HF.out.2 ⟨?_,?_,?_,?_,?_,?_⟩<;>(first | exact Or.inl rfl | exact Or.inl (Or.inl rfl) | exact Or.inl (Or.inr rfl) | exact Or.inl trivial | exact Or.inl (Or.inl trivial) | exact Or.inl (Or.inr trivial) | ((try dsimp only);have:=Hnp.out;have:=Hnsh.out;have:=Hnb.out;omega))
    have Hf:=Bl.hid hf
    clear hf
    have Hl:=Bl.hid (HBr.out.load (P:=Tryz.prog) Tryz.underlying43 rfl (by rw [HC.out.2.2.2.2.2.2.2.2.2];kernel_rfl))
    go_wp2_with (with_reducible refine stop_load (ty:=43) ?_)
    refine go_on ?_
    refine wpL_load rfl Hl.out ?_
    go_wp2_with fail
    refine(HLa.out _ HEr.out Hn.out HS.out).mono ?_
    rintro e wz ⟨vz,rfl,hrz,hEz⟩
    obtain⟨pz,cz,hfz,_,_⟩:=hrz.form
    subst hfz
    have HEz:=Bl.hid (HEr.out.trans hEz)
    obtain⟨M,hM⟩:∃M,M=(bytL ⟨3,id,oj,pl,sh,0,0,bl,0⟩).length:=⟨_,rfl⟩
    rw [<-hM]
    have HM:=Bl.hid hM
    clear hM hrz hEz Hl
    by_cases h8:8000 < M
    ·have h8i:(8000:Int) < (M:Int):=by omega
     have HV:=Bl.hid (chk3 (l:=⟨3,id,oj,pl,sh,0,0,bl,0⟩) rfl Hn.out HS.out Hf.out (by rw [<-HM.out];exact h8))
     clear h8
     go_wp2_with fail
     go_ret
     exact⟨by rw [HV.out];rfl,HEz.out⟩
    ·have h8i:¬((8000:Int) < (M:Int)):=by omega
     have HV:=Bl.hid (chk0 (l:=⟨3,id,oj,pl,sh,0,0,bl,0⟩) rfl Hn.out HS.out Hf.out (by rw [<-HM.out];exact h8))
     clear h8
     go_wp2_with fail
     go_ret
     exact⟨by rw [HV.out];rfl,HEz.out⟩
theorem rcheck4_any (v:Value) (l:Bl.LT) (w:World) (h:LtV w v l) (hk:l.kind=4):
  Calls Tryz.prog 40 #[v] w fun e w'=>e= .returned (.int .i64 (chkL l:Nat))/\Ext w w':=by
 have HL:=Bl.hid h
 obtain⟨cs0,vp,vs,vb,L,rfl,hc⟩:=h
 obtain rfl:=hc.eq
 have HLa:Hid (∀w2,Ext w w2->numOk l=true->sizOk l=true->Calls Tryz.prog 60 #[.agg (cL l vp vs vb).toArray] w2 fun e w'=>∃v',e= .returned v'/\Rd w' .u8 v' (bytL l)/\Ext w2 w'):=Bl.hid fun w2 h2 hn hz=>rlaid_any _ l w2 (HL.out.ext h2) (by rw [hk];decide) hn hz
 obtain⟨kd,id,oj,pl,sh,fr,ct,bl,cd⟩:=l
 obtain⟨p1,c1,e1,hc1,hm1⟩:=hc.pl.form
 obtain⟨p2,c2,e2,hc2,hm2⟩:=hc.sh.rd.form
 obtain⟨p3,c3,e3,hc3,hm3⟩:=hc.bl.form
 have Hpl:Hid (Rd w .i64 vp pl):=Bl.hid hc.pl
 have Hsh:=Bl.hid hc.sh
 have Hsl:Hid (L.map plS=sh):=Bl.hid hc.sl
 have Hbl:Hid (Rdss w vb bl):=Bl.hid hc.bl
 simp only at e1 e2 e3 hk hc1 hc3
 subst hk
 subst e1 e2 e3
 clear hc HL
 unfold maxLen at hm1 hm2 hm3
 obtain⟨np,hnp⟩:∃np,np=pl.length:=⟨_,rfl⟩
 obtain⟨ns,hns⟩:∃ns,ns=L.length:=⟨_,rfl⟩
 obtain⟨nb,hnb⟩:∃nb,nb=bl.length:=⟨_,rfl⟩
 have Hnp:=Bl.hid hnp
 have Hns:=Bl.hid hns
 have Hnb:=Bl.hid hnb
 have Hnsh:Hid (sh.length=ns):=Bl.hid (by rw [<-Hsl.out,List.length_map,hns])
 rw [<-hnp]at Hpl hc1 HLa⊢
 rw [<-hns]at Hsh hc2 HLa⊢
 rw [<-hnb]at Hbl hc3 HLa⊢
 clear hnp hns hnb
 obtain⟨qI,hqI⟩:∃q,q=wi id 0 1099511627776:=⟨_,rfl⟩
 obtain⟨qO,hqO⟩:∃q,q=wi oj 0 1099511627776:=⟨_,rfl⟩
 have HN:Hid (numOk ⟨4,id,oj,pl,sh,fr,ct,bl,cd⟩=(qI&&qO&& !sh.any (fun s=>badP s.1))):=Bl.hid (by rw [hqI,hqO];unfold numOk numT;rfl)
 have HS:Hid (sizOk ⟨4,id,oj,pl,sh,fr,ct,bl,cd⟩=(wi sh.length 1 12&& !sh.any badS)):=Bl.hid (by unfold sizOk;rfl)
 have HF:=Bl.hid (frm_iff ⟨4,id,oj,pl,sh,fr,ct,bl,cd⟩)
 have HqI:=Bl.hid hqI
 have HqO:=Bl.hid hqO
 clear hqI hqO
 obtain⟨W0,hW0⟩:∃W0,W0=w.alloc (.cells #[.int .i64 4,.int .i64 id,.int .i64 oj,.slice p1 np c1,.slice p2 ns c2,.int .i64 fr,.int .i64 ct,.slice p3 nb c3,.int .i64 cd] 43):=⟨_,rfl⟩
 have HE0:Hid (Ext w W0):=Bl.hid (by rw [hW0];exact ext_alloc _ _)
 obtain⟨CS,hCS⟩:∃CS,CS=cL ⟨4,id,oj,pl,sh,fr,ct,bl,cd⟩ (.slice p1 np c1) (.slice p2 ns c2) (.slice p3 nb c3):=⟨_,rfl⟩
 rw [<-hCS]at HLa
 have HB:Hid (BoxC W0 w.heap.size CS):=Bl.hid (by rw [hW0,hCS];exact BoxC.box w 43 (cs:=(cL ⟨4,id,oj,pl,sh,fr,ct,bl,cd⟩ (.slice p1 np c1) (.slice p2 ns c2) (.slice p3 nb c3))) (fun h=>by cases h))
 have HC:Hid (CS[0]? =some (.int .i64 4)/\CS[1]? =some (.int .i64 id)/\CS[2]? =some (.int .i64 oj)/\CS[3]? =some (.slice p1 np c1)/\CS[4]? =some (.slice p2 ns c2)/\CS[5]? =some (.int .i64 fr)/\CS[6]? =some (.int .i64 ct)/\CS[7]? =some (.slice p3 nb c3)/\CS[8]? =some (.int .i64 cd)/\CS.length=9):=Bl.hid (by rw [hCS];exact⟨rfl,rfl,rfl,rfl,rfl,rfl,rfl,rfl,rfl,rfl⟩)
 show Calls Tryz.prog 40 #[.agg #[.int .i64 4,.int .i64 id,.int .i64 oj,.slice p1 np c1,.slice p2 ns c2,.int .i64 fr,.int .i64 ct,.slice p3 nb c3,.int .i64 cd]] w _
 clear hCS
 go_enter Tryz.func40,Tryz.ntmps40
 go_wp2_with fail
 rw [<-hW0]
 clear hW0
 refine(out_any _ _ _ _).mono ?_
 rintro e w2 ⟨rfl,hw⟩
 subst hw
 have q0:=HB.out.cell HC.out.1
 have q1:=HB.out.cell HC.out.2.1
 have q2:=HB.out.cell HC.out.2.2.1
 rw [show(!wi 4 1 7)=false from rfl]
 go_wp2_with fail
 refine(out_any _ _ _ _).mono ?_
 rintro e w2 ⟨rfl,hw⟩
 subst hw
 rw [<-HqI.out]
 clear q1
 cases qI
 ·rw [Bool.not_false]
  have q0:=HB.out.cell HC.out.1
  have q1:=HB.out.cell HC.out.2.1
  have q2:=HB.out.cell HC.out.2.2.1
  have q3:=HB.out.cell HC.out.2.2.2.1
  have q4:=HB.out.cell HC.out.2.2.2.2.1
  have q5:=HB.out.cell HC.out.2.2.2.2.2.1
  have q6:=HB.out.cell HC.out.2.2.2.2.2.2.1
  have q7:=HB.out.cell HC.out.2.2.2.2.2.2.2.1
  have q8:=HB.out.cell HC.out.2.2.2.2.2.2.2.2.1
  go_wp2_with fail
  clear q0 q1 q2 q3 q4 q5 q6 q7 q8
  go_loopw [3,45] (fun o i wr=>∃(k:Nat) (b:Bool),k<=ns/\i= .int .i64 k/\o= .bool b/\Hid (b=true)/\Hid (BoxC wr w.heap.size CS)/\Hid (Ext w wr)) (fun _ i _=>ns - (intOf i).toNat)
  case atStart=>exact⟨0,_,Nat.zero_le _,rfl,rfl,Bl.hid (rfl),HB,HE0⟩
  case round=>
   obtain⟨k,b,hk,rfl,rfl,Hb,HBr,HEr⟩:=hrel
   by_cases hlt:k < ns
   ·have hls:k < sh.length:=by rw [Hnsh.out];exact hlt
    have hla:k < L.length:=by rw [<-Hns.out];exact hlt
    have hRA:=Hsh.out.ext HEr.out
    obtain⟨g,o,cc,hpe,_,_,_,hel⟩:=hRA.pos (by omega)
    injection hpe with ha1 ha2 ha3
    subst ha1
    have hrg:=hel k hla
    have hok:=hRA.ok _ (getD_mem s0 hla)
    have hpx:plS (L.getD k s0)=sh.getD k Bl.h0:=by rw [<-plS_getD,Hsl.out]
    have Htk:=Bl.hid (any_take1 (fun s:Sh=>badP s.1) sh Bl.h0 hls)
    rw [<-hpx]at Htk
    obtain⟨x,hx⟩:∃x,x=L.getD k s0:=⟨_,rfl⟩
    rw [<-hx]at hrg hok Htk
    clear hx hpx hel ha2 ha3 hRA
    obtain⟨pc,⟨u1,st⟩,u2,pa⟩:=x
    obtain⟨q1',d1,hq1f,_,hd1⟩:=hok.st.form
    obtain⟨q2',d2,hq2f,_,hd2⟩:=hok.pa.form
    simp only at hq1f hq2f
    subst hq1f hq2f
    obtain⟨m1,hm1'⟩:∃m,m=st.length:=⟨_,rfl⟩
    obtain⟨m2,hm2'⟩:∃m,m=pa.length:=⟨_,rfl⟩
    rw [<-hm1',<-hm2']at hrg
    have Hm1:=Bl.hid hm1'
    have Hm2:=Bl.hid hm2'
    have Hld:=Bl.hid (run_loadAt_mid (P:=Tryz.prog) wr g (o+k*3) 100 _ _ hrg Tryz.underlying100 rfl (by rw [cS_len];kernel_rfl))
    have hone:∀z∈([.int .i64 pc,.slice q1' m1 d1,.slice q2' m2 d2]:List Value),z.oneCell'=true:=cS3_one ⟨_,_,_,rfl⟩ ⟨_,_,_,rfl⟩
    obtain⟨hB5,hE5⟩:=BoxC.fresh (cs:=[.int .i64 pc,.slice q1' m1 d1,.slice q2' m2 d2]) wr 100 zSh rfl (fun q=>by cases q)
    have Hst:=Bl.hid (fresh_store (P:=Tryz.prog) (cs:=[.int .i64 pc,.slice q1' m1 d1,.slice q2' m2 d2]) wr 100 zSh rfl hone (ty:=100) (by kernel_rfl))
    have HB5:=Bl.hid hB5
    have HE5:=Bl.hid hE5
    have hk0:(0:Int)<=(k:Int):=by omega
    have hk1:(k:Int) < (ns:Int):=by omega
    clear hrg hok hone hB5 hE5 hm1' hm2' hla hls hd1 hd2
    go_wp2_with (with_reducible refine stop_load (ty:=100) ?_)
    refine go_on ?_
    refine wpL_load rfl Hld.out ?_
    go_wp2_with (with_reducible refine stop_store (ty:=100) ?_)
    refine go_on ?_
    refine wpL_store0 rfl rfl Hst.out ?_
    obtain⟨W5,hW5⟩:∃W5,W5=(wr.alloc (.cells zSh 100)).setCells wr.heap.size 0 [.int .i64 pc,.slice q1' m1 d1,.slice q2' m2 d2]:=⟨_,rfl⟩
    obtain⟨D,hD⟩:∃D,D=wr.heap.size:=⟨_,rfl⟩
    rw [<-hW5]at HB5 HE5⊢
    rw [<-hD]at HB5⊢
    have HB6:=Bl.hid (HBr.out.ext HE5.out)
    have HE6:=Bl.hid (HEr.out.trans HE5.out)
    have c0:=HB5.out.cell (i:=0) (v:= .int .i64 pc) rfl
    have c1:=HB5.out.cell (i:=1) (v:= .slice q1' m1 d1) rfl
    have c2:=HB5.out.cell (i:=2) (v:= .slice q2' m2 d2) rfl
    clear hW5 hD Hst Hld
    obtain rfl:b=true:=Hb.out
    go_wp2_with fail
    go_roundw
    case rel=>exact⟨k+1,true,by omega,by go_num,rfl,Bl.hid rfl,HB6,HE6⟩
    case measure=>simp [intOf];omega
   ·obtain rfl:k=ns:=by omega
    have q0:=HBr.out.cell HC.out.1
    have q1:=HBr.out.cell HC.out.2.1
    have q2:=HBr.out.cell HC.out.2.2.1
    have q3:=HBr.out.cell HC.out.2.2.2.1
    have q4:=HBr.out.cell HC.out.2.2.2.2.1
    have q5:=HBr.out.cell HC.out.2.2.2.2.2.1
    have q6:=HBr.out.cell HC.out.2.2.2.2.2.2.1
    have q7:=HBr.out.cell HC.out.2.2.2.2.2.2.2.1
    have q8:=HBr.out.cell HC.out.2.2.2.2.2.2.2.2.1
    obtain rfl:b=true:=Hb.out
    have HV:=Bl.hid (chk1 (l:=⟨4,id,oj,pl,sh,fr,ct,bl,cd⟩) rfl (by rw [HN.out];rfl))
    go_wp2_with fail
    go_ret
    exact⟨by rw [HV.out];rfl,HEr.out⟩
 ·rw [Bool.not_true]
  go_wp2_with fail
  refine(out_any _ _ _ _).mono ?_
  rintro e w2 ⟨rfl,hw⟩
  subst hw
  rw [<-HqO.out]
  have q0:=HB.out.cell HC.out.1
  have q1:=HB.out.cell HC.out.2.1
  have q2:=HB.out.cell HC.out.2.2.1
  have q3:=HB.out.cell HC.out.2.2.2.1
  have q4:=HB.out.cell HC.out.2.2.2.2.1
  have q5:=HB.out.cell HC.out.2.2.2.2.2.1
  have q6:=HB.out.cell HC.out.2.2.2.2.2.2.1
  have q7:=HB.out.cell HC.out.2.2.2.2.2.2.2.1
  have q8:=HB.out.cell HC.out.2.2.2.2.2.2.2.2.1
  go_wp2_with fail
  clear q0 q1 q2 q3 q4 q5 q6 q7 q8
  go_loopw [3,45] (fun o i wr=>∃(k:Nat) (b:Bool),k<=ns/\i= .int .i64 k/\o= .bool b/\Hid (b=(!qO||(sh.take k).any (fun s:Sh=>badP s.1)))/\Hid (BoxC wr w.heap.size CS)/\Hid (Ext w wr)) (fun _ i _=>ns - (intOf i).toNat)
  case atStart=>exact⟨0,_,Nat.zero_le _,rfl,rfl,Bl.hid (by rw [List.take_zero];simp),HB,HE0⟩
  case round=>
   obtain⟨k,b,hk,rfl,rfl,Hb,HBr,HEr⟩:=hrel
   by_cases hlt:k < ns
   ·have hls:k < sh.length:=by rw [Hnsh.out];exact hlt
    have hla:k < L.length:=by rw [<-Hns.out];exact hlt
    have hRA:=Hsh.out.ext HEr.out
    obtain⟨g,o,cc,hpe,_,_,_,hel⟩:=hRA.pos (by omega)
    injection hpe with ha1 ha2 ha3
    subst ha1
    have hrg:=hel k hla
    have hok:=hRA.ok _ (getD_mem s0 hla)
    have hpx:plS (L.getD k s0)=sh.getD k Bl.h0:=by rw [<-plS_getD,Hsl.out]
    have Htk:=Bl.hid (any_take1 (fun s:Sh=>badP s.1) sh Bl.h0 hls)
    rw [<-hpx]at Htk
    obtain⟨x,hx⟩:∃x,x=L.getD k s0:=⟨_,rfl⟩
    rw [<-hx]at hrg hok Htk
    clear hx hpx hel ha2 ha3 hRA
    obtain⟨pc,⟨u1,st⟩,u2,pa⟩:=x
    obtain⟨q1',d1,hq1f,_,hd1⟩:=hok.st.form
    obtain⟨q2',d2,hq2f,_,hd2⟩:=hok.pa.form
    simp only at hq1f hq2f
    subst hq1f hq2f
    obtain⟨m1,hm1'⟩:∃m,m=st.length:=⟨_,rfl⟩
    obtain⟨m2,hm2'⟩:∃m,m=pa.length:=⟨_,rfl⟩
    rw [<-hm1',<-hm2']at hrg
    have Hm1:=Bl.hid hm1'
    have Hm2:=Bl.hid hm2'
    have Hld:=Bl.hid (run_loadAt_mid (P:=Tryz.prog) wr g (o+k*3) 100 _ _ hrg Tryz.underlying100 rfl (by rw [cS_len];kernel_rfl))
    have hone:∀z∈([.int .i64 pc,.slice q1' m1 d1,.slice q2' m2 d2]:List Value),z.oneCell'=true:=cS3_one ⟨_,_,_,rfl⟩ ⟨_,_,_,rfl⟩
    obtain⟨hB5,hE5⟩:=BoxC.fresh (cs:=[.int .i64 pc,.slice q1' m1 d1,.slice q2' m2 d2]) wr 100 zSh rfl (fun q=>by cases q)
    have Hst:=Bl.hid (fresh_store (P:=Tryz.prog) (cs:=[.int .i64 pc,.slice q1' m1 d1,.slice q2' m2 d2]) wr 100 zSh rfl hone (ty:=100) (by kernel_rfl))
    have HB5:=Bl.hid hB5
    have HE5:=Bl.hid hE5
    have hk0:(0:Int)<=(k:Int):=by omega
    have hk1:(k:Int) < (ns:Int):=by omega
    clear hrg hok hone hB5 hE5 hm1' hm2' hla hls hd1 hd2
    go_wp2_with (with_reducible refine stop_load (ty:=100) ?_)
    refine go_on ?_
    refine wpL_load rfl Hld.out ?_
    go_wp2_with (with_reducible refine stop_store (ty:=100) ?_)
    refine go_on ?_
    refine wpL_store0 rfl rfl Hst.out ?_
    obtain⟨W5,hW5⟩:∃W5,W5=(wr.alloc (.cells zSh 100)).setCells wr.heap.size 0 [.int .i64 pc,.slice q1' m1 d1,.slice q2' m2 d2]:=⟨_,rfl⟩
    obtain⟨D,hD⟩:∃D,D=wr.heap.size:=⟨_,rfl⟩
    rw [<-hW5]at HB5 HE5⊢
    rw [<-hD]at HB5⊢
    have HB6:=Bl.hid (HBr.out.ext HE5.out)
    have HE6:=Bl.hid (HEr.out.trans HE5.out)
    have c0:=HB5.out.cell (i:=0) (v:= .int .i64 pc) rfl
    have c1:=HB5.out.cell (i:=1) (v:= .slice q1' m1 d1) rfl
    have c2:=HB5.out.cell (i:=2) (v:= .slice q2' m2 d2) rfl
    clear hW5 hD Hst Hld
    cases b
    ·go_wp2_with fail
     refine(out_any _ _ _ _).mono ?_
     rintro e w2 ⟨rfl,hw⟩
     subst hw
     go_wp2_with fail
     go_roundw
     case rel=>exact⟨k+1,_,by omega,by go_num,rfl,Bl.hid (by rw [Htk.out,<-Bool.or_assoc,<-Hb.out];rfl),HB6,HE6⟩
     case measure=>simp [intOf];omega
    ·go_wp2_with fail
     go_roundw
     case rel=>exact⟨k+1,true,by omega,by go_num,rfl,Bl.hid (by rw [Htk.out,<-Bool.or_assoc,<-Hb.out];rfl),HB6,HE6⟩
     case measure=>simp [intOf];omega
   ·obtain rfl:k=ns:=by omega
    have q0:=HBr.out.cell HC.out.1
    have q1:=HBr.out.cell HC.out.2.1
    have q2:=HBr.out.cell HC.out.2.2.1
    have q3:=HBr.out.cell HC.out.2.2.2.1
    have q4:=HBr.out.cell HC.out.2.2.2.2.1
    have q5:=HBr.out.cell HC.out.2.2.2.2.2.1
    have q6:=HBr.out.cell HC.out.2.2.2.2.2.2.1
    have q7:=HBr.out.cell HC.out.2.2.2.2.2.2.2.1
    have q8:=HBr.out.cell HC.out.2.2.2.2.2.2.2.2.1
    rw [List.take_of_length_le (by rw [Hnsh.out];exact Nat.le_refl _)]at Hb
    cases b
    rotate_left
    ·have HV:=Bl.hid (chk1 (l:=⟨4,id,oj,pl,sh,fr,ct,bl,cd⟩) rfl (by rw [HN.out];exact nob1 Hb.out))
     go_wp2_with fail
     go_ret
     exact⟨by rw [HV.out];rfl,HEr.out⟩
    have Hn:Hid (numOk ⟨4,id,oj,pl,sh,fr,ct,bl,cd⟩=true):=Bl.hid (by rw [HN.out];obtain⟨z1,z2⟩:=nob0 Hb.out;rw [z1,z2];rfl)
    obtain⟨qB,hqB⟩:∃q,q=wi (k:Int) 1 12:=⟨_,rfl⟩
    rw [Hnsh.out,<-hqB]at HS
    have HqB:=Bl.hid hqB
    have HB:=HBr
    have HE0:=HEr
    clear hqB HBr HEr Hb
    go_wp2_with fail
    refine(out_any _ _ _ _).mono ?_
    rintro e w2 ⟨rfl,hw⟩
    subst hw
    rw [<-HqB.out]
    go_wp2_with fail
    clear q0 q1 q2 q3 q4 q5 q6 q7 q8
    obtain⟨ns,rfl⟩:∃n,n=k:=⟨_,rfl⟩
    go_loopw [3,128] (fun o i wr=>∃(k:Nat) (b:Bool),k<=ns/\i= .int .i64 k/\o= .bool b/\Hid (b=(!qB||(sh.take k).any badS))/\Hid (BoxC wr w.heap.size CS)/\Hid (Ext w wr)) (fun _ i _=>ns - (intOf i).toNat)
    case atStart=>exact⟨0,_,Nat.zero_le _,rfl,rfl,Bl.hid (by rw [List.take_zero];simp),HB,HE0⟩
    case round=>
     obtain⟨k,b,hk,rfl,rfl,Hb,HBr,HEr⟩:=hrel
     by_cases hlt:k < ns
     ·have hls:k < sh.length:=by rw [Hnsh.out];exact hlt
      have hla:k < L.length:=by rw [<-Hns.out];exact hlt
      have hRA:=Hsh.out.ext HEr.out
      obtain⟨g,o,cc,hpe,_,_,_,hel⟩:=hRA.pos (by omega)
      injection hpe with ha1 ha2 ha3
      subst ha1
      have hrg:=hel k hla
      have hok:=hRA.ok _ (getD_mem s0 hla)
      have hpx:plS (L.getD k s0)=sh.getD k Bl.h0:=by rw [<-plS_getD,Hsl.out]
      have Htk:=Bl.hid (any_take1 (badS) sh Bl.h0 hls)
      rw [<-hpx]at Htk
      obtain⟨x,hx⟩:∃x,x=L.getD k s0:=⟨_,rfl⟩
      rw [<-hx]at hrg hok Htk
      clear hx hpx hel ha2 ha3 hRA
      obtain⟨pc,⟨u1,st⟩,u2,pa⟩:=x
      obtain⟨q1',d1,hq1f,_,hd1⟩:=hok.st.form
      obtain⟨q2',d2,hq2f,_,hd2⟩:=hok.pa.form
      simp only at hq1f hq2f
      subst hq1f hq2f
      obtain⟨m1,hm1'⟩:∃m,m=st.length:=⟨_,rfl⟩
      obtain⟨m2,hm2'⟩:∃m,m=pa.length:=⟨_,rfl⟩
      rw [<-hm1',<-hm2']at hrg
      have Hm1:=Bl.hid hm1'
      have Hm2:=Bl.hid hm2'
      have Hld:=Bl.hid (run_loadAt_mid (P:=Tryz.prog) wr g (o+k*3) 100 _ _ hrg Tryz.underlying100 rfl (by rw [cS_len];kernel_rfl))
      have hone:∀z∈([.int .i64 pc,.slice q1' m1 d1,.slice q2' m2 d2]:List Value),z.oneCell'=true:=cS3_one ⟨_,_,_,rfl⟩ ⟨_,_,_,rfl⟩
      obtain⟨hB5,hE5⟩:=BoxC.fresh (cs:=[.int .i64 pc,.slice q1' m1 d1,.slice q2' m2 d2]) wr 100 zSh rfl (fun q=>by cases q)
      have Hst:=Bl.hid (fresh_store (P:=Tryz.prog) (cs:=[.int .i64 pc,.slice q1' m1 d1,.slice q2' m2 d2]) wr 100 zSh rfl hone (ty:=100) (by kernel_rfl))
      have HB5:=Bl.hid hB5
      have HE5:=Bl.hid hE5
      have hk0:(0:Int)<=(k:Int):=by omega
      have hk1:(k:Int) < (ns:Int):=by omega
      clear hrg hok hone hB5 hE5 hm1' hm2' hla hls hd1 hd2
      go_wp2_with (with_reducible refine stop_load (ty:=100) ?_)
      refine go_on ?_
      refine wpL_load rfl Hld.out ?_
      go_wp2_with (with_reducible refine stop_store (ty:=100) ?_)
      refine go_on ?_
      refine wpL_store0 rfl rfl Hst.out ?_
      obtain⟨W5,hW5⟩:∃W5,W5=(wr.alloc (.cells zSh 100)).setCells wr.heap.size 0 [.int .i64 pc,.slice q1' m1 d1,.slice q2' m2 d2]:=⟨_,rfl⟩
      obtain⟨D,hD⟩:∃D,D=wr.heap.size:=⟨_,rfl⟩
      rw [<-hW5]at HB5 HE5⊢
      rw [<-hD]at HB5⊢
      have HB6:=Bl.hid (HBr.out.ext HE5.out)
      have HE6:=Bl.hid (HEr.out.trans HE5.out)
      have c0:=HB5.out.cell (i:=0) (v:= .int .i64 pc) rfl
      have c1:=HB5.out.cell (i:=1) (v:= .slice q1' m1 d1) rfl
      have c2:=HB5.out.cell (i:=2) (v:= .slice q2' m2 d2) rfl
      clear hW5 hD Hst Hld
      have hb':Hid (badS (plS (pc,(.slice q1' st.length d1,st),.slice q2' pa.length d2,pa))=(!decide (m1=16)|| !decide (m2<=10))):=Bl.hid (by show(!decide (st.length=16)|| !decide (pa.length<=10))=_;rw [Hm1.out,Hm2.out])
      rw [hb'.out]at Htk
      clear hb'
      cases b
      ·by_cases h16:m1=16
       ·subst h16
        by_cases h10:m2<=10
        ·have h10i:¬((10:Int) < (m2:Int)):=by omega
         have Hd:Hid (decide (m2<=10)=true):=Bl.hid (decide_eq_true h10)
         clear h10
         go_wp2_with fail
         go_roundw
         case rel=>exact⟨k+1,false,by omega,by go_num,(by first | rfl | exact congrArg Value.bool h16c),Bl.hid (by rw [Htk.out,Hd.out,<-Bool.or_assoc,<-Hb.out];rfl),HB6,HE6⟩
         case measure=>simp [intOf];omega
        ·have h10i:(10:Int) < (m2:Int):=by omega
         have Hd:Hid (decide (m2<=10)=false):=Bl.hid (decide_eq_false h10)
         clear h10
         go_wp2_with fail
         go_roundw
         case rel=>exact⟨k+1,true,by omega,by go_num,(by first | rfl | exact congrArg Value.bool h16c),Bl.hid (by rw [Htk.out,Hd.out,<-Bool.or_assoc,<-Hb.out];rfl),HB6,HE6⟩
         case measure=>simp [intOf];omega
       ·have h16a:¬((m1:Int)=16):=by omega
        have h16b:((m1:Int)==16)=false:=by rw [beq_eq_false_iff_ne];exact h16a
        have h16c:((m1:Int) != 16)=true:=by rw [bne_iff_ne];exact h16a
        have Hd:Hid (decide (m1=16)=false):=Bl.hid (decide_eq_false h16)
        clear h16
        go_wp2_with fail
        go_roundw
        case rel=>exact⟨k+1,true,by omega,by go_num,(by first | rfl | exact congrArg Value.bool h16c),Bl.hid (by rw [Htk.out,Hd.out,<-Bool.or_assoc,<-Hb.out];rfl),HB6,HE6⟩
        case measure=>simp [intOf];omega
      ·go_wp2_with fail
       go_roundw
       case rel=>exact⟨k+1,true,by omega,by go_num,(by first | rfl | exact congrArg Value.bool h16c),Bl.hid (by rw [Htk.out,<-Bool.or_assoc,<-Hb.out];rfl),HB6,HE6⟩
       case measure=>simp [intOf];omega
     ·obtain rfl:k=ns:=by omega
      rw [List.take_of_length_le (by rw [Hnsh.out];exact Nat.le_refl _)]at Hb
      have q0:=HBr.out.cell HC.out.1
      have q1:=HBr.out.cell HC.out.2.1
      have q2:=HBr.out.cell HC.out.2.2.1
      have q3:=HBr.out.cell HC.out.2.2.2.1
      have q4:=HBr.out.cell HC.out.2.2.2.2.1
      have q5:=HBr.out.cell HC.out.2.2.2.2.2.1
      have q6:=HBr.out.cell HC.out.2.2.2.2.2.2.1
      have q7:=HBr.out.cell HC.out.2.2.2.2.2.2.2.1
      have q8:=HBr.out.cell HC.out.2.2.2.2.2.2.2.2.1
      cases b
      rotate_left
      ·have HV:=Bl.hid (chk8 (l:=⟨4,id,oj,pl,sh,fr,ct,bl,cd⟩) rfl Hn.out (by rw [HS.out];exact nob3 Hb.out))
       go_wp2_with fail
       go_ret
       exact⟨by rw [HV.out];rfl,HEr.out⟩
      have Hs:Hid (sizOk ⟨4,id,oj,pl,sh,fr,ct,bl,cd⟩=true):=Bl.hid (by rw [HS.out];obtain⟨z1,z2⟩:=nob0 Hb.out;rw [z1,z2];rfl)
      go_wp2_with (with_reducible refine stop_long ?_)
      refine go_on ?_
      iterate 28 (try (first | go_values | go_skip | go_guarded | go_step | go_upon | go_back | (simp only [Int.not_lt,Int.not_le]at*;go_simp) | (go_values<;>(try go_simp))))
      rw [app35]
      by_cases hgnb:(0:Int) < (nb:Int)
      ·have HV:=Bl.hid (chk4 (l:=⟨4,id,oj,pl,sh,fr,ct,bl,cd⟩) rfl Hn.out Hs.out (fun q=>by obtain⟨a1,a2,a3,a4,a5,a6⟩:=HF.out.1 q;(try dsimp only at a1);(try dsimp only at a2);(try dsimp only at a3);(try dsimp only at a4);(try dsimp only at a5);(try dsimp only at a6);have:=Hnp.out;have:=Hnsh.out;have:=Hnb.out;omega))
       go_wp2_with fail
       go_ret
       exact⟨by rw [HV.out];rfl,HEr.out⟩
      by_cases hgnp:(0:Int) < (np:Int)
      ·have HV:=Bl.hid (chk4 (l:=⟨4,id,oj,pl,sh,fr,ct,bl,cd⟩) rfl Hn.out Hs.out (fun q=>by obtain⟨a1,a2,a3,a4,a5,a6⟩:=HF.out.1 q;(try dsimp only at a1);(try dsimp only at a2);(try dsimp only at a3);(try dsimp only at a4);(try dsimp only at a5);(try dsimp only at a6);have:=Hnp.out;have:=Hnsh.out;have:=Hnb.out;omega))
       go_wp2_with fail
       go_ret
       exact⟨by rw [HV.out];rfl,HEr.out⟩
      by_cases hgfr:fr=0
      rotate_left
      ·have hhfr:(fr==0)=false:=by rw [beq_eq_false_iff_ne];exact hgfr
       have HV:=Bl.hid (chk4 (l:=⟨4,id,oj,pl,sh,fr,ct,bl,cd⟩) rfl Hn.out Hs.out (fun q=>by obtain⟨a1,a2,a3,a4,a5,a6⟩:=HF.out.1 q;(try dsimp only at a1);(try dsimp only at a2);(try dsimp only at a3);(try dsimp only at a4);(try dsimp only at a5);(try dsimp only at a6);have:=Hnp.out;have:=Hnsh.out;have:=Hnb.out;omega))
       go_wp2_with fail
       go_ret
       exact⟨by rw [HV.out];rfl,HEr.out⟩
      subst hgfr
      by_cases hgct:ct=0
      rotate_left
      ·have hhct:(ct==0)=false:=by rw [beq_eq_false_iff_ne];exact hgct
       have HV:=Bl.hid (chk4 (l:=⟨4,id,oj,pl,sh,0,ct,bl,cd⟩) rfl Hn.out Hs.out (fun q=>by obtain⟨a1,a2,a3,a4,a5,a6⟩:=HF.out.1 q;(try dsimp only at a1);(try dsimp only at a2);(try dsimp only at a3);(try dsimp only at a4);(try dsimp only at a5);(try dsimp only at a6);have:=Hnp.out;have:=Hnsh.out;have:=Hnb.out;omega))
       go_wp2_with fail
       go_ret
       exact⟨by rw [HV.out];rfl,HEr.out⟩
      subst hgct
      by_cases hgcd:cd=0
      rotate_left
      ·have hhcd:(cd==0)=false:=by rw [beq_eq_false_iff_ne];exact hgcd
       have HV:=Bl.hid (chk4 (l:=⟨4,id,oj,pl,sh,0,0,bl,cd⟩) rfl Hn.out Hs.out (fun q=>by obtain⟨a1,a2,a3,a4,a5,a6⟩:=HF.out.1 q;(try dsimp only at a1);(try dsimp only at a2);(try dsimp only at a3);(try dsimp only at a4);(try dsimp only at a5);(try dsimp only at a6);have:=Hnp.out;have:=Hnsh.out;have:=Hnb.out;omega))
       go_wp2_with fail
       go_ret
       exact⟨by rw [HV.out];rfl,HEr.out⟩
      subst hgcd
      have hf:frmOk ⟨4,id,oj,pl,sh,0,0,bl,0⟩=true:=by
       refine HF.out.2 ⟨?_,?_,?_,?_,?_,?_⟩<;>(first | exact Or.inl rfl | exact Or.inl (Or.inl rfl) | exact Or.inl (Or.inr rfl) | exact Or.inl trivial | exact Or.inl (Or.inl trivial) | exact Or.inl (Or.inr trivial) | ((try dsimp only);have:=Hnp.out;have:=Hnsh.out;have:=Hnb.out;omega))
      have Hf:=Bl.hid hf
      clear hf
      have Hl:=Bl.hid (HBr.out.load (P:=Tryz.prog) Tryz.underlying43 rfl (by rw [HC.out.2.2.2.2.2.2.2.2.2];kernel_rfl))
      go_wp2_with (with_reducible refine stop_load (ty:=43) ?_)
      refine go_on ?_
      refine wpL_load rfl Hl.out ?_
      go_wp2_with fail
      refine(HLa.out _ HEr.out Hn.out Hs.out).mono ?_
      rintro e wz ⟨vz,rfl,hrz,hEz⟩
      obtain⟨pz,cz,hfz,_,_⟩:=hrz.form
      subst hfz
      have HEz:=Bl.hid (HEr.out.trans hEz)
      obtain⟨M,hM⟩:∃M,M=(bytL ⟨4,id,oj,pl,sh,0,0,bl,0⟩).length:=⟨_,rfl⟩
      rw [<-hM]
      have HM:=Bl.hid hM
      clear hM hrz hEz Hl
      by_cases h8:8000 < M
      ·have h8i:(8000:Int) < (M:Int):=by omega
       have HV:=Bl.hid (chk3 (l:=⟨4,id,oj,pl,sh,0,0,bl,0⟩) rfl Hn.out Hs.out Hf.out (by rw [<-HM.out];exact h8))
       clear h8
       go_wp2_with fail
       go_ret
       exact⟨by rw [HV.out];rfl,HEz.out⟩
      ·have h8i:¬((8000:Int) < (M:Int)):=by omega
       have HV:=Bl.hid (chk0 (l:=⟨4,id,oj,pl,sh,0,0,bl,0⟩) rfl Hn.out Hs.out Hf.out (by rw [<-HM.out];exact h8))
       clear h8
       go_wp2_with fail
       go_ret
       exact⟨by rw [HV.out];rfl,HEz.out⟩
end Go.Proofs.YtglenbikdahgjaaGreatDoor
