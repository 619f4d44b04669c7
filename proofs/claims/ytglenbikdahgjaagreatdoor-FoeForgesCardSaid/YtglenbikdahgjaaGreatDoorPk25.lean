/- Walks of letter.Check, letter.Bytes, letter.Size, the law's alive. -/
import Derived.Test.YtglenbikdahgjaaGreatDoorPk24
import Derived.Test.YtglenbikdahgjaaGreatDoorPk10
import Derived.Test.YtglenbikdahgjaaGreatDoorPk02
import Derived.Test.YtglenbikdahgjaaGreatDoorPk17
set_option maxRecDepth 100000
set_option maxHeartbeats 16000000
namespace Go.Proofs.YtglenbikdahgjaaGreatDoor
open Go Go.RowKit Go.Proofs Go.Proofs.Bl
theorem lcheck_any (v:Value) (l:Bl.LT) (w:World) (S:List Nat) (a:Nat->Addr) (h:LtV w v l) (he:Errs S a w) (s1:1∈S) (s3:3∈S) (s4:4∈S) (s7:7∈S) (s8:8∈S):
  Calls Tryz.prog 36 #[v] w fun e w'=>e= .returned (errN a (chkL l))/\Ext w w':=by
 have HL:=Bl.hid h
 obtain⟨cs,vp,vs,vb,L,rfl,hc⟩:=h
 obtain rfl:=hc.eq
 have He:=Bl.hid he
 clear hc he
 obtain⟨q1,hq1⟩:∃q,q=wi l.kind 1 7:=⟨_,rfl⟩
 obtain⟨q2,hq2⟩:∃q,q=numOk l:=⟨_,rfl⟩
 obtain⟨q3,hq3⟩:∃q,q=sizOk l:=⟨_,rfl⟩
 obtain⟨q4,hq4⟩:∃q,q=frmOk l:=⟨_,rfl⟩
 obtain⟨N,hN⟩:∃N,N=(bytL l).length:=⟨_,rfl⟩
 have HV:Hid (chkL l=if q1=false then 7 else if q2=false then 1 else if q3=false then 8 else if q4=false then 4 else if 8000 < N then 3 else 0):=Bl.hid (by unfold chkL;rw [hq1,hq2,hq3,hq4,hN])
 have Hq1:=Bl.hid hq1
 have Hq2:=Bl.hid hq2
 have Hq3:=Bl.hid hq3
 have Hq4:=Bl.hid hq4
 have HN:=Bl.hid hN
 have HK:Hid (q1=true->1<=l.kind/\l.kind<=7):=Bl.hid fun q=>wi_iff.1 (by rw [<-hq1];exact q)
 clear hq1 hq2 hq3 hq4 hN
 obtain⟨W1,hW1⟩:∃W1,W1=w.alloc (.cells (cL l vp vs vb).toArray 26):=⟨_,rfl⟩
 have HB1:Hid (BoxC W1 w.heap.size (cL l vp vs vb)):=Bl.hid (by rw [hW1];exact BoxC.box w 26 (cL_ne _ _ _ _))
 have HE1:Hid (Ext w W1):=Bl.hid (by rw [hW1];exact ext_alloc _ _)
 unfold cL at hW1
 show Calls Tryz.prog 36 #[.agg #[.int .i64 l.kind,.int .i64 l.id,.int .i64 l.obj,vp,vs,.int .i64 l.frm,.int .i64 l.cnt,vb,.int .i64 l.code]] w _
 go_enter Tryz.func36,Tryz.ntmps36
 go_wp2_with fail
 rw [<-hW1]
 clear hW1
 refine(within_any _ _ _ _).mono ?_
 rintro e w2 ⟨rfl,hw⟩
 subst hw
 rw [<-Hq1.out]
 cases q1
 ·have hF:W1.cell? ⟨2,0,none⟩=some (.iface 233 (.pointer (some (a 7)))):=(He.out.ext HE1.out).cell 7 s7
  go_wp2_with fail
  go_ret
  have HV2:chkL l=7:=by rw [HV.out];rfl
  exact⟨by rw [HV2,errN_pos a 7 (by decide)];rfl,HE1.out⟩
 have Hk:=Bl.hid (HK.out rfl)
 clear HK
 have Hl1:=Bl.hid (HB1.out.load (P:=Tryz.prog) Tryz.underlying26 rfl (by kernel_rfl))
 go_wp2_with (with_reducible refine stop_load (ty:=26) ?_)
 refine go_on ?_
 refine wpL_load rfl Hl1.out ?_
 go_wp2_with fail
 refine(numbers_any _ l W1 (HL.out.ext HE1.out) Hk.out).mono ?_
 rintro e w2 ⟨rfl,hE2⟩
 have HE2:=Bl.hid (HE1.out.trans hE2)
 have HB2:=Bl.hid (HB1.out.ext hE2)
 clear hE2 Hl1 HB1
 rw [<-Hq2.out]
 cases q2
 ·have hF:w2.cell? ⟨3,0,none⟩=some (.iface 233 (.pointer (some (a 1)))):=(He.out.ext HE2.out).cell 1 s1
  go_wp2_with fail
  go_ret
  have HV2:chkL l=1:=by rw [HV.out];rfl
  exact⟨by rw [HV2,errN_pos a 1 (by decide)];rfl,HE2.out⟩
 have Hl2:=Bl.hid (HB2.out.load (P:=Tryz.prog) Tryz.underlying26 rfl (by kernel_rfl))
 go_wp2_with (with_reducible refine stop_load (ty:=26) ?_)
 refine go_on ?_
 refine wpL_load rfl Hl2.out ?_
 go_wp2_with fail
 refine(sized_any _ l w2 (HL.out.ext HE2.out) Hk.out).mono ?_
 rintro e w3 ⟨rfl,hE3⟩
 have HE3:=Bl.hid (HE2.out.trans hE3)
 have HB3:=Bl.hid (HB2.out.ext hE3)
 clear hE3 Hl2 HB2
 rw [<-Hq3.out]
 cases q3
 ·have hF:w3.cell? ⟨4,0,none⟩=some (.iface 233 (.pointer (some (a 8)))):=(He.out.ext HE3.out).cell 8 s8
  go_wp2_with fail
  go_ret
  have HV2:chkL l=8:=by rw [HV.out];rfl
  exact⟨by rw [HV2,errN_pos a 8 (by decide)];rfl,HE3.out⟩
 have Hl3:=Bl.hid (HB3.out.load (P:=Tryz.prog) Tryz.underlying26 rfl (by kernel_rfl))
 go_wp2_with (with_reducible refine stop_load (ty:=26) ?_)
 refine go_on ?_
 refine wpL_load rfl Hl3.out ?_
 go_wp2_with fail
 refine(bare_any _ l w3 (HL.out.ext HE3.out) Hk.out).mono ?_
 rintro e w4 ⟨v4,rfl,hL4,hE4⟩
 have HE4:=Bl.hid (HE3.out.trans hE4)
 have HB4:=Bl.hid (HB3.out.ext hE4)
 have HL4:=Bl.hid hL4
 clear hE4 Hl3 HB3 hL4
 go_wp2_with fail
 refine(lsame_any v4 _ (bareL l) lt0 w4 HL4.out ⟨_,_,_,_,_,rfl,LtC.zero w4⟩).mono ?_
 rintro e w5 ⟨rfl,hE5⟩
 have HE5:=Bl.hid (HE4.out.trans hE5)
 have HB5:=Bl.hid (HB4.out.ext hE5)
 clear hE5 HB4 HL4
 rw [show sameL (bareL l) lt0=q4 from Hq4.out.symm]
 cases q4
 ·have hF:w5.cell? ⟨5,0,none⟩=some (.iface 233 (.pointer (some (a 4)))):=(He.out.ext HE5.out).cell 4 s4
  go_wp2_with fail
  go_ret
  have HV2:chkL l=4:=by rw [HV.out];rfl
  exact⟨by rw [HV2,errN_pos a 4 (by decide)];rfl,HE5.out⟩
 have Hl5:=Bl.hid (HB5.out.load (P:=Tryz.prog) Tryz.underlying26 rfl (by kernel_rfl))
 go_wp2_with (with_reducible refine stop_load (ty:=26) ?_)
 refine go_on ?_
 refine wpL_load rfl Hl5.out ?_
 go_wp2_with fail
 refine(bytes_any _ l w5 (HL.out.ext HE5.out) Hk.out Hq2.out.symm Hq3.out.symm).mono ?_
 rintro e w6 ⟨v6,rfl,hr6,hE6⟩
 obtain⟨p6,c6,hf6,_,_⟩:=hr6.form
 subst hf6
 rw [<-HN.out]
 have HE6:=Bl.hid (HE5.out.trans hE6)
 clear hE6 Hl5 HB5 hr6
 by_cases h8:8000 < N
 ·have h8i:(8000:Int) < (N:Int):=by omega
  have hF:w6.cell? ⟨6,0,none⟩=some (.iface 233 (.pointer (some (a 3)))):=(He.out.ext HE6.out).cell 3 s3
  have HV2:Hid (chkL l=3):=Bl.hid (by rw [HV.out,if_neg (by decide),if_neg (by decide),if_neg (by decide),if_neg (by decide),if_pos h8])
  clear h8
  go_wp2_with fail
  go_ret
  exact⟨by rw [HV2.out,errN_pos a 3 (by decide)];rfl,HE6.out⟩
 ·have h8i:¬((8000:Int) < (N:Int)):=by omega
  have HV2:Hid (chkL l=0):=Bl.hid (by rw [HV.out,if_neg (by decide),if_neg (by decide),if_neg (by decide),if_neg (by decide),if_neg h8])
  clear h8
  go_wp2_with fail
  go_ret
  exact⟨by rw [HV2.out];rfl,HE6.out⟩
end Go.Proofs.YtglenbikdahgjaaGreatDoor
namespace Go.Proofs.Bl
open Go Go.RowKit
def refL (l:LT) (code:Int):LT:=⟨7,l.id,l.obj,[],[],0,0,[],code⟩
abbrev nilV:Value:= .slice none 0 0
end Go.Proofs.Bl
namespace Go.Proofs.YtglenbikdahgjaaGreatDoor
open Go Go.RowKit Go.Proofs Go.Proofs.Bl
theorem refusal_any (v:Value) (l:Bl.LT) (code:Int) (w:World) (h:LtV w v l):
  Calls Tryz.prog 67 #[v,.int .i64 code] w fun e w'=>e= .returned (.agg (cL (refL l code) nilV nilV nilV).toArray)/\Ext w w':=by
 obtain⟨cs0,vp,vs,vb,L,rfl,hc⟩:=h
 obtain rfl:=hc.eq
 obtain⟨kd,id,oj,pl,sh,fr,ct,bl,cd⟩:=l
 clear hc
 show Calls Tryz.prog 67 #[.agg #[.int .i64 kd,.int .i64 id,.int .i64 oj,vp,vs,.int .i64 fr,.int .i64 ct,vb,.int .i64 cd],.int .i64 code] w _
 have HEf:Hid (∀A R,Ext w ((w.alloc (.cells A 26)).alloc (.cells R 26))):=Bl.hid fun A R=>(ext_alloc _ _).trans (ext_alloc _ _)
 go_enter Tryz.func67,Tryz.ntmps67
 go_wp2_with fail
 exact bodyPost_ret (v:= .agg ([.int .i64 7,.int .i64 id,.int .i64 oj,nilV,nilV,.int .i64 0,.int .i64 0,nilV,.int .i64 code]:List Value).toArray) (results_cell rfl rfl ((box2 w _ [.int .i64 7,.int .i64 id,.int .i64 oj,nilV,nilV,.int .i64 0,.int .i64 0,nilV,.int .i64 code] _ _ (fun h=>by cases h)).loadVar (P:=Tryz.prog) Tryz.underlying26 rfl (by kernel_rfl))) rfl ⟨rfl,HEf.out _ _⟩
structure Shf0 (w:World) (b m sb:Nat):Prop where
 c0:w.cell? ⟨b,0,none⟩=some (.map (some m))
 c1:w.cell? ⟨b,1,none⟩=some (.pointer (some ⟨sb,0,none⟩))
theorem nnew_any (w:World):Calls Tryz.prog 35 #[] w fun e w'=>e= .returned (.pointer (some ⟨w.heap.size,0,none⟩))/\BoxC w' w.heap.size [.bool false,.int .i64 0,.int .u64 0]/\Ext w w':=by
 have HB:=Bl.hid (BoxC.box (cs:=[.bool false,.int .i64 0,.int .u64 0]) w 134 (fun h=>by cases h))
 have HE:=Bl.hid (ext_alloc w (.cells ([.bool false,.int .i64 0,.int .u64 0]:List Value).toArray 134))
 go_enter Tryz.func35,Tryz.ntmps35
 go_wp2_with fail
 go_ret
 exact⟨rfl,HB.out,HE.out⟩
theorem snew_any (w:World):Calls Tryz.prog 9 #[] w fun e w'=>∃b m sb,e= .returned (.pointer (some ⟨b,0,none⟩))/\w.heap.size<=b/\w.heap.size<=m/\w.heap.size<=sb/\b≠m/\b≠sb/\m≠sb/\Shf0 w' b m sb/\BoxC w' b [.map (some m),.pointer (some ⟨sb,0,none⟩)]/\MapAt w' m []/\BoxC w' sb [.bool false,.int .i64 0,.int .u64 0]/\Ext w w':=by
 have hmm:=@run_makeMap Tryz.prog
 go_enter Tryz.func9,Tryz.ntmps9
 go_wp2_with fail
 have hM:=MapAt.new w
 have hE0:=ext_alloc w (.map #[] 0)
 have hs0:(w.alloc (.map #[] 0)).heap.size=w.heap.size+1:=World.size_alloc _ _
 generalize w.alloc (.map #[] 0)=W1 at hM hE0 hs0⊢
 refine(nnew_any W1).mono ?_
 rintro e w2 ⟨rfl,hB,hE2⟩
 have HB:=Bl.hid hB
 have HM:=Bl.hid (hM.ext hE2)
 have HE:=Bl.hid (hE0.trans hE2)
 have hs2:=hE2.size
 have HBx:=Bl.hid (BoxC.box (cs:=[.map (some w.heap.size),.pointer (some ⟨W1.heap.size,0,none⟩)]) w2 88 (fun h=>by cases h))
 have HEx:=Bl.hid (ext_alloc w2 (.cells ([.map (some w.heap.size),.pointer (some ⟨W1.heap.size,0,none⟩)]:List Value).toArray 88))
 have hlt:=hB.lt
 have Hn:Hid (w.heap.size<=w2.heap.size/\w.heap.size<=W1.heap.size/\w2.heap.size≠w.heap.size/\w2.heap.size≠W1.heap.size/\w.heap.size≠W1.heap.size):=Bl.hid (by omega)
 clear hM hE0 hs0 hB hE2 hs2 hlt
 go_wp2_with fail
 go_ret
 exact⟨_,_,_,rfl,Hn.out.1,Nat.le_refl _,Hn.out.2.1,Hn.out.2.2.1,Hn.out.2.2.2.1,Hn.out.2.2.2.2,⟨HBx.out.cell rfl,HBx.out.cell rfl⟩,HBx.out,HM.out.ext HEx.out,HB.out.ext HEx.out,HE.out.trans HEx.out⟩
end Go.Proofs.YtglenbikdahgjaaGreatDoor
namespace Go.Proofs.Bl
open Go Go.RowKit
def l25:LT:=⟨3,0,0,[0],[],0,0,[],0⟩
end Go.Proofs.Bl
namespace Go.Proofs.YtglenbikdahgjaaGreatDoor
open Go Go.RowKit Go.Proofs Go.Proofs.Bl
theorem nmay_any (x:Int) (w:World):Calls Tryz.prog 125 #[.int .i64 x] w fun e w'=>e= .returned (.bool (wi x 0 1099511627776))/\w=w':=by
 by_cases h1:0<=x
 ·by_cases h2:x<=1099511627776
  ·have Hv:Hid (wi x 0 1099511627776=true):=Bl.hid (wi_iff.2 ⟨h1,h2⟩)
   go_enter Tryz.func125,Tryz.ntmps125
   go_wp2
   go_ret
   exact⟨by rw [Hv.out];rfl,rfl⟩
  ·have Hv:Hid (wi x 0 1099511627776=false):=Bl.hid (wi_no.2 (by omega))
   go_enter Tryz.func125,Tryz.ntmps125
   go_wp2
   go_ret
   exact⟨by rw [Hv.out];rfl,rfl⟩
 ·have Hv:Hid (wi x 0 1099511627776=false):=Bl.hid (wi_no.2 (by omega))
  go_enter Tryz.func125,Tryz.ntmps125
  go_wp2
  go_ret
  exact⟨by rw [Hv.out];rfl,rfl⟩
theorem nold_any (sb:Nat) (any:Bool) (g:Int) (c:Nat) (ids:List Int) (x:Int) (w:World) (hB:BoxC w sb [.bool any,.int .i64 g,.int .u64 (c:Nat)]) (h:SeenOk any g c ids):
  Calls Tryz.prog 126 #[.pointer (some ⟨sb,0,none⟩),.int .i64 x] w fun e w'=>e= .returned (.bool (oldI ids x))/\w=w':=by
 have c0:=hB.cell (i:=0) rfl
 have c1:=hB.cell (i:=1) rfl
 obtain⟨hr0,hr1⟩:=h.rng
 obtain⟨V,hV⟩:∃V,V=oldI ids x:=⟨_,rfl⟩
 have hv:=hV
 rw [h.old]at hv
 rw [<-hV]
 clear hB h hV
 cases any
 ·have Hv:Hid (V=false):=Bl.hid (by rw [hv];rfl)
  clear hv
  go_enter Tryz.func126,Tryz.ntmps126
  go_wp2
  go_ret
  exact⟨by rw [Hv.out];rfl,rfl⟩
 ·by_cases hx:x<=g - 64
  ·have Hv:Hid (V=true):=Bl.hid (by rw [hv];simp [hx])
   clear hv
   go_enter Tryz.func126,Tryz.ntmps126
   go_wp2
   go_ret
   exact⟨by rw [Hv.out];simp,rfl⟩
  ·have Hv:Hid (V=false):=Bl.hid (by rw [hv];simp [hx])
   clear hv
   go_enter Tryz.func126,Tryz.ntmps126
   go_wp2
   go_ret
   exact⟨by rw [Hv.out];simp,rfl⟩
theorem nhas_any (sb:Nat) (any:Bool) (g:Int) (c:Nat) (ids:List Int) (x:Int) (w:World) (hB:BoxC w sb [.bool any,.int .i64 g,.int .u64 (c:Nat)]) (h:SeenOk any g c ids):
  Calls Tryz.prog 127 #[.pointer (some ⟨sb,0,none⟩),.int .i64 x] w fun e w'=>e= .returned (.bool (hasI ids x))/\Ext w w':=by
 have c0:=hB.cell (i:=0) rfl
 have c1:=hB.cell (i:=1) rfl
 have c2:=hB.cell (i:=2) rfl
 have hl:=hB.lt
 obtain⟨hr0,hr1⟩:=h.rng
 have HM:=Bl.hid (nmay_any x w)
 have HO:=Bl.hid (nold_any sb any g c ids x w hB h)
 have HNo:=Bl.hid (fun hn=>h.hasno (x:=x) hn)
 have HHas:=Bl.hid (fun ho ha hg=>h.has (x:=x) ho ha hg)
 have Hlt:=Bl.hid h.lt
 obtain⟨V,hV⟩:∃V,V=hasI ids x:=⟨_,rfl⟩
 obtain⟨O,hO⟩:∃O,O=oldI ids x:=⟨_,rfl⟩
 obtain⟨M,hM⟩:∃M,M=wi x 0 1099511627776:=⟨_,rfl⟩
 have Hwi:Hid (M=true->0<=x/\x<=1099511627776):=Bl.hid (fun q=>wi_iff.1 (by rw [<-hM];exact q))
 have Hold:Hid (any=true->O=false->g - 64 < x):=Bl.hid (fun qa q=>by
  have:=h.old x
  rw [<-hO,q,qa]at this
  have:¬x<=g - 64:=by simpa using this.symm
  omega)
 rw [<-hV,<-hO,<-hM]at HNo
 rw [<-hV,<-hO]at HHas
 rw [<-hO]at HO
 rw [<-hM]at HM
 rw [<-hV]
 clear hB h hV hO hM
 cases any
 ·have Hv:Hid (V=false):=Bl.hid (HNo.out (.inl rfl))
  clear HM HO HNo HHas Hwi Hold
  go_enter Tryz.func127,Tryz.ntmps127
  go_wp2_with fail
  go_ret
  exact⟨by rw [Hv.out];rfl,Below.refl _ _⟩
 ·cases M
  ·have Hv:Hid (V=false):=Bl.hid (HNo.out (.inr (.inl rfl)))
   clear HO HNo HHas Hwi Hold
   go_enter Tryz.func127,Tryz.ntmps127
   go_wp2_with fail
   refine HM.out.mono ?_
   rintro e w1 ⟨rfl,hw⟩
   subst hw
   go_wp2_with fail
   go_ret
   exact⟨by rw [Hv.out];rfl,Below.refl _ _⟩
  ·obtain⟨hx0,hx1⟩:=Hwi.out rfl
   cases O
   ·have hx2:=Hold.out rfl rfl
    by_cases hgx:g < x
    ·have Hv:Hid (V=false):=Bl.hid (HNo.out (.inr (.inr (.inr hgx))))
     clear HNo HHas Hwi Hold
     go_enter Tryz.func127,Tryz.ntmps127
     go_wp2_with fail
     refine HM.out.mono ?_
     rintro e w1 ⟨rfl,hw⟩
     subst hw
     go_wp2_with fail
     refine HO.out.mono ?_
     rintro e w1 ⟨rfl,hw⟩
     subst hw
     go_wp2_with fail
     go_ret
     exact⟨by rw [Hv.out];rfl,Below.refl _ _⟩
    ·have Hv:Hid (V=c.testBit (g - x).toNat):=Bl.hid (HHas.out rfl rfl (by omega))
     clear HNo HHas Hwi Hold
     obtain⟨k,hk⟩:=Int.eq_ofNat_of_zero_le (show 0<=g - x by omega)
     obtain rfl:x=g - (k:Int):=by omega
     have hk64:k < 64:=by omega
     have hk0:g - (g - (k:Int))=(k:Int):=by omega
     have Hk:Hid ((g - (g - (k:Int))).toNat=k):=Bl.hid (by rw [hk0];exact Int.toNat_natCast k)
     have hbt:=bit_test c Hlt.out k
     have hgb:decide (g < g - (k:Int))=false:=decide_eq_false (by omega)
     have hwk:IntKind.i64.wrap (k:Int)=(k:Int):=by rw [IntKind.wrap_i64];omega
     have hsh:=shr_nat c k hk64
     rw [Hk.out]at Hv
     obtain⟨Z,hZ⟩:∃Z:Int,Z=(if c.testBit k then 1 else 0):=⟨_,rfl⟩
     have HvZ:Hid (V=decide (Z=1)):=Bl.hid (by
      rw [Hv.out,hZ]
      cases c.testBit k<;>rfl)
     rw [<-hZ]at hbt
     clear hk hZ
     go_enter Tryz.func127,Tryz.ntmps127
     go_wp2_with fail
     refine HM.out.mono ?_
     rintro e w1 ⟨rfl,hw⟩
     subst hw
     go_wp2_with fail
     refine HO.out.mono ?_
     rintro e w1 ⟨rfl,hw⟩
     subst hw
     go_wp2_with fail
     apply wp_region_ev 13 [28,29,30,31,32,33,34,35,36,37,38,39,40] [eqv _,eqv _,eqv _,eqv _,eqv _,eqv _,eqv _,eqv _,eqv _,eqv _,eqv _,eqv _,eqv _] (by kernel_rfl) (by kernel_rfl) (by kernel_rfl) (by kernel_rfl)
     case hsteps=>
      refine⟨?_,?_,?_,?_,?_,?_,?_,?_,?_,?_,?_,?_,?_,trivial⟩
      all_goals
       intro ev w1 hext hb hd
       have e0:=hb 0 (by decide)
       have e1:=hb 1 (by decide)
       clear hb
       simp only [Qa,Qb,Q1,Bl.Q2,Qd]at e0 e1
       simp only [DepsE,Q1,Bl.Q2,Qc,Q3,Q4,eqv,and_true]at hd
       have hc:=(bcell hext).1
       have q1:=(hc _ 1 hl).trans c1
       have q2:=(hc _ 2 hl).trans c2
       simp only [Bl.Good,Region.wanted,if_true]
       go_simp
       first | exact⟨Below.refl _ _,rfl⟩ | exact⟨Below.refl _ _,rfl⟩
     case hmono=>exact⟨mono_eqv _,mono_eqv _,mono_eqv _,mono_eqv _,mono_eqv _,mono_eqv _,mono_eqv _,mono_eqv _,mono_eqv _,mono_eqv _,mono_eqv _,mono_eqv _,mono_eqv _,trivial⟩
     case hend=>
      intro u w1 hext hend
      simp only [EndE,Q1,Bl.Q2,Qc,Q3,Q4,eqv,true_and]at hend
      simp only [fillAct,Q5,Q6,Q7,Q8,Q9,hend]
      have HE:=Bl.hid hext
      clear hext hend
      go_wp2_with fail
      go_ret
      refine⟨?_,HE.out⟩
      rw [HvZ.out]
      rfl
   ·have Hv:Hid (V=false):=Bl.hid (HNo.out (.inr (.inr (.inl rfl))))
    clear HNo HHas Hwi Hold
    go_enter Tryz.func127,Tryz.ntmps127
    go_wp2_with fail
    refine HM.out.mono ?_
    rintro e w1 ⟨rfl,hw⟩
    subst hw
    go_wp2_with fail
    refine HO.out.mono ?_
    rintro e w1 ⟨rfl,hw⟩
    subst hw
    go_wp2_with fail
    go_ret
    exact⟨by rw [Hv.out];rfl,Below.refl _ _⟩
def SnB (sb:Nat) (ids:List Int) (x:Int) (w':World):Prop:=∃any g c,BoxC w' sb [.bool any,.int .i64 g,.int .u64 (c:Nat)]/\SeenOk any g c (if freI ids x=true then ids++[x]else ids)
def SnR (sb:Nat) (ids:List Int) (x:Int) (w w':World):Prop:=SnB sb ids x w'/\Kq (fun k=>k=sb) w w'
theorem nfresh_any (sb:Nat) (any:Bool) (g:Int) (c:Nat) (ids:List Int) (x:Int) (w:World) (hB:BoxC w sb [.bool any,.int .i64 g,.int .u64 (c:Nat)]) (h:SeenOk any g c ids):
  Calls Tryz.prog 73 #[.pointer (some ⟨sb,0,none⟩),.int .i64 x] w fun e w'=>e= .returned (.bool (freI ids x))/\SnR sb ids x w w':=by
 have HM:=Bl.hid (nmay_any x w)
 have HO:=Bl.hid (nold_any sb any g c ids x w hB h)
 have HH:=Bl.hid (nhas_any sb any g c ids x w hB h)
 have HB:=Bl.hid hB
 have Hs:=Bl.hid h
 obtain⟨O,hO⟩:∃O,O=oldI ids x:=⟨_,rfl⟩
 obtain⟨M,hM⟩:∃M,M=wi x 0 1099511627776:=⟨_,rfl⟩
 obtain⟨H,hH⟩:∃H,H=hasI ids x:=⟨_,rfl⟩
 have Heq:=Bl.hid (And.intro hO (And.intro hM hH))
 have hno:(M=false\/O=true\/H=true)->freI ids x=false:=fun q=>fre_no (by rw [<-hO,<-hM,<-hH];exact q)
 have hyes:M=true->O=false->H=false->freI ids x=true:=fun q1 q2 q3=>fre_yes (by rw [<-hM];exact q1) (by rw [<-hO];exact q2) (by rw [<-hH];exact q3)
 have Hno:=Bl.hid hno
 have Hyes:=Bl.hid hyes
 rw [<-hO]at HO
 rw [<-hM]at HM
 rw [<-hH]at HH
 have Hun:Hid (freI ids x=false->∀w1,Ext w w1->SnR sb ids x w w1):=Bl.hid (fun q w1 hE=>⟨⟨any,g,c,HB.out.ext hE,by rw [if_neg (by rw [q];decide)];exact Hs.out⟩,Kq.of_ext hE⟩)
 clear hB h hO hM hH hno hyes
 cases M
 ·have hv:=Hno.out (.inl rfl)
  have Hu:=Bl.hid (Hun.out hv)
  have Hv:=Bl.hid hv
  clear hv HO HH Hno Hyes Hun
  go_enter Tryz.func73,Tryz.ntmps73
  go_wp2_with fail
  refine HM.out.mono ?_
  rintro e w1 ⟨rfl,hw⟩
  subst hw
  go_wp2_with fail
  go_ret
  exact⟨by rw [Hv.out];rfl,Hu.out _ (Below.refl _ _)⟩
 cases O
 rotate_left
 ·have hv:=Hno.out (.inr (.inl rfl))
  have Hu:=Bl.hid (Hun.out hv)
  have Hv:=Bl.hid hv
  clear hv HH Hno Hyes Hun
  go_enter Tryz.func73,Tryz.ntmps73
  go_wp2_with fail
  refine HM.out.mono ?_
  rintro e w1 ⟨rfl,hw⟩
  subst hw
  go_wp2_with fail
  refine HO.out.mono ?_
  rintro e w1 ⟨rfl,hw⟩
  subst hw
  go_wp2_with fail
  go_ret
  exact⟨by rw [Hv.out];rfl,Hu.out _ (Below.refl _ _)⟩
 cases H
 rotate_left
 ·have hv:=Hno.out (.inr (.inr rfl))
  have Hu:=Bl.hid (Hun.out hv)
  have Hv:=Bl.hid hv
  clear hv Hno Hyes Hun
  go_enter Tryz.func73,Tryz.ntmps73
  go_wp2_with fail
  refine HM.out.mono ?_
  rintro e w1 ⟨rfl,hw⟩
  subst hw
  go_wp2_with fail
  refine HO.out.mono ?_
  rintro e w1 ⟨rfl,hw⟩
  subst hw
  go_wp2_with fail
  refine HH.out.mono ?_
  rintro e w1 ⟨rfl,hE⟩
  have HE:=Bl.hid hE
  clear hE
  go_wp2_with fail
  go_ret
  exact⟨by rw [Hv.out];rfl,Hu.out _ HE.out⟩
 have Hv:=Bl.hid (Hyes.out rfl rfl rfl)
 have Hx:=wi_iff.1 Heq.out.2.1.symm
 have HO0:=Bl.hid Heq.out.1.symm
 obtain⟨hr0,hr1⟩:=Hs.out.rng
 have hlt:=Hs.out.lt
 obtain⟨hx0,hx1⟩:=Hx
 clear Hno Hyes Hun
 by_cases hup:any=false\/g < x
 ·have hgx:0<=x - g:=by
   rcases hup with q | q
   ·have:=Hs.out.emp q
    have:=Hs.out.gr
    rw [Hs.out.emp q]at this
    have:g=0:=this
    omega
   ·omega
  obtain⟨d,hd⟩:∃d:Nat,d=min (x - g).toNat 64:=⟨_,rfl⟩
  have hS2:=Hs.out.up ⟨hx0,hx1⟩ hup hd
  obtain⟨c1,hc1⟩:∃c1:Nat,c1=(c*2^d) % 2^64:=⟨_,rfl⟩
  obtain⟨c2,hc2⟩:∃c2:Nat,c2=c1||| 1:=⟨_,rfl⟩
  rw [<-hc1,<-hc2]at hS2
  have HS2:=Bl.hid hS2
  have hd2:(min (x - g) 64).toNat=d:=by rw [hd];omega
  have hc1l:c1 < 2^64:=by rw [hc1];exact Nat.mod_lt _ (by decide)
  have hor:bits .or .u64 (IntKind.u64.wrap ((c:Int)*2^(min (x - g) 64).toNat)) 1=(c2:Int):=by
   rw [hd2,shl_wrap,<-hc1,hc2]
   exact or_nat c1 1 hc1l (by decide)
  have hws:IntKind.i64.wrap (x - g)=x - g:=by rw [IntKind.wrap_i64];omega
  have hlb:=HB.out.lt
  have Hcc:Hid (∀w1,Ext w w1->w1.cell? ⟨sb,0,none⟩=some (.bool any)/\w1.cell? ⟨sb,1,none⟩=some (.int .i64 g)/\w1.cell? ⟨sb,2,none⟩=some (.int .u64 (c:Nat))):=Bl.hid fun w1 hE=>⟨(HB.out.ext hE).cell rfl,(HB.out.ext hE).cell rfl,(HB.out.ext hE).cell rfl⟩
  have hup2:(any=true->decide (g < x)=true):=fun q=>by
   rcases hup with q2 | q2
   ·rw [q]at q2;cases q2
   ·exact decide_eq_true q2
  clear hS2 hd hd2 hc1 hc2 hc1l hup
  go_enter Tryz.func73,Tryz.ntmps73
  go_wp2_with fail
  refine HM.out.mono ?_
  rintro e w1 ⟨rfl,hw⟩
  subst hw
  go_wp2_with fail
  refine HO.out.mono ?_
  rintro e w1 ⟨rfl,hw⟩
  subst hw
  go_wp2_with fail
  refine HH.out.mono ?_
  rintro e w1 ⟨rfl,hE⟩
  obtain⟨q0,q1,q2⟩:=Hcc.out w1 hE
  have HE:=Bl.hid hE
  have Hkey:Hid (∀w4,BoxC w4 sb [.bool any,.int .i64 g,.int .u64 (c:Nat)]->Ext w1 w4->SnR sb ids x w (((w4.setCell ⟨sb,2,none⟩ (.int .u64 (c2:Nat))).setCell ⟨sb,0,none⟩ (.bool true)).setCell ⟨sb,1,none⟩ (.int .i64 x))):=Bl.hid fun w4 hb4 h4=>by
   refine⟨⟨true,x,c2,?_,?_⟩,?_⟩
   ·exact((hb4.put (i:=2) (show 2 < 3 by decide) (.int .u64 (c2:Nat))).put (i:=0) (show 0 < 3 by decide) (.bool true)).put (i:=1) (show 1 < 3 by decide) (.int .i64 x)
   ·rw [if_pos Hv.out];exact HS2.out
   ·exact(((Kq.of_ext (HE.out.trans h4)).setCell (Q:=fun k=>k=sb) ⟨sb,2,none⟩ rfl _).setCell ⟨sb,0,none⟩ rfl _).setCell ⟨sb,1,none⟩ rfl _
  have hlb1:=(HB.out.ext hE).lt
  have HB1:=Bl.hid (HB.out.ext hE)
  clear hE hlb HM HO HH
  cases any
  ·go_wp2_with fail
   apply wp_region_ev 16 [33,34,35,36,37,38,39,40,41,42,43,44,45,46,47,48] [eqv _,eqv _,eqv _,eqv _,eqv _,eqv _,eqv _,eqv _,eqv _,eqv _,eqv _,eqv _,eqv _,eqv _,eqv _,eqv _] (by kernel_rfl) (by kernel_rfl) (by kernel_rfl) (by kernel_rfl)
   case hsteps=>
    refine⟨?_,?_,?_,?_,?_,?_,?_,?_,?_,?_,?_,?_,?_,?_,?_,?_,trivial⟩
    all_goals
     intro ev w1 hext hb hd
     have e0:=hb 0 (by decide)
     have e1:=hb 1 (by decide)
     clear hb
     simp only [Qa,Qb,Q1,Bl.Q2,Qd]at e0 e1
     simp only [DepsE,Q1,Bl.Q2,Qc,Q3,Q4,eqv,and_true]at hd
     have hc:=(bcell hext).1
     have r1:=(hc _ 1 hlb1).trans q1
     have r2:=(hc _ 2 hlb1).trans q2
     simp only [Bl.Good,Region.wanted,if_true]
     go_simp
     first | exact⟨Below.refl _ _,rfl⟩ | exact⟨Below.refl _ _,rfl⟩
   case hmono=>exact⟨mono_eqv _,mono_eqv _,mono_eqv _,mono_eqv _,mono_eqv _,mono_eqv _,mono_eqv _,mono_eqv _,mono_eqv _,mono_eqv _,mono_eqv _,mono_eqv _,mono_eqv _,mono_eqv _,mono_eqv _,mono_eqv _,trivial⟩
   case hend=>
    intro u w1 hext hend
    simp only [EndE,Q1,Bl.Q2,Qc,Q3,Q4,eqv,true_and]at hend
    simp only [fillAct,Q5,Q6,Q7,Q8,Q9,hend]
    have HB4:=Bl.hid (HB1.out.ext hext)
    have HK4:=Bl.hid (Hkey.out w1 HB4.out hext)
    have p0:=HB4.out.cell (i:=0) rfl
    have p1:=HB4.out.cell (i:=1) rfl
    have p2:=HB4.out.cell (i:=2) rfl
    have f0:=HB4.out.fz (i:=0) (show 0 < 3 by decide)
    have f1:=HB4.out.fz (i:=1) (show 1 < 3 by decide)
    have f2:=HB4.out.fz (i:=2) (show 2 < 3 by decide)
    clear hext hend q0 q1 hor
    go_wp2_with fail
    go_ret
    exact⟨by rw [Hv.out];rfl,HK4.out⟩
  ·have hgx2:=hup2 rfl
   go_wp2_with fail
   apply wp_region_ev 16 [33,34,35,36,37,38,39,40,41,42,43,44,45,46,47,48] [eqv _,eqv _,eqv _,eqv _,eqv _,eqv _,eqv _,eqv _,eqv _,eqv _,eqv _,eqv _,eqv _,eqv _,eqv _,eqv _] (by kernel_rfl) (by kernel_rfl) (by kernel_rfl) (by kernel_rfl)
   case hsteps=>
    refine⟨?_,?_,?_,?_,?_,?_,?_,?_,?_,?_,?_,?_,?_,?_,?_,?_,trivial⟩
    all_goals
     intro ev w1 hext hb hd
     have e0:=hb 0 (by decide)
     have e1:=hb 1 (by decide)
     clear hb
     simp only [Qa,Qb,Q1,Bl.Q2,Qd]at e0 e1
     simp only [DepsE,Q1,Bl.Q2,Qc,Q3,Q4,eqv,and_true]at hd
     have hc:=(bcell hext).1
     have r1:=(hc _ 1 hlb1).trans q1
     have r2:=(hc _ 2 hlb1).trans q2
     simp only [Bl.Good,Region.wanted,if_true]
     go_simp
     first | exact⟨Below.refl _ _,rfl⟩ | exact⟨Below.refl _ _,rfl⟩
   case hmono=>exact⟨mono_eqv _,mono_eqv _,mono_eqv _,mono_eqv _,mono_eqv _,mono_eqv _,mono_eqv _,mono_eqv _,mono_eqv _,mono_eqv _,mono_eqv _,mono_eqv _,mono_eqv _,mono_eqv _,mono_eqv _,mono_eqv _,trivial⟩
   case hend=>
    intro u w1 hext hend
    simp only [EndE,Q1,Bl.Q2,Qc,Q3,Q4,eqv,true_and]at hend
    simp only [fillAct,Q5,Q6,Q7,Q8,Q9,hend]
    have HB4:=Bl.hid (HB1.out.ext hext)
    have HK4:=Bl.hid (Hkey.out w1 HB4.out hext)
    have p0:=HB4.out.cell (i:=0) rfl
    have p1:=HB4.out.cell (i:=1) rfl
    have p2:=HB4.out.cell (i:=2) rfl
    have f0:=HB4.out.fz (i:=0) (show 0 < 3 by decide)
    have f1:=HB4.out.fz (i:=1) (show 1 < 3 by decide)
    have f2:=HB4.out.fz (i:=2) (show 2 < 3 by decide)
    clear hext hend q0 q1 hor
    go_wp2_with fail
    go_ret
    exact⟨by rw [Hv.out];rfl,HK4.out⟩
 ·have hany:any=true:=by
   cases any
   ·exact absurd (.inl rfl) hup
   ·rfl
  have hgx:x<=g:=by
   rcases Int.lt_or_le g x with q | q
   ·exact absurd (.inr q) hup
   ·exact q
  subst hany
  have ho:=Hs.out.old x
  rw [HO0.out]at ho
  have ho2:¬x<=g - 64:=by simpa using ho.symm
  have hS2:=Hs.out.add ⟨hx0,hx1⟩ rfl HO0.out hgx
  obtain⟨k,hk⟩:=Int.eq_ofNat_of_zero_le (show 0<=g - x by omega)
  rw [hk,Int.toNat_natCast]at hS2
  obtain⟨p,hp⟩:∃p:Nat,p=2^k:=⟨_,rfl⟩
  obtain⟨c2,hc2⟩:∃c2:Nat,c2=c||| p:=⟨_,rfl⟩
  rw [<-hp,<-hc2]at hS2
  have HS2:=Bl.hid hS2
  have hk64:k < 64:=by omega
  have hpl:p < 2^64:=by rw [hp];exact Nat.pow_lt_pow_right (by decide) hk64
  have hwp:IntKind.u64.wrap (2^k)=(p:Int):=by
   have h:=shl_wrap 1 k
   have e:((1:Nat):Int)*2^k=2^k:=by simp
   rw [e,Nat.one_mul,<-hp,Nat.mod_eq_of_lt hpl]at h
   exact h
  have hor:bits .or .u64 (c:Int) (p:Int)=(c2:Int):=by rw [hc2];exact or_nat c p hlt hpl
  have hwk:IntKind.i64.wrap (k:Int)=(k:Int):=by rw [IntKind.wrap_i64];omega
  obtain rfl:x=g - (k:Int):=by omega
  have hk0:g - (g - (k:Int))=(k:Int):=by omega
  have hgb:decide (g < g - (k:Int))=false:=decide_eq_false (by omega)
  have hlb:=HB.out.lt
  have Hcc:Hid (∀w1,Ext w w1->w1.cell? ⟨sb,0,none⟩=some (.bool true)/\w1.cell? ⟨sb,1,none⟩=some (.int .i64 g)/\w1.cell? ⟨sb,2,none⟩=some (.int .u64 (c:Nat))):=Bl.hid fun w1 hE=>⟨(HB.out.ext hE).cell rfl,(HB.out.ext hE).cell rfl,(HB.out.ext hE).cell rfl⟩
  clear hS2 hc2 hp hpl ho hk
  go_enter Tryz.func73,Tryz.ntmps73
  go_wp2_with fail
  refine HM.out.mono ?_
  rintro e w1 ⟨rfl,hw⟩
  subst hw
  go_wp2_with fail
  refine HO.out.mono ?_
  rintro e w1 ⟨rfl,hw⟩
  subst hw
  go_wp2_with fail
  refine HH.out.mono ?_
  rintro e w1 ⟨rfl,hE⟩
  obtain⟨q0,q1,q2⟩:=Hcc.out w1 hE
  have HE:=Bl.hid hE
  have Hkey:Hid (∀w4,BoxC w4 sb [.bool true,.int .i64 g,.int .u64 (c:Nat)]->Ext w1 w4->SnR sb ids (g - (k:Int)) w (w4.setCell ⟨sb,2,none⟩ (.int .u64 (c2:Nat)))):=Bl.hid fun w4 hb4 h4=>by
   refine⟨⟨true,g,c2,hb4.put (i:=2) (show 2 < 3 by decide) (.int .u64 (c2:Nat)),?_⟩,?_⟩
   ·rw [if_pos Hv.out];exact HS2.out
   ·exact(Kq.of_ext (HE.out.trans h4)).setCell (Q:=fun k=>k=sb) ⟨sb,2,none⟩ rfl _
  have hlb1:=(HB.out.ext hE).lt
  have HB1:=Bl.hid (HB.out.ext hE)
  clear hE hlb HM HO HH
  go_wp2_with fail
  apply wp_region_ev 14 [56,57,58,59,60,61,62,63,64,65,66,67,68,69] [eqv _,eqv _,eqv _,eqv _,eqv _,eqv _,eqv _,eqv _,eqv _,eqv _,eqv _,eqv _,eqv _,eqv _] (by kernel_rfl) (by kernel_rfl) (by kernel_rfl) (by kernel_rfl)
  case hsteps=>
   refine⟨?_,?_,?_,?_,?_,?_,?_,?_,?_,?_,?_,?_,?_,?_,trivial⟩
   all_goals
    intro ev w1 hext hb hd
    have e0:=hb 0 (by decide)
    have e1:=hb 1 (by decide)
    clear hb
    simp only [Qa,Qb,Q1,Bl.Q2,Qd]at e0 e1
    simp only [DepsE,Q1,Bl.Q2,Qc,Q3,Q4,eqv,and_true]at hd
    have hc:=(bcell hext).1
    have r1:=(hc _ 1 hlb1).trans q1
    have r2:=(hc _ 2 hlb1).trans q2
    simp only [Bl.Good,Region.wanted,if_true]
    go_simp
    first | exact⟨Below.refl _ _,rfl⟩ | exact⟨Below.refl _ _,rfl⟩
  case hmono=>exact⟨mono_eqv _,mono_eqv _,mono_eqv _,mono_eqv _,mono_eqv _,mono_eqv _,mono_eqv _,mono_eqv _,mono_eqv _,mono_eqv _,mono_eqv _,mono_eqv _,mono_eqv _,mono_eqv _,trivial⟩
  case hend=>
   intro u w1 hext hend
   simp only [EndE,Q1,Bl.Q2,Qc,Q3,Q4,eqv,true_and]at hend
   simp only [fillAct,Q5,Q6,Q7,Q8,Q9,hend]
   have HB4:=Bl.hid (HB1.out.ext hext)
   have HK4:=Bl.hid (Hkey.out w1 HB4.out hext)
   have p2:=HB4.out.cell (i:=2) rfl
   have f2:=HB4.out.fz (i:=2) (show 2 < 3 by decide)
   clear hext hend q0 q1 hor
   go_wp2_with fail
   go_ret
   exact⟨by rw [Hv.out];rfl,HK4.out⟩
end Go.Proofs.YtglenbikdahgjaaGreatDoor
