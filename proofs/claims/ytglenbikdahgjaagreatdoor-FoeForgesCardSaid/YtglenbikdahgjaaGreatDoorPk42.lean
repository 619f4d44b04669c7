/- Walk of the law FoeForges. -/
import Derived.Test.YtglenbikdahgjaaGreatDoorPk28
import Derived.Test.YtglenbikdahgjaaGreatDoorPk36
import Derived.Test.YtglenbikdahgjaaGreatDoorPk37
import Derived.Test.YtglenbikdahgjaaGreatDoorPk39
import Derived.Test.YtglenbikdahgjaaGreatDoorPk40
import Derived.Test.YtglenbikdahgjaaGreatDoorPk24
import Derived.Test.YtglenbikdahgjaaGreatDoorPk14
import Derived.Test.YtglenbikdahgjaaGreatDoorPk41
import Derived.Test.YtglenbikdahgjaaGreatDoorPk04
import Derived.Test.YtglenbikdahgjaaGreatDoorPk00
import Derived.Test.YtglenbikdahgjaaGreatDoorPk02
set_option maxRecDepth 100000
set_option maxHeartbeats 16000000
namespace Go.Proofs.YtglenbikdahgjaaGreatDoor
open Go Go.RowKit Go.Proofs Go.Proofs.Bl
theorem foeforges_all (v0 v1 v2:Value) (lq:Bl.LT) (bs:List (List Int)) (ot:List Int) (w:World) (S:List Nat) (a:Nat->Addr) (hR:Rdss w v0 bs) (hby:∀p∈bs,Byt p) (hL:LtV w v1 lq) (hX:Rd w .u8 v2 ot) (hxb:Byt ot) (hg:GlobR w) (hw:GlobW w) (he:Errs S a w) (s1:1∈S) (s3:3∈S) (s4:4∈S) (s7:7∈S) (s8:8∈S) (s15:15∈S):
  Calls Tryz.prog 3 #[v0,v1,v2] w fun e w'=>e= .returned (.bool true)/\Ext w w':=by
 have hR2:=hR
 obtain⟨ws,hv,hwl,hws⟩:=hR2
 obtain⟨p,c,hvf,_,_⟩:=hv.form
 subst hvf
 obtain⟨po,co,hvx,hx1,hx2⟩:=hX.form
 subst hvx
 have HLv:=Bl.hid hL
 obtain⟨cs1,pa,sa,ba,L0,rfl,ha⟩:=hL
 obtain rfl:=ha.eq
 have HPl:=Bl.hid ha.pl
 obtain⟨ppa,cpa,hpa,_,_⟩:=ha.pl.form
 obtain⟨np,hnp⟩:∃np,np=lq.places.length:=⟨_,rfl⟩
 rw [<-hnp]at hpa
 subst hpa
 have HR:=Bl.hid (And.intro hR hby)
 have Hwl:=Bl.hid hwl
 have Hws:=Bl.hid hws
 have HX:=Bl.hid (And.intro hX hxb)
 have Hg:=Bl.hid hg
 have Hw:=Bl.hid hw
 have He:=Bl.hid he
 have HSe:=Bl.hid (And.intro s1 (And.intro s3 (And.intro s4 (And.intro s7 s8))))
 have H15:=Bl.hid s15
 obtain⟨n,hn⟩:∃n,n=bs.length:=⟨_,rfl⟩
 obtain⟨no,hno⟩:∃n,n=ot.length:=⟨_,rfl⟩
 have Hn:=Bl.hid (And.intro hn (And.intro hno hnp))
 have Hv:=Bl.hid hv
 rw [<-hn]at Hv⊢
 rw [<-hno]at hx1⊢
 obtain⟨W0,hW0⟩:∃W,W=w.alloc (.cells (cL lq (.slice ppa np cpa) sa ba).toArray 26):=⟨_,rfl⟩
 have HE0:Hid (Ext w W0):=Bl.hid (by rw [hW0];exact ext_alloc _ _)
 have HT0:Hid (BoxC W0 w.heap.size (cL lq (.slice ppa np cpa) sa ba)):=Bl.hid (by rw [hW0];exact BoxC.box w 26 (cL_ne _ _ _ _))
 obtain⟨T0,hT0⟩:∃z,z=w.heap.size:=⟨_,rfl⟩
 rw [<-hT0]at HT0
 have HTw:=Bl.hid hT0
 unfold maxLen at hx2
 unfold cL at hW0
 clear hR hby hv hwl hws hX hxb hg hw he s1 s3 s4 s7 s8 s15 hn hno hnp ha
 show Calls Tryz.prog 3 #[.slice p n c,.agg #[.int .i64 lq.kind,.int .i64 lq.id,.int .i64 lq.obj,.slice ppa np cpa,sa,.int .i64 lq.frm,.int .i64 lq.cnt,ba,.int .i64 lq.code],.slice po no co] w _
 go_enter Tryz.func3,Tryz.ntmps3
 go_wp2_with fail
 rw [<-hW0,<-hT0]
 clear hW0 hT0
 refine(aliveA W0 (Hw.out.ext HE0.out)).mono ?_
 rintro e w1 ⟨rfl,hE1⟩
 have HE1:=Bl.hid (HE0.out.trans hE1)
 have HT1:=Bl.hid (HT0.out.ext hE1)
 clear hE1 HT0 HE0
 go_wp2_with fail
 refine(long_any _ bs w1 40 (by rw [Hn.out.1];exact Rdss.ext HR.out.1 HE1.out)).mono ?_
 rintro e w2 ⟨hw2,hlo⟩
 replace hw2:=hw2.symm
 subst hw2
 rcases hlo with rfl | ⟨rfl,hl40,hlp⟩
 ·go_wp2_with fail
  go_ret
  exact⟨rfl,HE1.out⟩
 have Hl40:Hid (n<=40/\∀p∈bs,p.length<=200):=Bl.hid ⟨by rw [Hn.out.1];omega,hlp⟩
 clear hl40 hlp
 have Hld:=Bl.hid (HT1.out.load (P:=Tryz.prog) Tryz.underlying26 rfl (by kernel_rfl))
 go_wp2_with (with_reducible refine stop_loadg (ty:=26) ?_)
 refine go_on ?_
 refine wpL_loadg rfl rfl Hld.out ?_
 clear Hld
 go_wp2_with fail
 refine(long22_any _ lq w1 (HLv.out.ext HE1.out)).mono ?_
 rintro e w2 ⟨hor,hE2⟩
 have HE2:=Bl.hid (HE1.out.trans hE2)
 have HT2:=Bl.hid (HT1.out.ext hE2)
 clear hE2 HT1 HE1
 rcases hor with rfl | ⟨rfl,hlg⟩
 ·go_wp2_with fail
  go_ret
  exact⟨rfl,HE2.out⟩
 have Hlg:=Bl.hid hlg
 clear hlg
 by_cases h60:(60:Int) < (no:Int)
 ·go_wp2_with fail
  go_ret
  exact⟨rfl,HE2.out⟩
 have Hno:Hid (no<=60):=Bl.hid (by omega)
 go_wp2_with fail
 refine(snew_any w2).mono ?_
 rintro e v1 ⟨b,m,sb,rfl,hb1,hb2,hb3,hb4,hb5,hb6,-,hB,hM,hSb,hV1⟩
 have HV2s:(v1.alloc (.cells #[.slice none 0 0,.slice none 0 0] 38)).heap.size=v1.heap.size+1:=World.size_alloc _ _
 obtain⟨V2,hV2⟩:∃W,W=v1.alloc (.cells #[.slice none 0 0,.slice none 0 0] 38):=⟨_,rfl⟩
 have HV2e:Hid (Ext v1 V2):=Bl.hid (by rw [hV2];exact ext_alloc _ _)
 have HBd:Hid (BoxC V2 v1.heap.size [.slice none 0 0,.slice none 0 0]):=Bl.hid (by rw [hV2];exact BoxC.box (cs:=[.slice none 0 0,.slice none 0 0]) v1 38 (fun q=>by cases q))
 obtain⟨bd,hbd⟩:∃z,z=v1.heap.size:=⟨_,rfl⟩
 rw [<-hbd]at HBd HV2s
 rw [<-hV2]at HV2s
 have HSv:Hid (SvX (fun i=>i=m\/i=sb\/i=bd) (fun i=>i=m\/i=sb) V2 b sh0):=Bl.hid ((SvX.new1 hB hM hSb hb4 hb5 hb6).ext HV2e.out)
 have Hbs:Hid (w2.heap.size<=b/\w2.heap.size<=m/\w2.heap.size<=sb/\b < bd/\m < bd/\sb < bd/\bd < V2.heap.size/\w.heap.size<=w2.heap.size/\V2.heap.size=bd+1):=Bl.hid (by
  have:=HV2s
  have:=HE2.out.size
  have:=hB.lt
  have:=hM.lt
  have:=hSb.lt
  have:=HBd.out.lt
  omega)
 have HEv:Hid (Ext w V2):=Bl.hid ((HE2.out.trans hV1).trans HV2e.out)
 have HEvk:Hid (Ext w2 V2):=Bl.hid (hV1.trans HV2e.out)
 have HDv:Hid (BoxC V2 bd [.slice none 0 0,.slice none 0 0]):=HBd
 clear hb1 hb2 hb3 hb4 hb5 hb6 hB hM hSb hV1 HV2e HBd HV2s
 obtain⟨hBL9,hEL9⟩:=BoxC.fresh (cs:=cL ⟨1,0,0,[],[],0,0,bs,0⟩ nilV nilV (.slice p n c)) V2 26 zL rfl (cL_ne _ _ _ _)
 have Hstk:=Bl.hid (fresh_store (P:=Tryz.prog) (cs:=cL ⟨1,0,0,[],[],0,0,bs,0⟩ nilV nilV (.slice p n c)) V2 26 zL rfl (cL_one ⟨_,_,_,rfl⟩ ⟨_,_,_,rfl⟩ ⟨_,_,_,rfl⟩) (ty:=26) (by kernel_rfl))
 go_wp2_with (with_reducible refine stop_store (ty:=26) ?_)
 refine go_on ?_
 rw [<-hV2,<-hbd,show bd+1=V2.heap.size from Hbs.out.2.2.2.2.2.2.2.2.symm]
 clear hV2 hbd
 refine wpL_store0 rfl rfl Hstk.out ?_
 obtain⟨V3,hV3⟩:∃W,W=(V2.alloc (.cells zL 26)).setCells V2.heap.size 0 (cL ⟨1,0,0,[],[],0,0,bs,0⟩ nilV nilV (.slice p n c)):=⟨_,rfl⟩
 obtain⟨L9,hL9⟩:∃W,W=V2.heap.size:=⟨_,rfl⟩
 rw [<-hV3]at hBL9 hEL9⊢
 rw [<-hL9]at hBL9⊢
 have HBL9:=Bl.hid hBL9
 have HEL9:=Bl.hid hEL9
 have HL9:=Bl.hid hL9
 clear hBL9 hEL9 hV3 hL9 Hstk
 have HE3:Hid (Ext w V3):=Bl.hid (HEv.out.trans HEL9.out)
 have HLc:Hid (LtC w (cL ⟨1,0,0,[],[],0,0,bs,0⟩ nilV nilV (.slice p n c)) ⟨1,0,0,[],[],0,0,bs,0⟩ nilV nilV (.slice p n c) []):=Bl.hid ⟨rfl,Rd.nil _ _,RdS.nil _,rfl,by rw [Hn.out.1];exact HR.out.1,HR.out.2⟩
 have HT3:=Bl.hid (HT2.out.ext (HEvk.out.trans HEL9.out))
 have HX0:Hid (T0 < w2.heap.size):=Bl.hid HT2.out.lt
 have HD3:=Bl.hid (HDv.out.ext HEL9.out)
 have HS3:=Bl.hid (HSv.out.ext HEL9.out)
 have HL3:Hid (bd < L9/\L9 < V3.heap.size/\V2.heap.size<=V3.heap.size):=Bl.hid (by have:=HBL9.out.lt;have:=HL9.out;have:=Hbs.out;have:=HEL9.out.size;omega)
 obtain⟨l,hl⟩:∃l:Bl.LT,l=⟨1,0,0,[],[],0,0,bs,0⟩:=⟨_,rfl⟩
 rw [<-hl]at HLc HBL9
 have Hl:=Bl.hid hl
 clear HSv HDv HEv HEvk HEL9 hl
 have Hldk:=Bl.hid (HBL9.out.load (P:=Tryz.prog) Tryz.underlying26 rfl (by kernel_rfl))
 go_wp2_with (with_reducible refine stop_load (ty:=26) ?_)
 refine go_on ?_
 refine wpL_load rfl Hldk.out ?_
 clear Hldk
 go_wp2_with fail
 refine(shan_one b (fun i=>i=m\/i=sb\/i=bd) (fun i=>i=m\/i=sb) sh0 _ l V3 S a HS3.out ShOk.zero (fun i q=>q.imp id .inl) (fun i q=>by have:=Hbs.out;have:=HL3.out;omega) (HLc.out.ltw1 HE3.out fun i q=>by have:=Hbs.out;omega) (Hg.out.ext HE3.out).s (He.out.ext HE3.out) HSe.out.1 HSe.out.2.1 HSe.out.2.2.1 HSe.out.2.2.2.1 HSe.out.2.2.2.2 (by rw [Hl.out])).mono ?_
 rintro e v4 ⟨q1,q2,q3,q4,rfl,_,hGo⟩
 have hK4:=hGo.1
 have HE4:Hid (Ext w v4):=Bl.hid (HE3.out.trans' (N:=w.heap.size) (hK4.mono fun i _ q=>by have:=Hbs.out;omega) (Nat.le_refl _))
 have HB4:=Bl.hid (hK4.box (fun q=>by have:=Hbs.out;have:=HL3.out;omega) HBL9.out)
 have HT4:=Bl.hid (hK4.box (fun q=>by have:=Hbs.out;have:=HX0.out;omega) HT3.out)
 have HD4:=Bl.hid (hK4.box (fun q=>by have:=Hbs.out;omega) HD3.out)
 have HW4:Hid (V3.heap.size<=v4.heap.size):=Bl.hid hK4.size
 have HGo:=Bl.hid hGo
 clear hGo hK4 HBL9 HT3 HD3 HS3
 have Hldk:=Bl.hid (HB4.out.load (P:=Tryz.prog) Tryz.underlying26 rfl (by kernel_rfl))
 go_wp2_with (with_reducible refine stop_load (ty:=26) ?_)
 refine go_on ?_
 refine wpL_load rfl Hldk.out ?_
 clear Hldk
 go_wp2_with fail
 have HFl:Hid (LtF (fun i=>i < w.heap.size) v4 l nilV nilV (.slice p n c) []):=Bl.hid ((LtF.of_ltc HLc.out).kept fun i hi _=>⟨hi,HE4.out.block i hi⟩)
 refine(of22_fr (fun i=>i < w.heap.size) l nilV nilV (.slice p n c) [] v4 HFl.out (by rw [Hl.out];exact Nat.zero_le _) (by rw [Hl.out];intro s hs;cases hs)).mono ?_
 rintro e v5 ⟨vs5,L5,rfl,hF5,hE5⟩
 have HE5:Hid (Ext w v5):=Bl.hid (HE4.out.trans hE5)
 have HT5:=Bl.hid (HT4.out.ext hE5)
 have HF5:=Bl.hid hF5
 have HD5:Hid (DvX (fun i=>i < w.heap.size\/v4.heap.size<=i) v5 bd sh0):=Bl.hid (DvX.new1 (HD4.out.ext hE5) (fun q=>by have:=Hbs.out;have:=HL3.out;have:=HW4.out;omega))
 have HE45:=Bl.hid hE5
 clear hF5 hE5 HT4 HD4 HB4
 go_wp2_with fail
 refine(mhan_one (fun i=>i < w.heap.size\/v4.heap.size<=i) bd sh0 l _ _ _ _ v5 HD5.out ShOk.zero HF5.out (Nat.zero_le _) (Hg.out.ext HE5.out) (by rw [Hl.out])).mono ?_
 rintro e v6 ⟨r1,r2,r3,r4,rfl,_,hD6,hK6,_⟩
 obtain⟨s1,hs1⟩:∃s1,s1=hanS sh0 l:=⟨_,rfl⟩
 rw [<-hs1]at hD6
 have HGo1:=HGo
 rw [<-hs1]at HGo1
 have HOk:Hid (ShOk s1):=Bl.hid (by rw [hs1,Hl.out];exact ShOk.zero.han HR.out.2)
 have HEz:Hid (Ext w v6):=Bl.hid (HE5.out.trans' (N:=w.heap.size) (hK6.mono fun i _ q=>by have:=Hbs.out;omega) (Nat.le_refl _))
 have HTz:=Bl.hid (hK6.box (fun q=>by have:=Hbs.out;have:=HX0.out;omega) HT5.out)
 have HDz:Hid (DvX (fun i=>i < w.heap.size\/v4.heap.size<=i) v6 bd s1):=Bl.hid (hD6.mono (fun i q _=>by have:=HE45.out.size;omega) (fun q=>by have:=Hbs.out;have:=HL3.out;have:=HW4.out;omega))
 have HSz:Hid (∃N Q,SvX N Q v6 b s1/\(∀i,Q i->N i)/\(∀i,N i->i < v6.heap.size)/\(∀i,Q i->w2.heap.size<=i/\i < v4.heap.size/\i≠bd)):=Bl.hid (by
  obtain⟨_,N',Q',⟨m',sb',mp',h1⟩,h2,h3,h4,h5,h6,h7⟩:=HGo1.out
  have hq:∀i,Q' i->w2.heap.size<=i/\i < v4.heap.size/\i≠bd:=fun i q=>by
   have a1:=h7 i (h5 i q)
   rcases h6 i q with q | q
   ·have:=Hbs.out;omega
   ·have:=Hbs.out;have:=HL3.out;omega
  refine⟨N',Q',⟨m',sb',mp',(h1.ext HE45.out).kept hK6 (fun i q=>⟨?_,fun r=>(hq i r).2.2 q,?_⟩) fun i q=> .inl q⟩,h5,fun i q=> ?_,hq⟩
  ·rw [show i=bd from q];exact h3 bd (.inr (.inr rfl))
  ·rw [show i=bd from q];have:=Hbs.out;omega
  ·have:=h7 i q;have:=HE45.out.size;have:=hK6.size;omega)
 have Hs1:=Bl.hid hs1
 clear hD6 hK6 hs1 HGo HGo1 HT5 HF5 HD5 HE45 HFl
 have HRx:Hid (∀w2,Ext w w2->Rd w2 .u8 (.slice po no co) ot):=Bl.hid fun w2 h=>by rw [Hn.out.2.1];exact HX.out.1.ext h
 have Hldk:=Bl.hid (HTz.out.load (P:=Tryz.prog) Tryz.underlying26 rfl (by kernel_rfl))
 go_wp2_with (with_reducible refine stop_load (ty:=26) ?_)
 refine go_on ?_
 refine wpL_load rfl Hldk.out ?_
 clear Hldk
 go_wp2_with fail
 obtain⟨N,Q,hSz,hNQ,hNl,hQb⟩:=HSz.out
 have HSz2:=Bl.hid hSz
 clear hSz hNQ hNl hQb HSz
 refine(fforge_any b N Q s1 _ lq _ ot v6 S a HSz2.out HOk.out (HLv.out.ext HEz.out) (HRx.out _ HEz.out) HX.out.2 (by rw [<-Hn.out.2.1];have:=Hno.out;omega) (Hg.out.ext HEz.out).s (He.out.ext HEz.out) HSe.out.1 HSe.out.2.1 HSe.out.2.2.1 HSe.out.2.2.2.1 HSe.out.2.2.2.2).mono ?_
 rintro e w8 hFg
 obtain⟨xp,xs,xb,X8,rfl,hL8,hE8⟩:=hFg
 obtain⟨x,hx⟩:∃z,z=(forL s1 lq ot).1:=⟨_,rfl⟩
 obtain⟨iz,hiz⟩:∃z,z=(forL s1 lq ot).2:=⟨_,rfl⟩
 rw [<-hx]at hL8⊢
 rw [<-hiz]
 have Hx:=Bl.hid (And.intro hx hiz)
 have HL8:=Bl.hid hL8
 have HE8k:=Bl.hid hE8
 have HE8:=Bl.hid (HEz.out.trans hE8)
 have HT8:=Bl.hid (HTz.out.ext hE8)
 clear hx hiz hL8 hE8 HTz
 obtain⟨hBA9,hEA9⟩:=BoxC.fresh (cs:=cL x xp xs xb) w8 26 zL rfl (cL_ne _ _ _ _)
 have Hstk:=Bl.hid (fresh_store (P:=Tryz.prog) (cs:=cL x xp xs xb) w8 26 zL rfl HL8.out.ltc.one (ty:=26) (by kernel_rfl))
 go_wp2_with (with_reducible refine stop_store (ty:=26) ?_)
 refine go_on ?_
 refine wpL_store0 rfl rfl Hstk.out ?_
 obtain⟨V9,hV9⟩:∃W,W=(w8.alloc (.cells zL 26)).setCells w8.heap.size 0 (cL x xp xs xb):=⟨_,rfl⟩
 obtain⟨A9,hA9⟩:∃W,W=w8.heap.size:=⟨_,rfl⟩
 rw [<-hV9]at hBA9 hEA9⊢
 rw [<-hA9]at hBA9⊢
 have HBA9:=Bl.hid hBA9
 have HEA9:=Bl.hid hEA9
 have HA9:=Bl.hid hA9
 clear hBA9 hEA9 hV9 hA9 Hstk
 have HE9k:=Bl.hid (HE8k.out.trans HEA9.out)
 have HE9:=Bl.hid (HE8.out.trans HEA9.out)
 have HT9:=Bl.hid (HT8.out.ext HEA9.out)
 have HX9:=Bl.hid (HL8.out.ltc.ext HEA9.out)
 clear HL8 HE8k HE8 HT8 HEA9
 have Hldk:=Bl.hid (HT9.out.load (P:=Tryz.prog) Tryz.underlying26 rfl (by kernel_rfl))
 go_wp2_with (with_reducible refine stop_load (ty:=26) ?_)
 refine go_on ?_
 refine wpL_load rfl Hldk.out ?_
 clear Hldk
 go_wp2_with fail
 refine(of22_any _ lq V9 (HLv.out.ext HE9.out) (by have:=Hlg.out.sh;omega) (fun s hs=>by have:=(Hlg.out.st s hs).2;omega)).mono ?_
 rintro e w10 ⟨v10,rfl,hL10,hE10⟩
 have HE10:=Bl.hid (HE9.out.trans hE10)
 have HE10k:=Bl.hid (HE9k.out.trans hE10)
 have HE10b:=Bl.hid hE10
 have HL10:=Bl.hid hL10
 clear hL10 hE10
 go_wp2_with fail
 have HD10:Hid (DvX (fun i=>(i < w.heap.size\/v4.heap.size<=i)/\i < w10.heap.size) w10 bd s1):=Bl.hid ((HDz.out.ext HE10k.out).mono (fun i q l=>⟨q,l⟩) fun q=>HDz.out.nb q.1)
 refine(mforge_any (fun i=>(i < w.heap.size\/v4.heap.size<=i)/\i < w10.heap.size) bd s1 v10 lq _ ot w10 HD10.out (fun i q=>q.2) HOk.out HL10.out (HRx.out _ HE10.out) HX.out.2 (by rw [<-Hn.out.2.1];have:=Hno.out;omega) (Hg.out.ext HE10.out)).mono ?_
 rintro e w11 hFg
 obtain⟨yp,ys,yb,Y11,rfl,hL11,hE11⟩:=hFg
 rw [<-Hx.out.1]at hL11⊢
 rw [<-Hx.out.2]
 have HL11:=Bl.hid hL11
 have HE11k:=Bl.hid hE11
 clear hL11 hE11 HD10 HL10
 obtain⟨hBA12,hEA12⟩:=BoxC.fresh (cs:=cL x yp ys yb) w11 43 zL rfl (cL_ne _ _ _ _)
 have Hstk:=Bl.hid (fresh_store (P:=Tryz.prog) (cs:=cL x yp ys yb) w11 43 zL rfl HL11.out.ltc.one (ty:=43) (by kernel_rfl))
 go_wp2_with (with_reducible refine stop_store (ty:=43) ?_)
 refine go_on ?_
 refine wpL_store0 rfl rfl Hstk.out ?_
 obtain⟨V12,hV12⟩:∃W,W=(w11.alloc (.cells zL 43)).setCells w11.heap.size 0 (cL x yp ys yb):=⟨_,rfl⟩
 obtain⟨A12,hA12⟩:∃W,W=w11.heap.size:=⟨_,rfl⟩
 rw [<-hV12]at hBA12 hEA12⊢
 rw [<-hA12]at hBA12⊢
 have HBA12:=Bl.hid hBA12
 have HEA12:=Bl.hid hEA12
 have HA12:=Bl.hid hA12
 clear hBA12 hEA12 hV12 hA12 Hstk
 have HE912:Hid (Ext V9 V12):=Bl.hid (HE10b.out.trans (HE11k.out.trans HEA12.out))
 have HE12:=Bl.hid (HE9.out.trans HE912.out)
 have HE12k:=Bl.hid (HE9k.out.trans HE912.out)
 have HT12:=Bl.hid (HT9.out.ext HE912.out)
 have HX12:=Bl.hid (HX9.out.ext HE912.out)
 have HY12:=Bl.hid (HL11.out.ltc.ext HEA12.out)
 have HBx:=Bl.hid (HBA9.out.ext HE912.out)
 have Hxz:=Bl.hid (show x.shown.length<=1048576/\∀s∈x.shown,s.2.2.length<=1048576 by rw [Hx.out.1];exact forL_lg HOk.out HX.out.2)
 clear HL11 HE11k HEA12 HE10b HE10 HE10k HT9 HX9 HBA9 HE9 HE9k
 have HldA:=Bl.hid (fun w2 (h:Ext V12 w2)=>(HBx.out.ext h).load (P:=Tryz.prog) Tryz.underlying26 rfl (by kernel_rfl))
 have HldB:=Bl.hid (fun w2 (h:Ext V12 w2)=>(HBA12.out.ext h).load (P:=Tryz.prog) Tryz.underlying43 rfl (by kernel_rfl))
 have HOx:Hid (∀w2,Ext V12 w2->Calls Tryz.prog 12 #[.agg (cL x xp xs xb).toArray] w2 fun e w'=>∃v',e= .returned v'/\LtV w' v' x/\Ext w2 w'):=Bl.hid fun w2 h=>of22_any _ x w2 ⟨_,_,_,_,_,rfl,HX12.out.ext h⟩ Hxz.out.1 Hxz.out.2
 have HRs:Hid (∀w2 va,Ext V12 w2->LtV w2 va x->Calls Tryz.prog 15 #[va,.agg (cL x yp ys yb).toArray] w2 fun e w'=>e= .returned (.bool true)/\Ext w2 w'):=Bl.hid fun w2 va h h2=>by
  have h3:=rsame22_any va _ x x w2 h2 ⟨_,_,_,_,_,rfl,HY12.out.ext h⟩
  rw [show sameL x x=true by simp [sameL]]at h3
  exact h3
 have Hzz:Hid ((iz != iz)=false):=Bl.hid (by simp)
 go_wp2_with fail
 apply wp_region_ev 9 [64,65,66,67,68,69,70,71,72] [eqv _,eqv _,eqv _,eqv _,eqv _,(fun v w'=>LtV w' v x),eqv _,eqv _,eqv _] (by kernel_rfl) (by kernel_rfl) (by kernel_rfl) (by kernel_rfl)
 case hsteps=>
  refine⟨?_,?_,?_,?_,?_,?_,?_,?_,?_,trivial⟩
  all_goals
   intro ev w1 hext hb hd
   have e10:=hb 10 (by decide)
   have e11:=hb 11 (by decide)
   have e12:=hb 12 (by decide)
   have e13:=hb 13 (by decide)
   clear hb
   simp only [Qa,Qb,Q1,Bl.Q2,Qd]at e10 e11 e12 e13
   simp only [DepsE,Q1,Bl.Q2,Qc,Q3,Q4,eqv,and_true]at hd
   have hc:=(bcell hext).1
   have hzz:=Hzz.out
   simp only [Bl.Good,Region.wanted,yieldE,List.getElem?_cons_succ,List.getElem?_cons_zero,Option.bind_some,hd,beq_self_eq_true,if_true]
   first
   | ((with_reducible refine goodR_load ?_ (HldA.out _ hext) ?_);exact e10;exact rfl) | ((with_reducible refine goodR_load ?_ (HldB.out _ hext) ?_);exact e12;exact rfl) | ((with_reducible refine ifp_load ?_ ?_ (HldA.out _ hext) ?_);(first | exact rfl | (go_simp;done) | (simp;done) | decide);exact e10;exact rfl) | ((with_reducible refine ifp_load ?_ ?_ (HldB.out _ hext) ?_);(first | exact rfl | (go_simp;done) | (simp;done) | decide);exact e12;exact rfl)
   | (go_simp;first | (go_at_call 12;(with_reducible refine(HOx.out _ hext).mono ?_);rintro e w9 ⟨v9,rfl,h8,h9⟩;exact⟨_,rfl,h9,h8⟩) | (go_at_call 15;(with_reducible refine(HRs.out _ _ hext (by first | ((repeat(first | exact hd | exact hd.2 | replace hd:=hd.1));done) | (repeat(first | exact hd | exact hd.1 | replace hd:=hd.2)))).mono ?_);rintro e w9 ⟨rfl,h9⟩;exact⟨_,rfl,h9,rfl⟩) | exact rfl | exact⟨Below.refl _ _,rfl⟩ | exact⟨Below.refl _ _,rfl⟩)
 case hmono=>exact⟨mono_eqv _,mono_eqv _,mono_eqv _,mono_eqv _,mono_eqv _,(fun _ _ _ h k=>LtV.ext h k),mono_eqv _,mono_eqv _,mono_eqv _,trivial⟩
 case hend=>
  intro u w1 hext hend
  simp only [EndE,Q1,Bl.Q2,Qc,Q3,Q4,eqv,true_and]at hend
  simp only [fillAct,Q5,Q6,Q7,Q8,Q9,hend]
  obtain⟨w13,hw13⟩:∃W,W=w1:=⟨_,rfl⟩
  rw [<-hw13]at hext⊢
  have HE13:=Bl.hid (HE12.out.trans hext)
  have HE13k:=Bl.hid (HE12k.out.trans hext)
  have HT13:=Bl.hid (HT12.out.ext hext)
  have HX13:=Bl.hid (HX12.out.ext hext)
  have HBx13:=Bl.hid (HBx.out.ext hext)
  clear hext hend hw13 HldA HldB HOx HRs HT12 HX12 HY12 HBx HE12 HE12k HE912 HBA12
  go_wp2_with fail
  cases hg0:getO s1 0 with
  | none=>
   have Hg0:=Bl.hid hg0
   clear hg0
   obtain rfl:iz=false:=by
    cases iz with
    | false=>rfl
    | true=>
     obtain⟨_,_,_,all,h4,_,_⟩:=forL_inv Hx.out.2.symm
     have h5:=(getO_one Hl.out (by rw [<-Hs1.out];exact h4)).1
     rw [h5,Hg0.out]at h4;cases h4
   refine(sstored_none b N Q s1 0 w13 (HSz2.out.ext HE13k.out) Hg0.out).mono ?_
   rintro e w14 ⟨rfl,hE14⟩
   have HE14:=Bl.hid (HE13.out.trans hE14)
   clear hE14
   go_wp2_with fail
   go_ret
   exact⟨rfl,HE14.out⟩
  | some all0=>
   obtain rfl:all0=bs:=(getO_one Hl.out (by rw [<-Hs1.out];exact hg0)).2
   have Hg0:=Bl.hid hg0
   have Hst:=Bl.hid (HOk.out.get hg0)
   clear hg0
   refine(sstored_some b N Q s1 0 all0 w13 (HSz2.out.ext HE13k.out) HOk.out Hg0.out).mono ?_
   rintro e w14 ⟨g0,M1,rfl,_,hP1,hM1,hMm1,hE14⟩
   have HE14:=Bl.hid (HE13.out.trans hE14)
   have HE14b:=Bl.hid hE14
   have HRr:Hid (Rdss w14 (.slice (some ⟨g0,0,none⟩) all0.length all0.length) all0):=Bl.hid (RowF.rdss (F:=fun _=>True) ⟨M1,RdsF.of_rds hP1.rds fun _ _ _=>trivial,fun y hy=>stab_okB _ _ _ _ _ (hM1 y hy) fun b hb hl=>⟨trivial,rfl⟩,hMm1⟩)
   clear hE14 hP1 hM1 hMm1
   rw [<-Hn.out.1]
   go_wp2_with fail
   refine(refroot_any _ all0 w14 (by rw [Hn.out.1];exact HRr.out) (Hg.out.ext HE14.out) HR.out.2 (fun q hq=>by have:=Hl40.out.2 q hq;omega) (by rw [<-Hn.out.1];have:=Hl40.out.1;omega)).mono ?_
   rintro e w15 ⟨rfl,hE15⟩
   have HE15:=Bl.hid (HE14.out.trans hE15)
   have HE15b:=Bl.hid (HE14b.out.trans hE15)
   have HRl:Hid ((rootD all0).length=32):=Bl.hid (rootD_length all0 (by rw [<-Hn.out.1];have:=Hl40.out.1;omega))
   obtain⟨RD,hRD⟩:∃RD,RD=rootD all0:=⟨_,rfl⟩
   rw [<-hRD]at HRl⊢
   have HRD:=Bl.hid hRD
   clear hE15 hRD HRr
   have HRt:Hid (∀w2,Ext w w2->Calls Tryz.prog 17 #[.slice p n c] w2 fun e w'=>e= .returned (.agg (ints .u8 RD).toArray)/\Ext w2 w'):=Bl.hid fun w2 h2=>by
    have h:=refroot_any (.slice p n c) all0 w2 (by rw [Hn.out.1];exact HR.out.1.ext h2) (Hg.out.ext h2) HR.out.2 (fun q hq=>by have:=Hl40.out.2 q hq;omega) (by rw [<-Hn.out.1];have:=Hl40.out.1;omega)
    rw [<-HRD.out]at h
    exact h
   have heq:∀w,(Op.equalIn 10000 52 (.agg (ints .u8 RD).toArray) (.agg (ints .u8 RD).toArray)).run Tryz.prog w= .ok true w:=fun w=>
    eq10k_same Tryz.underlying52 Tryz.underlying5 (fun w=>by simp [go_sem]) RD HRl.out w
   go_wp2_with fail
   refine(HRt.out w15 HE15.out).mono ?_
   rintro e w16 ⟨rfl,hE16⟩
   have HE16:=Bl.hid (HE15.out.trans hE16)
   have HE16b:=Bl.hid (HE15b.out.trans hE16)
   clear hE16
   cases iz with
   | false=>
    go_wp2_with fail
    go_ret
    exact⟨rfl,HE16.out⟩
   | true=>
    have HT16:=Bl.hid (HT13.out.ext HE16b.out)
    have HX16:=Bl.hid (HX13.out.ext HE16b.out)
    have HBx16:=Bl.hid (HBx13.out.ext HE16b.out)
    obtain⟨hk3,hck,h16,all,h4,hpl,hxe⟩:=forL_inv Hx.out.2.symm
    obtain rfl:all=all0:=(getO_one Hl.out (by rw [<-Hs1.out];exact h4)).2
    rw [<-Hx.out.1]at hxe
    obtain⟨hq1,hq2,hq3⟩:=ask_pl hck hk3
    obtain⟨p0,hp0⟩:∃z,z=lq.places.getD 0 0:=⟨_,rfl⟩
    have hil0:0 < lq.places.length:=by omega
    have hpb:=hq3 _ (getD_mem 0 hil0)
    have hpm:=hpl _ (getD_mem 0 hil0)
    rw [<-hp0]at hpb hpm hxe
    obtain⟨hpb0,_⟩:=hpb
    obtain⟨j0,rfl⟩:=Int.eq_ofNat_of_zero_le hpb0
    rw [Int.toNat_natCast]at hxe
    rw [<-Hn.out.1]at hpm
    obtain rfl:no=16:=Hn.out.2.1.trans h16
    obtain⟨all2,hall⟩:∃z,z=all.set j0 ot:=⟨_,rfl⟩
    rw [<-hall]at hxe
    have HSt2:=Bl.hid (show StOk all2 by rw [hall];exact stok_set Hst.out h16 HX.out.2 j0)
    have Hl2:Hid (all2.length=n):=Bl.hid (by rw [hall,List.length_set,Hn.out.1])
    have hj0:j0 < n:=by omega
    have hj1:¬(n:Int)<=(j0:Int):=by omega
    have hj2:¬n<=j0:=by omega
    have hnp0:(0:Int) < (np:Int):=by rw [Hn.out.2.2];omega
    have hnp0N:0 < np:=by rw [Hn.out.2.2];omega
    obtain⟨M0,hM1,hM3,hM2⟩:=rdss_bv HR.out.1
    have hml:M0.length=n:=by rw [Hn.out.1,<-hM3,List.length_map]
    rw [hml,<-Hn.out.1]at hM1
    have HM3:=Bl.hid (And.intro hM1 (And.intro hM2 (And.intro hM3 hml)))
    obtain⟨bp,op,c2,hq,_,_,hbp,_,hcell⟩:=Rd.pos HPl.out hil0
    have hq:Value.slice ppa np cpa= .slice (some ⟨bp,op,none⟩) lq.places.length c2:=hq
    injection hq with hqa hqb hqc
    subst hqa hqc
    have Hpc:=Bl.hid (And.intro hbp hcell)
    have Hxe:=Bl.hid hxe
    have Hp0:=Bl.hid hp0
    have Hpls:=Bl.hid (And.intro hq3 hpl)
    have H16:=Bl.hid h16
    clear hqb hck hk3 h16 h4 hpl hxe hq1 hq2 hq3 hpb0 hpm hM1 hM2 hM3 hml hbp hcell hp0
    go_wp2_with (with_reducible refine stop_append ?_)
    refine go_on ?_
    refine wpL_app tBB (owns_nil_lit w16 _ w16.heap.size (Nat.le_refl _) 1) ((HM3.out.1.ext HE16.out).ext (ext_alloc _ _)) rfl rfl (by rw [cellsB_len,HM3.out.2.2.2,Nat.mul_one]) (cellsB_one (F:=fun _=>True) fun x hx=>RdsF.of_rds (HM3.out.2.1 x hx) fun _ _ _=>trivial) (by have:=Hl40.out;unfold maxLen;omega) (by have:=Hl40.out;omega) (by rw [World.size_alloc];omega) ?_
    intro p4 c4 w17 hown4 hg4 hB4 hK4 hn4 hc4
    rw [Nat.zero_add]at hown4⊢
    rw [List.nil_append]at hown4
    have hE17:Ext w16 w17:=Below.trans (ext_alloc _ _) hB4
    have hP4:=Pk.of_owns hown4
    obtain⟨g,cap,hv4,hg0,hg1,_,_,_⟩:=hP4.form (by omega)
    injection hv4 with hv41 hv42 hv43
    subst hv41 hv43
    clear hv42 hown4 hg4 hB4 hK4 hn4 hc4
    have HP4:=Bl.hid hP4
    have HE17:=Bl.hid (HE16.out.trans hE17)
    have HE17b:=Bl.hid hE17
    have Hgs:Hid (w16.heap.size<=g/\g < w17.heap.size):=Bl.hid ⟨hg0,hg1⟩
    have HT17:=Bl.hid (HT16.out.ext hE17)
    have HX17:=Bl.hid (HX16.out.ext hE17)
    have HBx17:=Bl.hid (HBx16.out.ext hE17)
    clear hP4 hE17 hg0 hg1 heq
    have hx3:=HT17.out.cell (i:=3) (v:= .slice (some ⟨bp,op,none⟩) lq.places.length cpa) rfl
    have hcl0:=((bcell HE17.out).1 bp (op+0) Hpc.out.1).trans (Hpc.out.2 0 hil0)
    rw [<-Hp0.out,Nat.add_zero]at hcl0
    have hjM:j0 < M0.length:=by rw [HM3.out.2.2.2];exact hj0
    have q9:=HP4.out.cell (cellB_at M0 j0 hjM)
    have f9:=HP4.out.fz (show j0 < (cellsR cB M0).length by rw [cellsB_len];exact hjM)
    have hws:w.heap.size<=w16.heap.size:=HE16.out.size
    have HRw:Hid (RowF (fun _=>True) (w17.setCell ⟨g,j0,none⟩ (.slice po 16 co)) (.slice (some ⟨g,0,none⟩) n c4) all2):=Bl.hid (by
     rw [hall]
     refine rowF_set (F:=fun i=>i < w.heap.size) (HP4.out.mono (Nat.zero_le _)) HM3.out.2.2.2.symm hjM (fun y hy=>⟨(RdsF.of_rds (F:=fun i=>i < w.heap.size) (HM3.out.2.1 y hy) fun i _ hl=>hl).kept fun i hi hl=>⟨hi,HE17.out.block i hl⟩,?_⟩) HM3.out.2.2.1 ⟨(RdsF.of_rds (F:=fun i=>i < w.heap.size) (HRx.out w (Below.refl _ _)) fun i _ hl=>hl).kept fun i hi hl=>⟨hi,HE17.out.block i hl⟩,HX.out.2⟩ (by have:=Hgs.out;omega) trivial (fun i hi=>trivial)
     exact HR.out.2 _ (by rw [<-HM3.out.2.2.1];exact List.mem_map_of_mem hy))
    have HE18:Hid (Ext w (w17.setCell ⟨g,j0,none⟩ (.slice po 16 co))):=Bl.hid (Below.setCell HE17.out (by have:=Hgs.out;show w.heap.size<=g;omega) _)
    have HE1618:Hid (Ext w16 (w17.setCell ⟨g,j0,none⟩ (.slice po 16 co))):=Bl.hid (Below.setCell HE17b.out (by have:=Hgs.out;show w16.heap.size<=g;omega) _)
    obtain⟨w18,hw18⟩:∃W,W=w17.setCell ⟨g,j0,none⟩ (.slice po 16 co):=⟨_,rfl⟩
    rw [<-hw18]at HRw HE18 HE1618
    have HX18:=Bl.hid (HX16.out.ext HE1618.out)
    have HBx18:=Bl.hid (HBx16.out.ext HE1618.out)
    have Hall:=Bl.hid hall
    clear hjM hall hws HP4 HT17 HX17 HBx17 HE16 HE16b HT16 HX16 HBx16
    go_wp2_with fail
    rw [<-hw18]
    clear hw18 q9 f9 hx3 hcl0 hj0 hj1 hj2 hnp0 hnp0N
    refine(HRt.out w18 HE18.out).mono ?_
    rintro e w19 ⟨rfl,hE19⟩
    have HE19:=Bl.hid (HE18.out.trans hE19)
    have HE19b:=Bl.hid hE19
    clear hE19
    go_wp2_with fail
    refine(refroot_any _ all2 w19 (HRw.out.rdss.ext HE19b.out) (Hg.out.ext HE19.out) (fun q hq=>(HSt2.out.2.2 q hq).2) (fun q hq=>by have:=(HSt2.out.2.2 q hq).1;omega) (by rw [Hl2.out];have:=Hl40.out.1;omega)).mono ?_
    rintro e w20 ⟨rfl,hE20⟩
    have HE20:=Bl.hid (HE19.out.trans hE20)
    have HE20b:=Bl.hid (HE19b.out.trans hE20)
    have HOl:Hid ((rootD all2).length=32):=Bl.hid (rootD_length all2 (by rw [Hl2.out];have:=Hl40.out.1;omega))
    obtain⟨RO,hRO⟩:∃RO,RO=rootD all2:=⟨_,rfl⟩
    rw [<-hRO]at HOl⊢
    have HRO:=Bl.hid hRO
    clear hE20 hRO
    have HDnD:=Bl.hid (Duo.new w20 54 #[.int .u8 0,.int .u8 0,.int .u8 0,.int .u8 0,.int .u8 0,.int .u8 0,.int .u8 0,.int .u8 0,.int .u8 0,.int .u8 0,.int .u8 0,.int .u8 0,.int .u8 0,.int .u8 0,.int .u8 0,.int .u8 0,.int .u8 0,.int .u8 0,.int .u8 0,.int .u8 0,.int .u8 0,.int .u8 0,.int .u8 0,.int .u8 0,.int .u8 0,.int .u8 0,.int .u8 0,.int .u8 0,.int .u8 0,.int .u8 0,.int .u8 0,.int .u8 0] rfl)
    have HDmD:=Bl.hid (HDnD.out.setA (x':=RD) HRl.out)
    have HDuD:=Bl.hid (HDmD.out.setB (y':=RO) HOl.out)
    have HsaD:=Bl.hid (HDnD.out.a.store (P:=Tryz.prog) (ty:=54) (d':=RD) HRl.out (by kernel_rfl))
    have HsbD:=Bl.hid (HDmD.out.b.store (P:=Tryz.prog) (ty:=54) (d':=RO) HOl.out (by kernel_rfl))
    have HEuD:Hid (Ext w20 ((((w20.alloc (.cells #[.int .u8 0,.int .u8 0,.int .u8 0,.int .u8 0,.int .u8 0,.int .u8 0,.int .u8 0,.int .u8 0,.int .u8 0,.int .u8 0,.int .u8 0,.int .u8 0,.int .u8 0,.int .u8 0,.int .u8 0,.int .u8 0,.int .u8 0,.int .u8 0,.int .u8 0,.int .u8 0,.int .u8 0,.int .u8 0,.int .u8 0,.int .u8 0,.int .u8 0,.int .u8 0,.int .u8 0,.int .u8 0,.int .u8 0,.int .u8 0,.int .u8 0,.int .u8 0] 54)).alloc (.cells #[.int .u8 0,.int .u8 0,.int .u8 0,.int .u8 0,.int .u8 0,.int .u8 0,.int .u8 0,.int .u8 0,.int .u8 0,.int .u8 0,.int .u8 0,.int .u8 0,.int .u8 0,.int .u8 0,.int .u8 0,.int .u8 0,.int .u8 0,.int .u8 0,.int .u8 0,.int .u8 0,.int .u8 0,.int .u8 0,.int .u8 0,.int .u8 0,.int .u8 0,.int .u8 0,.int .u8 0,.int .u8 0,.int .u8 0,.int .u8 0,.int .u8 0,.int .u8 0] 54)).setCells w20.heap.size 0 (ints .u8 RD)).setCells (w20.heap.size+1) 0 (ints .u8 RO))):=Bl.hid (below_setCells _ _ _ _ (below_setCells _ _ _ _ ((ext_alloc _ _).trans (ext_alloc _ _)) (Nat.le_refl _)) (Nat.le_succ _))
    go_wp2_with (with_reducible refine stop_store (ty:=54) ?_)
    refine go_on ?_
    refine wpL_store0 rfl rfl HsaD.out ?_
    go_wp2_with (with_reducible refine stop_store (ty:=54) ?_)
    refine go_on ?_
    refine wpL_store0 rfl rfl HsbD.out ?_
    obtain⟨WD,hWD⟩:∃W',W'=(((w20.alloc (.cells #[.int .u8 0,.int .u8 0,.int .u8 0,.int .u8 0,.int .u8 0,.int .u8 0,.int .u8 0,.int .u8 0,.int .u8 0,.int .u8 0,.int .u8 0,.int .u8 0,.int .u8 0,.int .u8 0,.int .u8 0,.int .u8 0,.int .u8 0,.int .u8 0,.int .u8 0,.int .u8 0,.int .u8 0,.int .u8 0,.int .u8 0,.int .u8 0,.int .u8 0,.int .u8 0,.int .u8 0,.int .u8 0,.int .u8 0,.int .u8 0,.int .u8 0,.int .u8 0] 54)).alloc (.cells #[.int .u8 0,.int .u8 0,.int .u8 0,.int .u8 0,.int .u8 0,.int .u8 0,.int .u8 0,.int .u8 0,.int .u8 0,.int .u8 0,.int .u8 0,.int .u8 0,.int .u8 0,.int .u8 0,.int .u8 0,.int .u8 0,.int .u8 0,.int .u8 0,.int .u8 0,.int .u8 0,.int .u8 0,.int .u8 0,.int .u8 0,.int .u8 0,.int .u8 0,.int .u8 0,.int .u8 0,.int .u8 0,.int .u8 0,.int .u8 0,.int .u8 0,.int .u8 0] 54)).setCells w20.heap.size 0 (ints .u8 RD)).setCells (w20.heap.size+1) 0 (ints .u8 RO):=⟨_,rfl⟩
    obtain⟨YD,hYD⟩:∃Y',Y'=w20.heap.size+1:=⟨_,rfl⟩
    obtain⟨XD,hXD⟩:∃X',X'=w20.heap.size:=⟨_,rfl⟩
    rw [<-hWD]at HDuD HEuD⊢
    rw [<-hYD]at HDuD⊢
    rw [<-hXD]at HDuD⊢
    have HXD:=Bl.hid hXD
    have HYD:=Bl.hid hYD
    clear hWD hYD hXD HDnD HDmD HsaD HsbD
    have HED:=Bl.hid (HE20.out.trans HEuD.out)
    have HEDb:=Bl.hid (HE20b.out.trans HEuD.out)
    have HXD:=Bl.hid (HX18.out.ext HEDb.out)
    have HBD:=Bl.hid (HBx18.out.ext HEDb.out)
    obtain⟨nS,hnS⟩:∃z,z=X8.length:=⟨_,rfl⟩
    have HnS:=Bl.hid hnS
    obtain⟨psh,csh,hvs,_,hcs2⟩:=HXD.out.sh.rd.form
    rw [<-hnS]at hvs
    subst hvs
    unfold maxLen at hcs2
    have HnP:Hid (nS=lq.places.length):=Bl.hid (by
     have h1:=congrArg List.length HXD.out.sl
     rw [List.length_map,<-hnS,Hxe.out]at h1
     rw [h1]
     exact List.length_map ..)
    have hx4:=HBD.out.cell (i:=4) (v:= .slice psh nS csh) rfl
    have hm23:nS<=9223372036854775807:=by omega
    clear hnS hcs2 HE20 HE20b HE19 HE19b HX18 HBx18 HEuD
    go_wp2_with fail
    clear hx4
    go_loopw [106] (fun y wq=>∃j:Nat,j<=nS/\y= .int .i64 j/\Ext WD wq) (fun y _=>nS - (intOf y).toNat)
    case atStart=>exact⟨0,Nat.zero_le _,rfl,Below.refl _ _⟩
    case round=>
     obtain⟨j,hj,rfl,hE⟩:=hrel
     have HEq:=Bl.hid hE
     have HEw:=Bl.hid (HED.out.trans hE)
     clear hE
     by_cases hlt2:j < nS
     ·have hjL:j < X8.length:=by rw [<-HnS.out];exact hlt2
      have hRq:=HXD.out.sh.ext HEq.out
      rw [HnS.out]at hRq
      obtain⟨g2,o2,cc,hpe2,_,_,hgl2,hel2⟩:=hRq.pos (by omega)
      injection hpe2 with hq1 hq2 hq3
      subst hq1 hq3
      clear hq2
      have hrg:=hel2 j hjL
      have hok:=HXD.out.sh.ok _ (getD_mem s0 hjL)
      have hjP:j < lq.places.length:=by rw [<-HnP.out];exact hlt2
      have hpl:(lq.places.getD j 0,all2.getD (lq.places.getD j 0).toNat [],pathD all2 (lq.places.getD j 0).toNat)=plS (X8.getD j s0):=by
       rw [<-plS_getD,HXD.out.sl,Hxe.out,<-ansS_at all2 lq.places j hjP];rfl
      obtain⟨⟨pz,⟨vst,st⟩,vpa,pa⟩,hx⟩:∃x,x=X8.getD j s0:=⟨_,rfl⟩
      rw [<-hx]at hrg hok hpl
      injection hpl with f1 hpl2
      injection hpl2 with f2 f3
      have f1':lq.places.getD j 0=pz:=f1
      have f2':all2.getD (lq.places.getD j 0).toNat []=st:=f2
      have f3':pathD all2 (lq.places.getD j 0).toNat=pa:=f3
      obtain⟨hz0,_⟩:=Hpls.out.1 _ (getD_mem 0 hjP)
      have hz1:=Hpls.out.2 _ (getD_mem 0 hjP)
      rw [f1']at f2' f3' hz0 hz1
      clear f1 f2 f3 f1' hx hel2 hRq hjP
      obtain⟨q,rfl⟩:=Int.eq_ofNat_of_zero_le hz0
      rw [Int.toNat_natCast]at f2' f3'
      have hqn:q < n:=by rw [<-Hn.out.1]at hz1;omega
      obtain⟨p1,c1,hvst,_,_⟩:=hok.st.form
      obtain⟨p2,c2',hvpa,_,_⟩:=hok.pa.form
      have hst1:vst= .slice p1 st.length c1:=hvst
      have hpa1:vpa= .slice p2 pa.length c2':=hvpa
      subst hst1
      subst hpa1
      have HSt:Hid (Rd WD .u8 (.slice p1 st.length c1) st):=Bl.hid hok.st
      have HPa:Hid (RdD WD (.slice p2 pa.length c2') pa):=Bl.hid hok.pa
      have HBs:Hid (Byt st/\Dig pa):=Bl.hid ⟨hok.bs,hok.dg⟩
      have Hst16:Hid (st.length=16):=Bl.hid (by rw [<-f2'];exact(HSt2.out.2.2 _ (getD_mem [] (by rw [Hl2.out];exact hqn))).1)
      obtain⟨cx3,hcx3⟩:∃cx3:List Value,cx3=[.int .i64 (q:Int),.slice p1 st.length c1,.slice p2 pa.length c2']:=⟨_,rfl⟩
      have hrg':wr.rangeAt g2 (o2+j*3) cx3:=by rw [hcx3];exact hrg
      have Hld:=Bl.hid (run_loadAt_mid (P:=Tryz.prog) wr g2 (o2+j*3) 57 _ _ hrg' Tryz.underlying57 rfl (by rw [hcx3];kernel_rfl))
      obtain⟨hB11,hE11⟩:=BoxC.fresh (cs:=cx3) wr 57 zSh (by rw [hcx3];rfl) (by rw [hcx3];exact List.cons_ne_nil _ _)
      have Hst:=Bl.hid (fresh_store (P:=Tryz.prog) (cs:=cx3) wr 57 zSh (by rw [hcx3];rfl) (by rw [hcx3];intro c hc;simp only [List.mem_cons,List.not_mem_nil,or_false]at hc;rcases hc with rfl | rfl | rfl<;>rfl) (ty:=57) (by rw [hcx3];kernel_rfl))
      have HB11:=Bl.hid hB11
      have HE11q:=Bl.hid (HEq.out.trans hE11)
      have Hcx3:=Bl.hid hcx3
      have hj0:(0:Int)<=(j:Int):=by omega
      have hj1:(j:Int) < (nS:Int):=by omega
      have HCo:Hid (∀w2,Ext WD w2->Calls Tryz.prog 18 #[.agg (ints .u8 RO).toArray,.int .i64 n,.int .i64 q,.slice p1 st.length c1,.slice p2 pa.length c2'] w2 fun e w'=>e= .returned .nilIface/\Ext w2 w'):=Bl.hid fun w2 h2=>by
       have h:=pcheck_any RO n q _ _ st pa w2 S a (He.out.ext (HED.out.trans h2)) HSe.out.1 HSe.out.2.2.2.2 H15.out HOl.out (HSt.out.ext h2) HBs.out.1 (by have:=Hst16.out;omega) (Rds.ext HPa.out h2) HBs.out.2 (Hg.out.ext (HED.out.trans h2)).s
       have hz:=chk_pathD all2 (q:Int) (by omega) (by rw [Hl2.out];omega) (by rw [Hl2.out];have:=Hl40.out.1;omega)
       rw [Int.toNat_natCast,f2',f3',<-HRO.out,Hl2.out]at hz
       rw [hz,errN_zero]at h
       exact h
      obtain⟨ck,hck⟩:∃ck,ck=chkP RD n (q:Int) st pa:=⟨_,rfl⟩
      have HCr:Hid (∀w2,Ext WD w2->Calls Tryz.prog 18 #[.agg (ints .u8 RD).toArray,.int .i64 n,.int .i64 q,.slice p1 st.length c1,.slice p2 pa.length c2'] w2 fun e w'=>e= .returned (errN a ck)/\Ext w2 w'):=Bl.hid fun w2 h2=>by
       rw [hck]
       exact pcheck_any RD n q _ _ st pa w2 S a (He.out.ext (HED.out.trans h2)) HSe.out.1 HSe.out.2.2.2.2 H15.out HRl.out (HSt.out.ext h2) HBs.out.1 (by have:=Hst16.out;omega) (Rds.ext HPa.out h2) HBs.out.2 (Hg.out.ext (HED.out.trans h2)).s
      obtain⟨bb,ob,hpe,hbl,hcell0⟩:=Rdss.cell' (ps:=all) (n:=n) (by have:=(Hv.out.ext HEw.out).ext hE11;rw [Hn.out.1]at this⊢;exact this) Hwl.out q (by rw [<-Hn.out.1];exact hqn)
      subst hpe
      have hRk0:=Hws.out q (by rw [<-Hn.out.1];exact hqn)
      obtain⟨zt,hzt⟩:∃z,z=all.getD q []:=⟨_,rfl⟩
      rw [<-hzt]at hRk0
      obtain⟨pk,ckk,hfk,_,_⟩:=hRk0.form
      rw [hfk]at hcell0
      have HRk:Hid (Rd w .u8 (.slice pk zt.length ckk) zt):=Bl.hid (by rw [<-hfk];exact hRk0)
      have Hzt:Hid (Byt zt):=Bl.hid (by rw [hzt];exact HR.out.2 _ (getD_mem [] (by rw [<-Hn.out.1];exact hqn)))
      have HCl:Hid (ck=0->¬zt=st->∀w2,Ext WD w2->Calls Tryz.prog 19 #[.slice (some ⟨bb,ob,none⟩) n c,.int .i64 q,.slice p1 st.length c1,.slice p2 pa.length c2'] w2 fun e w'=>∃x y,e= .returned (.tuple #[x,y,.bool true])/\ClashR w' x y/\Ext w2 w'):=Bl.hid fun h0 hne w2 h2=>by
       obtain⟨hpl,hf⟩:=chkP_parts (by have:=Hl40.out.1;omega) hqn (hck.symm.trans h0)
       exact pclash_found _ _ _ all n q st pa w2 S a (by have h:=HR.out.1.ext (HED.out.trans h2);rw [<-Hn.out.1]at h;exact h) (Hg.out.ext (HED.out.trans h2)).s HR.out.2 (fun q hq=>by have:=Hl40.out.2 q hq;omega) Hn.out.1.symm (by have:=Hl40.out.1;omega) hqn (He.out.ext (HED.out.trans h2)) HSe.out.1 HSe.out.2.2.2.2 H15.out (HSt.out.ext h2) HBs.out.1 (by have:=Hst16.out;omega) (Rds.ext HPa.out h2) HBs.out.2 hpl (by rw [hf,HRD.out]) (by rw [<-hzt];exact hne)
      have Hcva:Hid (∀w2,Ext WD w2->(convert 27 9 (.slice p1 st.length c1)).run Tryz.prog w2= .ok (.string (bstr st)) w2):=Bl.hid fun w2 h2=>conv_bytes (HSt.out.ext h2) Tryz.underlying27 Tryz.underlying5 Tryz.underlying9
      have Hcvb:Hid (∀w2,Ext WD w2->(convert 27 9 (.slice pk zt.length ckk)).run Tryz.prog w2= .ok (.string (bstr zt)) w2):=Bl.hid fun w2 h2=>conv_bytes (HRk.out.ext (HED.out.trans h2)) Tryz.underlying27 Tryz.underlying5 Tryz.underlying9
      have hq0:(0:Int)<=(q:Int):=by omega
      have hq1:(q:Int) < (n:Int):=by omega
      have hqn0:¬(q:Int) < 0:=by omega
      have hqn1:¬(n:Int)<=(q:Int):=by omega
      have hqN:¬n<=q:=by omega
      obtain⟨nst,hnst⟩:∃nst,nst=st.length:=⟨_,rfl⟩
      obtain⟨npa,hnpa⟩:∃npa,npa=pa.length:=⟨_,rfl⟩
      obtain⟨nzt,hnzt⟩:∃z,z=zt.length:=⟨_,rfl⟩
      rw [<-hnst]at Hcx3 HCo HCr HCl Hcva
      rw [<-hnpa]at Hcx3 HCo HCr HCl
      rw [<-hnzt]at Hcvb hcell0
      obtain⟨sv,hsv⟩:∃sv,sv=bstr st:=⟨_,rfl⟩
      obtain⟨sz,hsz⟩:∃sz,sz=bstr zt:=⟨_,rfl⟩
      rw [<-hsv]at Hcva
      rw [<-hsz]at Hcvb
      have Hsv:Hid ((sv.toList==sz.toList)=decide (st=zt)/\(sv=sz↔st=zt)):=Bl.hid (by rw [hsv,hsz];exact⟨bstr_beq HBs.out.1 Hzt.out,bstr_eq_iff HBs.out.1 Hzt.out⟩)
      have HLr:Hid (∀w2,Ext WD w2->(Instr.loadAt 54 (.pointer (some ⟨XD,0,none⟩))).run Tryz.prog w2= .ok (.agg (ints .u8 RD).toArray) w2):=Bl.hid fun w2 h2=>(HDuD.out.ext h2).a.load Tryz.underlying54 (by kernel_rfl)
      have HLo:Hid (∀w2,Ext WD w2->(Instr.loadAt 54 (.pointer (some ⟨YD,0,none⟩))).run Tryz.prog w2= .ok (.agg (ints .u8 RO).toArray) w2):=Bl.hid fun w2 h2=>(HDuD.out.ext h2).b.load Tryz.underlying54 (by kernel_rfl)
      clear hRk0 hfk hrg hrg' hok hcx3 hB11 hnst hnpa hnzt hsv hsz HSt HPa HRk hjL hzt f2' f3' hz0 hz1 hck hE11 Hzt
      go_wp2_with (with_reducible refine stop_load (ty:=57) ?_)
      refine go_on ?_
      refine wpL_load rfl Hld.out ?_
      go_wp2_with (with_reducible refine stop_store (ty:=57) ?_)
      refine go_on ?_
      refine wpL_store0 rfl rfl Hst.out ?_
      obtain⟨W11,hW11⟩:∃W11,W11=(wr.alloc (.cells zSh 57)).setCells wr.heap.size 0 cx3:=⟨_,rfl⟩
      obtain⟨X14,hX14⟩:∃X14,X14=wr.heap.size:=⟨_,rfl⟩
      rw [<-hW11]at HB11 HE11q hcell0 hbl⊢
      rw [<-hX14]at HB11⊢
      clear hW11 hX14 Hst Hld
      have hx0:=HB11.out.cell (i:=0) (v:= .int .i64 q) (by rw [Hcx3.out];rfl)
      have hx1:=HB11.out.cell (i:=1) (v:= .slice p1 nst c1) (by rw [Hcx3.out];rfl)
      have hx2:=HB11.out.cell (i:=2) (v:= .slice p2 npa c2') (by rw [Hcx3.out];rfl)
      go_wp2_with (with_reducible refine stop_load (ty:=54) ?_)
      refine go_on ?_
      refine wpL_load rfl (HLo.out _ HE11q.out) ?_
      go_wp2_with fail
      clear hx0 hx1 hx2
      refine(HCo.out _ HE11q.out).mono ?_
      rintro e w12 ⟨rfl,hE12⟩
      have HE12q:=Bl.hid (HE11q.out.trans hE12)
      have HB12:=Bl.hid (HB11.out.ext hE12)
      have hcell1:=((bcell hE12).1 bb (ob+q) hbl).trans hcell0
      have hbl1:bb < w12.heap.size:=Nat.lt_of_lt_of_le hbl hE12.size
      have hx0:=HB12.out.cell (i:=0) (v:= .int .i64 q) (by rw [Hcx3.out];rfl)
      have hx1:=HB12.out.cell (i:=1) (v:= .slice p1 nst c1) (by rw [Hcx3.out];rfl)
      have hx2:=HB12.out.cell (i:=2) (v:= .slice p2 npa c2') (by rw [Hcx3.out];rfl)
      have hbX:=HB12.out.lt
      clear hE12 hcell0 hbl HE11q HB11 HCo
      by_cases hck0:ck=0
      case neg=>
       obtain⟨er,her⟩:∃er,errN a ck= .iface 233 (.pointer (some er)):=⟨_,errN_pos a _ hck0⟩
       rw [her]at HCr
       clear her hck0 HCl
       go_wp2_with fail
       apply wp_region_ev 22 [121,122,123,124,125,126,127,128,129,130,131,132,133,134,135,136,137,138,139,140,141,142] [eqv _,eqv _,eqv _,eqv _,eqv _,eqv _,eqv _,eqv _,eqv _,eqv _,eqv _,eqv _,eqv _,eqv _,eqv _,eqv _,eqv _,eqv _,eqv _,eqv _,eqv _,eqv _] (by kernel_rfl) (by kernel_rfl) (by kernel_rfl) (by kernel_rfl)
       case hsteps=>
        refine⟨?_,?_,?_,?_,?_,?_,?_,?_,?_,?_,?_,?_,?_,?_,?_,?_,?_,?_,?_,?_,?_,?_,trivial⟩
        all_goals
         intro ev w1 hext hb hd
         have e0:=hb 0 (by decide)
         have e17:=hb 17 (by decide)
         have e20:=hb 20 (by decide)
         clear hb
         simp only [Qa,Qb,Q1,Bl.Q2,Qd]at e0 e17 e20
         simp only [DepsE,Q1,Bl.Q2,Qc,Q3,Q4,eqv,and_true]at hd
         have hc:=(bcell hext).1
         have r0:=(hc _ 0 hbX).trans hx0
         have r1:=(hc _ 1 hbX).trans hx1
         have r2:=(hc _ 2 hbX).trans hx2
         have r5:=(hc _ (ob+q) hbl1).trans hcell1
         have c1':=Hcva.out _ (HE12q.out.trans hext)
         have c2':=Hcvb.out _ (HE12q.out.trans hext)
         simp only [Bl.Good,Region.wanted,yieldE,List.getElem?_cons_succ,List.getElem?_cons_zero,Option.bind_some,hd,if_true]
         first
         | ((with_reducible refine goodR_load ?_ (HLr.out _ (HE12q.out.trans hext)) ?_);exact e17;exact rfl)
         | (go_simp;first | (go_at_call 18;(with_reducible refine(HCr.out _ (HE12q.out.trans hext)).mono ?_);rintro e w2 ⟨rfl,hE2⟩;exact⟨_,rfl,hE2,rfl⟩) | exact rfl | exact⟨Below.refl _ _,rfl⟩ | exact⟨Below.refl _ _,rfl⟩)
       case hmono=>exact⟨mono_eqv _,mono_eqv _,mono_eqv _,mono_eqv _,mono_eqv _,mono_eqv _,mono_eqv _,mono_eqv _,mono_eqv _,mono_eqv _,mono_eqv _,mono_eqv _,mono_eqv _,mono_eqv _,mono_eqv _,mono_eqv _,mono_eqv _,mono_eqv _,mono_eqv _,mono_eqv _,mono_eqv _,mono_eqv _,trivial⟩
       case hend=>
        intro u w1 hext hend
        simp only [EndE,Q1,Bl.Q2,Qc,Q3,Q4,eqv,true_and]at hend
        simp only [fillAct,Q5,Q6,Q7,Q8,Q9,hend]
        have HEf:=Bl.hid (HE12q.out.trans hext)
        clear hext hend
        go_wp2_with fail
        go_roundw
        case rel=>exact⟨j+1,by omega,by go_num,HEf.out⟩
        case measure=>simp [intOf];omega
      subst hck0
      rw [errN_zero]at HCr
      go_wp2_with fail
      apply wp_region_ev 22 [121,122,123,124,125,126,127,128,129,130,131,132,133,134,135,136,137,138,139,140,141,142] [eqv _,eqv _,eqv _,eqv _,eqv _,eqv _,eqv _,eqv _,eqv _,eqv _,eqv _,eqv _,eqv _,eqv _,eqv _,eqv _,eqv _,eqv _,eqv _,eqv _,eqv _,eqv _] (by kernel_rfl) (by kernel_rfl) (by kernel_rfl) (by kernel_rfl)
      case hsteps=>
       refine⟨?_,?_,?_,?_,?_,?_,?_,?_,?_,?_,?_,?_,?_,?_,?_,?_,?_,?_,?_,?_,?_,?_,trivial⟩
       all_goals
        intro ev w1 hext hb hd
        have e0:=hb 0 (by decide)
        have e17:=hb 17 (by decide)
        have e20:=hb 20 (by decide)
        clear hb
        simp only [Qa,Qb,Q1,Bl.Q2,Qd]at e0 e17 e20
        simp only [DepsE,Q1,Bl.Q2,Qc,Q3,Q4,eqv,and_true]at hd
        have hc:=(bcell hext).1
        have r0:=(hc _ 0 hbX).trans hx0
        have r1:=(hc _ 1 hbX).trans hx1
        have r2:=(hc _ 2 hbX).trans hx2
        have r5:=(hc _ (ob+q) hbl1).trans hcell1
        have c1':=Hcva.out _ (HE12q.out.trans hext)
        have c2':=Hcvb.out _ (HE12q.out.trans hext)
        simp only [Bl.Good,Region.wanted,yieldE,List.getElem?_cons_succ,List.getElem?_cons_zero,Option.bind_some,hd,beq_self_eq_true,if_true]
        first
        | ((with_reducible refine goodR_load ?_ (HLr.out _ (HE12q.out.trans hext)) ?_);exact e17;exact rfl)
        | (go_simp;first | (go_at_call 18;(with_reducible refine(HCr.out _ (HE12q.out.trans hext)).mono ?_);rintro e w2 ⟨rfl,hE2⟩;exact⟨_,rfl,hE2,rfl⟩) | exact rfl | exact⟨Below.refl _ _,rfl⟩ | exact⟨Below.refl _ _,rfl⟩)
      case hmono=>exact⟨mono_eqv _,mono_eqv _,mono_eqv _,mono_eqv _,mono_eqv _,mono_eqv _,mono_eqv _,mono_eqv _,mono_eqv _,mono_eqv _,mono_eqv _,mono_eqv _,mono_eqv _,mono_eqv _,mono_eqv _,mono_eqv _,mono_eqv _,mono_eqv _,mono_eqv _,mono_eqv _,mono_eqv _,mono_eqv _,trivial⟩
      case hend=>
       intro u w1 hext hend
       simp only [EndE,Q1,Bl.Q2,Qc,Q3,Q4,eqv,true_and]at hend
       simp only [fillAct,Q5,Q6,Q7,Q8,Q9,hend]
       obtain⟨w13,hw13⟩:∃W,W=w1:=⟨_,rfl⟩
       rw [<-hw13]at hext⊢
       have HEf:=Bl.hid (HE12q.out.trans hext)
       have HB13:=Bl.hid (HB12.out.ext hext)
       clear hext hend hw13 hx0 hx1 hx2 hbX
       by_cases hzs:st=zt
       ·have hss:=Hsv.out.2.2 hzs
        have hss2:=Hsv.out.1
        rw [decide_eq_true hzs]at hss2
        clear hzs
        go_wp2_with fail
        go_roundw
        case rel=>exact⟨j+1,by omega,by go_num,HEf.out⟩
        case measure=>simp [intOf];omega
       ·have hss:¬sv=sz:=fun q=>hzs (Hsv.out.2.1 q)
        have hss2:=Hsv.out.1
        rw [decide_eq_false hzs]at hss2
        have hx0:=HB13.out.cell (i:=0) (v:= .int .i64 q) (by rw [Hcx3.out];rfl)
        have hx1:=HB13.out.cell (i:=1) (v:= .slice p1 nst c1) (by rw [Hcx3.out];rfl)
        have hx2:=HB13.out.cell (i:=2) (v:= .slice p2 npa c2') (by rw [Hcx3.out];rfl)
        have Hzs:Hid (¬zt=st):=Bl.hid fun q=>hzs q.symm
        clear hzs
        go_wp2_with fail
        refine(HCl.out (by trivial) Hzs.out _ HEf.out).mono ?_
        rintro e w14 ⟨x9,y9,rfl,_,hE14⟩
        have HE14:=Bl.hid (HEf.out.trans hE14)
        clear hE14 hx0 hx1 hx2
        go_wp2_with fail
        go_roundw
        case rel=>exact⟨j+1,by omega,by go_num,HE14.out⟩
        case measure=>simp [intOf];omega
     ·obtain rfl:j=nS:=by omega
      go_wp2_with fail
      go_ret
      exact⟨rfl,HEw.out⟩
end Go.Proofs.YtglenbikdahgjaaGreatDoor
