/- Walk of baileelaw22.Of: where the letter's rows lie. -/
import Derived.Test.YtglenbikdahgjaaGreatDoorPk06
import Derived.Test.YtglenbikdahgjaaGreatDoorPk05
import Derived.Test.YtglenbikdahgjaaGreatDoorPk17
import Derived.Test.YtglenbikdahgjaaGreatDoorPk20
import Derived.Test.YtglenbikdahgjaaGreatDoorPk22
import Derived.Test.YtglenbikdahgjaaGreatDoorPk02
import Derived.Test.YtglenbikdahgjaaGreatDoorPk08
import Derived.Test.YtglenbikdahgjaaGreatDoorPk00
import Derived.Test.YtglenbikdahgjaaGreatDoorPk01
import Derived.Test.YtglenbikdahgjaaGreatDoorPk03
import Derived.Test.YtglenbikdahgjaaGreatDoorPk16
import Derived.Test.YtglenbikdahgjaaGreatDoorPk14
set_option maxRecDepth 100000
set_option maxHeartbeats 16000000
namespace Go.Proofs.YtglenbikdahgjaaGreatDoor
open Go Go.RowKit Go.Proofs Go.Proofs.Bl
theorem of22_fr0 (F:Nat->Prop) (l:Bl.LT) (vp vs vb:Value) (L:List Sv) (w:World) (h:LtF F w l vp vs vb L) (hFl:∀b,F b->b < w.heap.size) (hl:l.shown.length<=1048576) (hp:∀s∈l.shown,s.2.2.length<=1048576):
  Calls Tryz.prog 12 #[.agg (cL l vp vs vb).toArray] w fun e w'=>∃vs' L',e= .returned (.agg (cL l vp vs' vb).toArray)/\LtF (fun k=>F k\/w.heap.size<=k) w' l vp vs' vb L'/\Ext w w':=by
 have hc:=h.ltc
 have HF0:=Bl.hid h
 have HFl:=Bl.hid hFl
 clear h hFl
 have HC:=Bl.hid hc
 have Hp:=Bl.hid hp
 obtain⟨p2,c2,e2,hn2,hc2⟩:=hc.sh.rd.form
 subst e2
 obtain⟨p1,n1,c1,e1⟩:=hc.pl.isSl
 obtain⟨p3,n3,c3,e3⟩:=hc.bl.isSl
 subst e1 e3
 unfold maxLen at hc2
 have Hll:Hid (l.shown.length=L.length):=Bl.hid (by rw [<-hc.sl,List.length_map])
 obtain⟨ns,hns⟩:∃ns,ns=L.length:=⟨_,rfl⟩
 have Hns:=Bl.hid hns
 have hl2:ns<=1048576:=by rw [hns,<-Hll.out];exact hl
 rw [<-hns]at HC hn2⊢
 clear hc hns hl hp
 obtain⟨kd,id,oj,pl,sh,fr,ct,bl,cd⟩:=l
 obtain⟨W2,hW2⟩:∃W2,W2=(w.alloc (.cells #[.int .i64 kd,.int .i64 id,.int .i64 oj,.slice p1 n1 c1,.slice p2 ns c2,.int .i64 fr,.int .i64 ct,.slice p3 n3 c3,.int .i64 cd] 26)).alloc (.cells zL 43):=⟨_,rfl⟩
 have HE2:Hid (Ext w W2):=Bl.hid (by rw [hW2];exact(ext_alloc _ _).trans (ext_alloc _ _))
 have hs2:W2.heap.size=w.heap.size+1+1:=by rw [hW2];simp
 have HB1:Hid (BoxC W2 w.heap.size (cL ⟨kd,id,oj,pl,sh,fr,ct,bl,cd⟩ (.slice p1 n1 c1) (.slice p2 ns c2) (.slice p3 n3 c3))):=Bl.hid (by rw [hW2];exact(BoxC.box w 26 (cL_ne _ _ _ _)).ext (ext_alloc _ _))
 have HB2:Hid (BoxC W2 (w.heap.size+1) (cL lt0 (.slice none 0 0) (.slice none 0 0) (.slice none 0 0))):=Bl.hid (by
  rw [hW2]
  have h:=BoxC.box (w.alloc (.cells #[.int .i64 kd,.int .i64 id,.int .i64 oj,.slice p1 n1 c1,.slice p2 ns c2,.int .i64 fr,.int .i64 ct,.slice p3 n3 c3,.int .i64 cd] 26)) 43 (cL_ne lt0 (.slice none 0 0) (.slice none 0 0) (.slice none 0 0))
  rw [show(w.alloc (.cells #[.int .i64 kd,.int .i64 id,.int .i64 oj,.slice p1 n1 c1,.slice p2 ns c2,.int .i64 fr,.int .i64 ct,.slice p3 n3 c3,.int .i64 cd] 26)).heap.size=w.heap.size+1 from by simp]at h
  exact h)
 obtain⟨hB3,hE3⟩:=BoxC.fresh (cs:=cL ⟨kd,id,oj,pl,sh,fr,ct,bl,cd⟩ (.slice p1 n1 c1) (.slice none 0 0) (.slice p3 n3 c3)) W2 43 zL rfl (cL_ne _ _ _ _)
 have Hst:=Bl.hid (fresh_store (P:=Tryz.prog) (cs:=cL ⟨kd,id,oj,pl,sh,fr,ct,bl,cd⟩ (.slice p1 n1 c1) (.slice none 0 0) (.slice p3 n3 c3)) W2 43 zL rfl (cL_one HC.out.pl.isSl isSl_nil HC.out.bl.isSl) (ty:=43) (by kernel_rfl))
 rw [hs2]at hB3 hE3 Hst
 have HB3:=Bl.hid hB3
 have HE3:=Bl.hid hE3
 clear hB3 hE3
 have Hs2:=Bl.hid hs2
 clear hs2
 show Calls Tryz.prog 12 #[.agg #[.int .i64 kd,.int .i64 id,.int .i64 oj,.slice p1 n1 c1,.slice p2 ns c2,.int .i64 fr,.int .i64 ct,.slice p3 n3 c3,.int .i64 cd]] w _
 go_enter Tryz.func12,Tryz.ntmps12
 go_wp2_with (with_reducible refine stop_store (ty:=43) ?_)
 refine go_on ?_
 rw [<-hW2]
 clear hW2
 refine wpL_store0 rfl rfl Hst.out ?_
 obtain⟨W3,hW3⟩:∃W3,W3=(W2.alloc (.cells zL 43)).setCells (w.heap.size+1+1) 0 (cL ⟨kd,id,oj,pl,sh,fr,ct,bl,cd⟩ (.slice p1 n1 c1) (.slice none 0 0) (.slice p3 n3 c3)):=⟨_,rfl⟩
 rw [<-hW3]at HB3 HE3⊢
 clear hW3 Hst
 have HG0:Hid (GR cS 3 OkF (fun b=>F b\/w.heap.size+1+1 < b) (w.heap.size+1+1) 100 W3 (w.heap.size+1+1) 4 (cL ⟨kd,id,oj,pl,sh,fr,ct,bl,cd⟩ (.slice p1 n1 c1) (.slice none 0 0) (.slice p3 n3 c3)) (.slice none 0 0) []):=Bl.hid (GR.start HB3.out rfl)
 have hq4:=(HB1.out.ext HE3.out).cell (i:=4) rfl
 go_wp2_with fail
 clear hq4 HB3
 go_loopw [29] (fun x wr=>∃(i:Nat) (vs':Value) (M:List Sv),i<=ns/\x= .int .i64 i/\Hid (GR cS 3 OkF (fun b=>F b\/w.heap.size+1+1 < b) (w.heap.size+1+1) 100 wr (w.heap.size+1+1) 4 (cL ⟨kd,id,oj,pl,sh,fr,ct,bl,cd⟩ (.slice p1 n1 c1) vs' (.slice p3 n3 c3)) vs' M/\M.length=i/\M.map plS=sh.take i)/\Ext W2 wr) (fun x _=>ns - (intOf x).toNat)
 case atStart=>exact⟨0,_,[],Nat.zero_le _,rfl,Bl.hid ⟨HG0.out,rfl,rfl⟩,HE3.out⟩
 case round=>
  obtain⟨i,vs',M,hi,rfl,HI,hE⟩:=hrel
  have HE:=Bl.hid hE
  clear hE
  by_cases hlt:i < ns
  ·have hin:i < L.length:=by rw [<-Hns.out];exact hlt
   have HEw:=Bl.hid (HE2.out.trans HE.out)
   have hRA:=HC.out.sh.ext HEw.out
   obtain⟨g,o,cc,hpe,hcn,hcm,hgl,hel⟩:=hRA.pos (by omega)
   injection hpe with hp1 hp2 hp3
   subst hp1 hp3
   have hrg:=hel i hin
   have hok0:=HF0.out.so _ (getD_mem s0 hin)
   have hok:=hRA.ok _ (getD_mem s0 hin)
   have hpl:plS (L.getD i s0)=sh.getD i Bl.h0:=by rw [<-plS_getD];rw [show L.map plS=sh from HC.out.sl]
   have hils:i < sh.length:=by have h:=Hll.out;have h2:sh.length=L.length:=h;omega
   have hpn:(L.getD i s0).2.2.2.length<=1048576:=by
    have:=Hp.out (sh.getD i Bl.h0) (getD_mem Bl.h0 hils)
    rw [<-hpl]at this;exact this
   have Htk:Hid (sh.take (i+1)=sh.take i++[plS (L.getD i s0)]):=Bl.hid (by rw [hpl];exact take_succ_getDD Bl.h0 sh i hils)
   obtain⟨x,hx⟩:∃x,x=L.getD i s0:=⟨_,rfl⟩
   rw [<-hx]at hrg hok hok0 hpn Htk
   clear hx hpl hils
   obtain⟨pc,⟨u1,st⟩,u2,pa⟩:=x
   have Hok0:=Bl.hid hok0
   have Hok:=Bl.hid hok
   obtain⟨q2,d2,hqf,hqn,hqc⟩:=hok.pa.form
   obtain⟨q1,n5,d1,hq1f⟩:=hok.st.isSl
   simp only at hqf hqn hpn hq1f
   subst hqf hq1f
   obtain⟨m,hm⟩:∃m,m=pa.length:=⟨_,rfl⟩
   have Hm:=Bl.hid hm
   rw [<-hm]at hqn hpn hrg
   have hok':OkS wr (pc,(.slice q1 n5 d1,st),.slice q2 m d2,pa):=by rw [hm];exact hok
   have Hld:=Bl.hid (run_loadAt_mid (P:=Tryz.prog) wr g (o+i*3) 57 _ _ hrg Tryz.underlying57 rfl (by rw [cS_len];kernel_rfl))
   obtain⟨hB5,hE5⟩:=BoxC.fresh (cs:=cS (pc,(.slice q1 n5 d1,st),.slice q2 m d2,pa)) wr 57 zSh rfl (cS_ne _)
   have Hst:=Bl.hid (fresh_store (P:=Tryz.prog) (cs:=cS (pc,(.slice q1 n5 d1,st),.slice q2 m d2,pa)) wr 57 zSh rfl (cS_one hok') (ty:=57) (by rw [cS_len];kernel_rfl))
   have HB5:=Bl.hid hB5
   have HE5:=Bl.hid hE5
   have hi0:(0:Int)<=(i:Int):=by omega
   have hi1:(i:Int) < (ns:Int):=by omega
   have HX3:Hid (w.heap.size+1+1 < wr.heap.size/\∀k,vs'.ownBlock=some k->k < wr.heap.size):=Bl.hid ⟨HI.out.1.box.lt,fun k hk=>(HI.out.1.own.lt k hk).2⟩
   clear hel hrg hok hok0 hok' hp2 hcn hcm hin hRA hB5 hE5 hm hqc
   go_wp2_with (with_reducible refine stop_load (ty:=57) ?_)
   refine go_on ?_
   refine wpL_load rfl Hld.out ?_
   go_wp2_with (with_reducible refine stop_store (ty:=57) ?_)
   refine go_on ?_
   refine wpL_store0 rfl rfl Hst.out ?_
   obtain⟨W5,hW5⟩:∃W5,W5=(wr.alloc (.cells zSh 57)).setCells wr.heap.size 0 (cS (pc,(.slice q1 n5 d1,st),.slice q2 m d2,pa)):=⟨_,rfl⟩
   obtain⟨X5,hX5⟩:∃X5,X5=wr.heap.size:=⟨_,rfl⟩
   rw [<-hW5]at HB5 HE5⊢
   rw [<-hX5]at HB5 HX3⊢
   have HX5:Hid (X5<=W5.heap.size):=Bl.hid (by rw [hX5];exact HE5.out.size)
   clear hW5 hX5 Hst Hld
   obtain⟨hB6,hE6⟩:=BoxC.fresh (cs:=[.int .i64 pc,.slice q1 n5 d1,.slice none 0 0]) W5 100 zSh rfl (fun h=>by cases h)
   have Hst:=Bl.hid (fresh_store (P:=Tryz.prog) (cs:=[.int .i64 pc,.slice q1 n5 d1,.slice none 0 0]) W5 100 zSh rfl (cS3_one Hok.out.st.isSl isSl_nil) (ty:=100) (by kernel_rfl))
   have HB6:=Bl.hid hB6
   have HE6:=Bl.hid hE6
   have g0:=HB5.out.cell (i:=0) rfl
   have g1:=HB5.out.cell (i:=1) rfl
   clear hB6 hE6
   go_wp2_with (with_reducible refine stop_store (ty:=100) ?_)
   refine go_on ?_
   refine wpL_store0 rfl rfl Hst.out ?_
   obtain⟨W6,hW6⟩:∃W6,W6=(W5.alloc (.cells zSh 100)).setCells W5.heap.size 0 [.int .i64 pc,.slice q1 n5 d1,.slice none 0 0]:=⟨_,rfl⟩
   obtain⟨X6,hX6⟩:∃X6,X6=W5.heap.size:=⟨_,rfl⟩
   rw [<-hW6]at HB6 HE6⊢
   rw [<-hX6]at HB6⊢
   have HX6:=Bl.hid hX6
   clear hW6 hX6 Hst g0 g1
   have g2:=(HB5.out.ext HE6.out).cell (i:=2) rfl
   have HG6:Hid (GR (ints .u8) 32 OkT (fun _=>True) W5.heap.size 52 W6 X6 2 [.int .i64 pc,.slice q1 n5 d1,.slice none 0 0] (.slice none 0 0) []):=Bl.hid (GR.start HB6.out rfl)
   go_wp2_with fail
   clear g2 HB5
   go_loopw [41] (fun y wq=>∃(j:Nat) (vq:Value),j<=m/\y= .int .i64 j/\Hid (GR (ints .u8) 32 OkT (fun _=>True) W5.heap.size 52 wq X6 2 [.int .i64 pc,.slice q1 n5 d1,vq] vq (pa.take j))/\Ext W5 wq) (fun y _=>m - (intOf y).toNat)
   case atStart=>exact⟨0,_,Nat.zero_le _,rfl,HG6,HE6.out⟩
   case round=>
    obtain⟨j,vq,hj,rfl,HJ,hE7⟩:=hrel
    have HE7:=Bl.hid hE7
    clear hE7
    by_cases hjt:j < m
    ·have hjp:j < pa.length:=by rw [<-Hm.out];exact hjt
     obtain⟨b1,o1,c1,hpa,hpa1,hpa2,hbl1,hrg1⟩:=RdD.pos (Rds.ext (Rds.ext Hok.out.pa HE5.out) HE7.out) Hok.out.dg (by have:=Hm.out;simp only;omega)
     injection hpa with hpa hpa3 hpa4
     subst hpa
     have hr1:=digit_at hrg1 Hok.out.dg (i:=j) hjp
     obtain⟨hl1,_⟩:=Hok.out.dg.get (i:=j) hjp
     have Ht1:=Bl.hid (take_succ_getDD [] pa j hjp)
     have Htl:Hid ((pa.take j).length=j):=Bl.hid (by rw [List.length_take];have:=Hm.out;omega)
     simp only at hr1 hl1
     obtain⟨d,hd⟩:∃d,d=pa.getD j []:=⟨_,rfl⟩
     rw [<-hd]at hr1 hl1 Ht1
     have Hld:=Bl.hid (load_ints (P:=Tryz.prog) (ty:=54) hr1 Tryz.underlying54 (by kernel_rfl) hl1)
     have hne1:ints .u8 d≠[]:=fun q=>by have:=congrArg List.length q;rw [ints_length,hl1]at this;cases this
     obtain⟨hB8,hE8⟩:=BoxC.fresh (cs:=ints .u8 d) wr 54 #[.int .u8 0,.int .u8 0,.int .u8 0,.int .u8 0,.int .u8 0,.int .u8 0,.int .u8 0,.int .u8 0,.int .u8 0,.int .u8 0,.int .u8 0,.int .u8 0,.int .u8 0,.int .u8 0,.int .u8 0,.int .u8 0,.int .u8 0,.int .u8 0,.int .u8 0,.int .u8 0,.int .u8 0,.int .u8 0,.int .u8 0,.int .u8 0,.int .u8 0,.int .u8 0,.int .u8 0,.int .u8 0,.int .u8 0,.int .u8 0,.int .u8 0,.int .u8 0] (by rw [ints_length,hl1];rfl) hne1
     have Hst:=Bl.hid (fresh_store (P:=Tryz.prog) (cs:=ints .u8 d) wr 54 #[.int .u8 0,.int .u8 0,.int .u8 0,.int .u8 0,.int .u8 0,.int .u8 0,.int .u8 0,.int .u8 0,.int .u8 0,.int .u8 0,.int .u8 0,.int .u8 0,.int .u8 0,.int .u8 0,.int .u8 0,.int .u8 0,.int .u8 0,.int .u8 0,.int .u8 0,.int .u8 0,.int .u8 0,.int .u8 0,.int .u8 0,.int .u8 0,.int .u8 0,.int .u8 0,.int .u8 0,.int .u8 0,.int .u8 0,.int .u8 0,.int .u8 0,.int .u8 0] (by rw [ints_length,hl1];rfl) (ints_one _ _) (ty:=54) (by rw [ints_length,hl1];kernel_rfl))
     have HB8:=Bl.hid hB8
     have HE8:=Bl.hid hE8
     have Hl1:=Bl.hid hl1
     have hj0:(0:Int)<=(j:Int):=by omega
     have hj1:(j:Int) < (m:Int):=by omega
     clear hrg1 hr1 hl1 hne1 hd hB8 hE8 hpa1 hpa2 hpa3 hpa4 hbl1 hjp
     go_wp2_with (with_reducible refine stop_load (ty:=54) ?_)
     refine go_on ?_
     refine wpL_load rfl Hld.out ?_
     go_wp2_with (with_reducible refine stop_store (ty:=54) ?_)
     refine go_on ?_
     refine wpL_store0 rfl rfl Hst.out ?_
     obtain⟨W8,hW8⟩:∃W8,W8=(wr.alloc (.cells #[.int .u8 0,.int .u8 0,.int .u8 0,.int .u8 0,.int .u8 0,.int .u8 0,.int .u8 0,.int .u8 0,.int .u8 0,.int .u8 0,.int .u8 0,.int .u8 0,.int .u8 0,.int .u8 0,.int .u8 0,.int .u8 0,.int .u8 0,.int .u8 0,.int .u8 0,.int .u8 0,.int .u8 0,.int .u8 0,.int .u8 0,.int .u8 0,.int .u8 0,.int .u8 0,.int .u8 0,.int .u8 0,.int .u8 0,.int .u8 0,.int .u8 0,.int .u8 0] 54)).setCells wr.heap.size 0 (ints .u8 d):=⟨_,rfl⟩
     obtain⟨X8,hX8⟩:∃X8,X8=wr.heap.size:=⟨_,rfl⟩
     rw [<-hW8]at HB8 HE8⊢
     rw [<-hX8]at HB8⊢
     clear hW8 hX8 Hst Hld
     have HG8:=Bl.hid (GR.ext stab_okT HJ.out HE8.out)
     have gq:=HG8.out.cell
     have Hl8:=Bl.hid (load_ints (P:=Tryz.prog) (ty:=54) HB8.out.rg Tryz.underlying54 (by kernel_rfl) Hl1.out)
     go_wp2_with (with_reducible refine stop_load (ty:=54) ?_)
     refine go_on ?_
     refine wpL_load rfl Hl8.out ?_
     go_wp2_with (with_reducible refine stop_build (ty:=96) ?_)
     refine go_on ?_
     refine wpL_build1 tArr (by decide) rfl (by simp [Hl1.out]) ?_
     have HE9:Hid (Ext W8 (W8.alloc (.cells (ints .u8 d).toArray 52))):=Bl.hid (ext_alloc _ _)
     have HR9:=Bl.hid (rds_box W8 52 (ints .u8 d))
     obtain⟨W9,hW9⟩:∃W9,W9=W8.alloc (.cells (ints .u8 d).toArray 52):=⟨_,rfl⟩
     obtain⟨X9,hX9⟩:∃X9,X9=W8.heap.size:=⟨_,rfl⟩
     rw [<-hW9]at HE9 HR9⊢
     rw [<-hX9]at HR9⊢
     clear hW9 hX9 gq
     have HG9:=Bl.hid (GR.ext stab_okT HG8.out HE9.out)
     have HEw9:=Bl.hid ((HE7.out.trans HE8.out).trans HE9.out)
     go_wp2_with (with_reducible refine stop_append ?_)
     refine go_on ?_
     refine wpL_app tArr (HG9.out.own' Htl.out) HR9.out rfl rfl (by rw [ints_length,Hl1.out]) (ints_one _ _) (by unfold maxLen;omega) (by omega) (HEw9.out.size) ?_
     intro p10 c10 w10 hown10 hg10 hB10 hK10 hn10 hc10
     have HP:=Bl.hid (GR.push (y:=d) stab_okT HG9.out Htl.out hown10 hg10 hK10 trivial)
     have gb:=(HG9.out.mid hg10).cell HG9.out.fld
     have gf:=(HG9.out.mid hg10).fz HG9.out.lt
     have HE10:=Bl.hid (Below.trans HEw9.out hB10)
     clear hown10 hg10 hB10 hK10 hn10 hc10
     go_wp2_with fail
     go_roundw
     case rel=>exact⟨j+1,_,by omega,by go_num,Bl.hid (by rw [Ht1.out];exact HP.out),Below.setCell HE10.out (by rw [HX6.out];exact Nat.le_refl _) _⟩
     case measure=>simp [intOf];omega
    ·obtain rfl:j=m:=by omega
     clear hjt hj
     have HG11:=Bl.hid (GR.ext stab_okF HI.out.1 (HE5.out.trans HE7.out))
     have HMl:=Bl.hid HI.out.2.1
     have HMm:=Bl.hid HI.out.2.2
     have Hpt:Hid (pa.take j=pa):=Bl.hid (List.take_of_length_le (by rw [<-Hm.out];exact Nat.le_refl _))
     have HJb:=Bl.hid HJ.out.box
     have Hvq:=Bl.hid (HJ.out.own' (n:=j) (by rw [List.length_take,<-Hm.out,Nat.min_self]))
     rw [Hpt.out]at Hvq
     obtain⟨pq,cq,hvq,_,_⟩:=(Rds.of_owns Hvq.out).form
     subst hvq
     clear HI HJ
     have gq:=HG11.out.cell
     have Hl8:=Bl.hid (HJb.out.load (P:=Tryz.prog) Tryz.underlying100 rfl (by kernel_rfl))
     go_wp2_with (with_reducible refine stop_load (ty:=100) ?_)
     refine go_on ?_
     refine wpL_load rfl Hl8.out ?_
     go_wp2_with (with_reducible refine stop_build (ty:=41) ?_)
     refine go_on ?_
     refine wpL_build1 tShR (by decide) rfl rfl ?_
     have HE12:Hid (Ext wr (wr.alloc (.cells ([.int .i64 pc,.slice q1 n5 d1,.slice pq j cq]:List Value).toArray 100))):=Bl.hid (ext_alloc _ _)
     have HR12:=Bl.hid (rds_box wr 100 [.int .i64 pc,.slice q1 n5 d1,.slice pq j cq])
     obtain⟨W12,hW12⟩:∃W12,W12=wr.alloc (.cells ([.int .i64 pc,.slice q1 n5 d1,.slice pq j cq]:List Value).toArray 100):=⟨_,rfl⟩
     obtain⟨X12,hX12⟩:∃X12,X12=wr.heap.size:=⟨_,rfl⟩
     rw [<-hW12]at HE12 HR12⊢
     rw [<-hX12]at HR12⊢
     clear hW12 hX12 gq
     have HG12:=Bl.hid (GR.ext stab_okF HG11.out HE12.out)
     have HEw12:=Bl.hid ((HE.out.trans (HE5.out.trans HE7.out)).trans HE12.out)
     have HOy:Hid (OkF (fun b=>b≠w.heap.size+1+1/\vs'.ownBlock≠some b/\(F b\/w.heap.size+1+1 < b)) W12 (pc,(.slice q1 n5 d1,st),.slice pq j cq,pa)):=Bl.hid (by
      refine⟨RdsF.kept Hok0.out.st (fun b hb _=> ?_),Hok0.out.bs,RdsF.of_rds (Rds.ext (by rw [<-Hm.out];exact Rds.of_owns Hvq.out) HE12.out) (fun b hb _=> ?_),Hok0.out.dg⟩
      ·have hb':=HFl.out b hb
       refine⟨⟨by omega,fun q=> ?_,.inl hb⟩,(HE2.out.trans HEw12.out).block b hb'⟩
       have:=(HG12.out.own.lt b q).1;omega
      ·have h1:=(Hvq.out.lt b hb).1
       have h2:=HX5.out
       have h3:=HX3.out.1
       refine⟨by omega,fun q=> ?_,.inr (by omega)⟩
       have:=HX3.out.2 b q
       omega)
     go_wp2_with (with_reducible refine stop_append ?_)
     refine go_on ?_
     refine wpL_app tShR (HG12.out.own' HMl.out) HR12.out rfl rfl rfl (cS3_one ⟨_,_,_,rfl⟩ ⟨_,_,_,rfl⟩) (by unfold maxLen;omega) (by omega) (by have:=HEw12.out.size;rw [Hs2.out]at this;exact this) ?_
     intro p10 c10 w10 hown10 hg10 hB10 hK10 hn10 hc10
     have HP:=Bl.hid (GR.push (y:=(pc,(.slice q1 n5 d1,st),.slice pq j cq,pa)) stab_okF HG12.out HMl.out hown10 hg10 hK10 HOy.out)
     have gb:=(HG12.out.mid hg10).cell HG12.out.fld
     have gf:=(HG12.out.mid hg10).fz HG12.out.lt
     have HE10:Hid (Ext W2 w10):=Bl.hid (Below.trans HEw12.out (by rw [Hs2.out];exact hB10))
     clear hown10 hg10 hB10 hK10 hn10 hc10
     go_wp2_with fail
     go_roundw
     case rel=>exact⟨i+1,_,_,by omega,by go_num,Bl.hid ⟨HP.out,by rw [List.length_append,HMl.out];rfl,by rw [List.map_append,HMm.out,Htk.out];rfl⟩,Below.setCell HE10.out (by rw [Hs2.out];exact Nat.le_refl _) _⟩
     case measure=>simp [intOf];omega
  ·obtain rfl:i=ns:=by omega
   have HBx:=Bl.hid HI.out.1.box
   have HBr:=Bl.hid (HB2.out.ext HE.out)
   have Hsl:=Bl.hid (Rds.of_owns HI.out.1.own).isSl
   have Hl3:=Bl.hid (HBx.out.load (P:=Tryz.prog) Tryz.underlying43 rfl (by kernel_rfl))
   have Hst:=Bl.hid (HBr.out.store (P:=Tryz.prog) (cs':=cL ⟨kd,id,oj,pl,sh,fr,ct,bl,cd⟩ (.slice p1 n1 c1) vs' (.slice p3 n3 c3)) rfl (cL_one ⟨_,_,_,rfl⟩ Hsl.out ⟨_,_,_,rfl⟩) (ty:=43) (by kernel_rfl))
   have Hlv:=Bl.hid ((HBr.out.set (cs':=cL ⟨kd,id,oj,pl,sh,fr,ct,bl,cd⟩ (.slice p1 n1 c1) vs' (.slice p3 n3 c3)) rfl).loadVar (P:=Tryz.prog) Tryz.underlying43 rfl (by kernel_rfl))
   have HEf:Hid (Ext w (wr.setCells (w.heap.size+1) 0 (cL ⟨kd,id,oj,pl,sh,fr,ct,bl,cd⟩ (.slice p1 n1 c1) vs' (.slice p3 n3 c3)))):=Bl.hid (below_setCells _ _ _ _ (HE2.out.trans HE.out) (Nat.le_succ _))
   have HLt:Hid (LtF (fun k=>F k\/w.heap.size<=k) (wr.setCells (w.heap.size+1) 0 (cL ⟨kd,id,oj,pl,sh,fr,ct,bl,cd⟩ (.slice p1 n1 c1) vs' (.slice p3 n3 c3))) ⟨kd,id,oj,pl,sh,fr,ct,bl,cd⟩ (.slice p1 n1 c1) vs' (.slice p3 n3 c3) M):=Bl.hid (by
    have hk:∀b,b≠w.heap.size+1->(wr.setCells (w.heap.size+1) 0 (cL ⟨kd,id,oj,pl,sh,fr,ct,bl,cd⟩ (.slice p1 n1 c1) vs' (.slice p3 n3 c3))).heap[b]? =wr.heap[b]? :=fun b hb=>exc_setCells _ _ _ (Exc.refl _ _) b hb
    have hk0:∀b,F b->b < w.heap.size->(F b\/w.heap.size<=b)/\(wr.setCells (w.heap.size+1) 0 (cL ⟨kd,id,oj,pl,sh,fr,ct,bl,cd⟩ (.slice p1 n1 c1) vs' (.slice p3 n3 c3))).heap[b]? =w.heap[b]? :=fun b hb hl=>⟨.inl hb,HEf.out.block b hl⟩
    obtain⟨M0,b1,b2,b3⟩:=HF0.out.bl
    refine⟨HF0.out.pl.kept hk0,RdsF.of_rds (Rds.kept (Rds.of_owns HI.out.1.own) (fun k q _=>hk k (by have:=(HI.out.1.own.lt k q).1;omega))) (fun k q _=> .inr (by have:=(HI.out.1.own.lt k q).1;omega)),fun x hx=>stab_okF _ _ _ _ _ (HI.out.1.ok x hx) (fun b hb _=>⟨?_,hk b ?_⟩),?_,M0,b1.kept hk0,fun y hy=>stab_okB _ _ _ _ _ (b2 y hy) hk0,b3⟩
    ·rcases hb.2.2 with q | q
     ·exact .inl q
     ·exact .inr (by omega)
    ·rcases hb.2.2 with q | q
     ·have:=HFl.out b q;omega
     ·omega
    rw [HI.out.2.2]
    have h:sh.length=L.length:=Hll.out
    exact List.take_of_length_le (by have:=Hns.out;omega))
   clear HI HB2 HBx HBr
   go_wp2_with (with_reducible refine stop_load (ty:=43) ?_)
   refine go_on ?_
   refine wpL_load rfl Hl3.out ?_
   go_wp2_with (((with_reducible refine wpL_store ?_ ?_ Hst.out ?_);rfl;rfl))
   refine bodyPost_ret (v:= .agg (cL ⟨kd,id,oj,pl,sh,fr,ct,bl,cd⟩ (.slice p1 n1 c1) vs' (.slice p3 n3 c3)).toArray) (results_cell rfl rfl Hlv.out) rfl ⟨_,M,rfl,HLt.out,HEf.out⟩
theorem of22_fr (F:Nat->Prop) (l:Bl.LT) (vp vs vb:Value) (L:List Sv) (w:World) (h:LtF F w l vp vs vb L) (hl:l.shown.length<=1048576) (hp:∀s∈l.shown,s.2.2.length<=1048576):
  Calls Tryz.prog 12 #[.agg (cL l vp vs vb).toArray] w fun e w'=>∃vs' L',e= .returned (.agg (cL l vp vs' vb).toArray)/\LtF (fun k=>F k\/w.heap.size<=k) w' l vp vs' vb L'/\Ext w w':=by
 refine(of22_fr0 (fun i=>F i/\i < w.heap.size) l vp vs vb L w (h.kept fun i hi hl=>⟨⟨hi,hl⟩,rfl⟩) (fun i q=>q.2) hl hp).mono ?_
 rintro e w' ⟨vs',L',h1,h2,h3⟩
 exact⟨vs',L',h1,h2.kept fun i q _=>⟨q.imp (fun q=>q.1) id,rfl⟩,h3⟩
end Go.Proofs.YtglenbikdahgjaaGreatDoor
namespace Go.Proofs.Bl
open Go
theorem sha_len (l:List Int):(sha l).length=32:=rfl
theorem seqP_clash {n i:Nat} {l l':List Int} {p p':List (List Int)} (hp:p.length=(turnsL n i).length) (hp':p'.length=(turnsL n i).length) (hd:∀k,k < p.length->(p.getD k []).length=32) (hd':∀k,k < p'.length->(p'.getD k []).length=32)
  (hroot:foldP ndD n i (lfD l) p=foldP ndD n i (lfD l') p') (k:Nat) (hk:k<=(turnsL n i).length) (hsame:∀j,k < j->j<=(turnsL n i).length->(seqP n i l p).getD j []=(seqP n i l' p').getD j []):
  sha ((seqP n i l p).getD k [])=sha ((seqP n i l' p').getD k []):=by
 by_cases he:k=(turnsL n i).length
 ·subst he;rw [seqP_last hp,seqP_last hp',hroot]
 ·have h:=hsame (k+1) (by omega) (by omega)
  rw [seqP_succ hp k (by omega),seqP_succ hp' k (by omega)]at h
  unfold stB at h
  split at h
  ·exact(inB_inj h (by rw [sha_len,sha_len])).1
  ·exact(inB_inj h (by rw [hd k (by omega),hd' k (by omega)])).2
end Go.Proofs.Bl
namespace Go.Proofs.YtglenbikdahgjaaGreatDoor
open Go Go.RowKit Go.Proofs Go.Proofs.Bl
attribute [local go_sem] Oper.semAt_some
theorem backB_any (w:World) (p:Option Addr) (n c:Nat):
  Calls Tryz.prog 54 #[.slice p n c] w fun e w'=>e= .returned (.func (.func 93) #[] #[.pointer (some ⟨w.heap.size,0,none⟩)])/\w'=w.alloc (.cells #[.slice p n c] 22):=by
 go_enter Tryz.func54,Tryz.ntmps54
 go_wp2
 go_ret
 exact⟨rfl,rfl⟩
theorem backB_in (n lr Bs gw n₀ b off m cap:Nat) (vs:List Value) (hn:1<=n) (hvs:vs.length=m) (hm1:0 < m) (hcap:m<=cap) (hmax:m<=1099511627776) (hBs:Bs < n₀) (hBsg:Bs≠gw) (hb:b < n₀) (hbg:b≠gw) (J Jx:List (Fin m)->World->Prop)
  (hY:∀pre x W,J pre W->pre.length < m->YieldAt Fence.wide (n - 1) Tryz.prog lr #[.int .i64 ((m - 1 - x.val:Nat):Int),vs.getD (m - 1 - x.val) undef] W fun e W'=>
   (e= .returned (.bool true)/\J (pre++[x]) W'/\Keep gw n₀ W W')\/(e= .returned (.bool false)/\Jx (pre++[x]) W'))
  (W:World) (hcs:W.cell? ⟨Bs,0,none⟩=some (.slice (some ⟨b,off,none⟩) m cap)) (hrg:W.rangeAt b off vs) (h0:J [] W) (_hn₀:n₀<=W.heap.size):
  CallsIn Fence.wide n Tryz.prog 93 #[.func (.yield lr) #[] #[],.pointer (some ⟨Bs,0,none⟩)] W fun e W'=>(∃v,e= .returned v)/\
   ((∃xs,xs=List.finRange m/\J xs W')\/(∃pre,(∃k,k<=m/\pre=chunks m k)/\Jx pre W')):=by
 refine callsIn_of_wp Tryz.func93 rfl trivial ?_ rfl
 simp only [Tryz.ntmps93,List.size_toArray,List.length_cons,List.length_nil,Nat.reduceAdd,Nat.reduceSub,Array.replicate_succ,Array.replicate_zero,List.push_toArray,List.append_toArray,List.nil_append,List.cons_append]
 gi_wp2
 gi_loopw [3] (fun i wr=>∃k:Nat,k<=m/\i= .int .i64 ((m:Int) - 1 - k)/\J (chunks m k) wr/\Keep gw n₀ W wr)
  (fun i _=>(intOf i+1).toNat)
 case atStart=>exact⟨0,Nat.zero_le _,by simp,h0,Keep.refl _ _ _⟩
 case round=>
  obtain⟨k,hk,rfl,hJs,hnx⟩:=hrel
  have hcs':=(hnx.cell (i:=0) hBs hBsg).trans hcs
  by_cases hlt:k < m
  ·obtain⟨j,hj⟩:∃j,j=m - 1 - k:=⟨_,rfl⟩
   have hji:(m:Int) - 1 - (k:Int)=(j:Int):=by omega
   have hcj:wr.cell? ⟨b,off+j,none⟩=some (vs.getD j undef):=by
    rw [hnx.cell hb hbg]
    refine hrg j _ ?_
    rw [List.getD_eq_getElem?_getD,List.getElem?_eq_getElem (by omega)];rfl
   have hYk:=hY _ ⟨k,hlt⟩ wr hJs (by rw [chunks_length _ _ hk];exact hlt)
   rw [show m - 1 - (⟨k,hlt⟩:Fin m).val=j from hj.symm]at hYk
   rw [hji]
   have hj0:(0:Int)<=(j:Int):=by omega
   have hjm:(j:Int) < (m:Int):=by omega
   have hk3:(j:Int) - 1=(m:Int) - 1 - ((k+1:Nat):Int):=by omega
   have Hk3:=Bl.hid hk3
   generalize vs.getD j undef=vj at hcj hYk
   clear hk3 hji hj
   obtain⟨fn,tmps,assign,body,hy,hR⟩:=hYk
   try dsimp only at hy
   gi_wp2
   refine hR.mono ?_
   rintro e W3 (⟨rfl,hJ3,hk3⟩ | ⟨rfl,hJx3⟩)
   ·have hcs3:=(hk3.cell (i:=0) hBs hBsg).trans hcs'
    gi_wp2
    go_roundw
    case rel=>exact⟨k+1,by omega,by rw [<-Hk3.out],by rw [chunks_succ _ _ hlt];exact hJ3,hnx.trans hk3⟩
    case measure=>simp [intOf]
   ·gi_wp2
    refine bodyPost_ret (results_none rfl _ _ _) rfl ?_
    exact⟨⟨_,rfl⟩,.inr ⟨_,⟨k+1,by omega,(chunks_succ _ _ hlt).symm⟩,hJx3⟩⟩
  ·obtain rfl:k=m:=by omega
   have hneg:(k:Int) - 1 - (k:Int)= -1:=by omega
   rw [hneg]
   gi_wp2
   go_end0
   exact⟨⟨_,rfl⟩,.inl ⟨_,rfl,by rw [<-chunks_all];exact hJs⟩⟩
theorem backB_stops (n Bs gw b off m cap:Nat) (vs:List Value) (hn:1<=n) (hvs:vs.length=m) (hm1:0 < m) (hcap:m<=cap) (hmax:m<=1099511627776) (w:World) (hBs:Bs < w.heap.size) (hBsg:Bs≠gw) (hb:b < w.heap.size) (hbg:b≠gw)
  (hcs:w.cell? ⟨Bs,0,none⟩=some (.slice (some ⟨b,off,none⟩) m cap)) (hrg:w.rangeAt b off vs):
  SeqStopsK Fence.wide n Tryz.prog 93 #[.pointer (some ⟨Bs,0,none⟩)] (fun x:Fin m=>#[.int .i64 ((m - 1 - x.val:Nat):Int),vs.getD (m - 1 - x.val) undef]) (Keep gw w.heap.size) (fun xs=>xs=List.finRange m) (fun pre=>∃k,k<=m/\pre=chunks m k) m w:=
 fun l J Jx W hW _ _ hY h0=>
  backB_in n l Bs gw w.heap.size b off m cap vs hn hvs hm1 hcap hmax hBs hBsg hb hbg J Jx hY W ((hW.cell (p:=⟨Bs,0,none⟩) hBs).trans hcs) (fun j v hv=>(hW.cell (p:=⟨b,off+j,none⟩) hb).trans (hrg j v hv)) h0 hW.size
attribute [local go_sem] Oper.semAt_some
end Go.Proofs.YtglenbikdahgjaaGreatDoor
namespace Go.Proofs.Bl
open Go Go.RowKit
def parts (l:List Int) (m:Nat):List (List Int):=(List.finRange m).map fun x=>(l.drop (32*x.val)).take 32
def KC (w w':World):Prop:=∀a v,w.cell? a=some v->w'.cell? a=some v
theorem KC.refl (w:World):KC w w:=fun _ _ h=>h
theorem KC.trans {a b c:World} (h:KC a b) (k:KC b c):KC a c:=fun x v hv=>k x v (h x v hv)
theorem KC.range {w w':World} (h:KC w w') {b o:Nat} {cs:List Value} (hr:w.rangeAt b o cs):w'.rangeAt b o cs:=fun j v hv=>h _ _ (hr j v hv)
theorem Rds.kc {w w':World} {v:Value} {n:Nat} {cs:List Value} (h:Rds w v n cs) (k:KC w w'):Rds w' v n cs:=by
 rcases h with h | ⟨b,o,c,h1,h2,h3,h4⟩
 ·exact .inl h
 ·exact .inr ⟨b,o,c,h1,h2,h3,k.range h4⟩
theorem KC.putObj {w:World} {D:Nat} {o:Obj} (o':Obj) (h:w.heap[D]? =some o) (ho:o.isCells=false):KC w (w.putObj D o'):=fun a v hv=>
 cell_kept hv (grownBy_putObj' w D o') (fun r e=>by cases e;exact⟨o,h,ho⟩)
theorem leaves_kc {P:Program} {n:Nat} {fn:Func} {tmps:Array Value} {R:Ending->World->Prop} {B:Nat}:∀(ds:List Deferred) (N:Nat) (w:World),Marks B w N ds->
  (∀w',Below B w w'->KC w w'->∃v,(results fn tmps).run P w'= .ok v w'/\R (.returned v) w')->LeavesInM Fence.wide n P fn tmps R ds .returning w
 | [],_,w,_,h=>by
  simp only [LeavesInM,LeavesIn]
  exact h w (Below.refl _ _) (KC.refl _)
 | _ :: ds,_,w,⟨D,hd,hB,_,hD,hm⟩,h=>by
  subst hd
  have hlt:D < w.heap.size:=(Array.getElem?_eq_some_iff.1 hD).1
  have hb:Below B w (w.putObj D (.deferred none)):=(Below.refl B w).grown (grownBy_putObj' w D (.deferred none)) (by omega) (fun k e=>by cases e;omega)
  refine⟨by simp,.inl ⟨_,_,rfl,run_takeDeferred hD,?_⟩⟩
  refine leaves_kc ds D _ (Marks.keep ds D (fun k _ hk _=>World.putObj_heap_other (by omega)) hm) ?_
  intro w' hw' hk'
  exact h w' (hb.trans hw') ((KC.putObj _ hD rfl).trans hk')
end Go.Proofs.Bl
namespace Go.Proofs.YtglenbikdahgjaaGreatDoor
open Go Go.RowKit Go.Proofs Go.Proofs.Bl
attribute [local go_sem] Oper.semAt_some
end Go.Proofs.YtglenbikdahgjaaGreatDoor
namespace Go.Proofs.Bl
open Go Go.RowKit
theorem loadVar_one {P:Program} {w:World} {b:Nat} {ty:TypeId} {v:Value} (hc:w.cell? ⟨b,0,none⟩=some v) (ha:∀w,(isAgg ty).run P w= .ok false w):(loadVar ty ⟨b,0,none⟩).run P w= .ok v w:=by
 simp [loadVar,Sem.run_bind,ha,run_load,hc]
def ClashR (w':World) (x y:Value):Prop:=∃X Y,Rd w' .u8 x X/\Rd w' .u8 y Y/\Byt X/\Byt Y/\X≠Y/\sha X=sha Y/\X.length<=1099511627000/\Y.length<=1099511627000
theorem frozen_new1 (w:World) (v:Value) (t:TypeId):(w.alloc (.cells #[v] t)).frozen? ⟨w.heap.size,0,none⟩=false:=by simp
theorem three_new (w:World) (x y z:Value) (t1 t2 t3:TypeId):
  (((w.alloc (.cells #[x] t1)).alloc (.cells #[y] t2)).alloc (.cells #[z] t3)).cell? ⟨w.heap.size,0,none⟩=some x/\(((w.alloc (.cells #[x] t1)).alloc (.cells #[y] t2)).alloc (.cells #[z] t3)).cell? ⟨w.heap.size+1,0,none⟩=some y/\(((w.alloc (.cells #[x] t1)).alloc (.cells #[y] t2)).alloc (.cells #[z] t3)).cell? ⟨w.heap.size+1+1,0,none⟩=some z/\
  (((w.alloc (.cells #[x] t1)).alloc (.cells #[y] t2)).alloc (.cells #[z] t3)).frozen? ⟨w.heap.size,0,none⟩=false/\(((w.alloc (.cells #[x] t1)).alloc (.cells #[y] t2)).alloc (.cells #[z] t3)).frozen? ⟨w.heap.size+1,0,none⟩=false/\(((w.alloc (.cells #[x] t1)).alloc (.cells #[y] t2)).alloc (.cells #[z] t3)).frozen? ⟨w.heap.size+1+1,0,none⟩=false/\
  (((w.alloc (.cells #[x] t1)).alloc (.cells #[y] t2)).alloc (.cells #[z] t3)).heap.size=w.heap.size+1+1+1:=by
 have s1:(w.alloc (.cells #[x] t1)).heap.size=w.heap.size+1:=World.size_alloc _ _
 have s2:((w.alloc (.cells #[x] t1)).alloc (.cells #[y] t2)).heap.size=w.heap.size+1+1:=by rw [World.size_alloc,s1]
 have cx:=cell_new1 w x t1
 have fx:=frozen_new1 w x t1
 have cy:=cell_new1 (w.alloc (.cells #[x] t1)) y t2
 have fy:=frozen_new1 (w.alloc (.cells #[x] t1)) y t2
 have cz:=cell_new1 ((w.alloc (.cells #[x] t1)).alloc (.cells #[y] t2)) z t3
 have fz:=frozen_new1 ((w.alloc (.cells #[x] t1)).alloc (.cells #[y] t2)) z t3
 have e2:=bcell (ext_alloc (w.alloc (.cells #[x] t1)) (.cells #[y] t2))
 have e3:=bcell (ext_alloc ((w.alloc (.cells #[x] t1)).alloc (.cells #[y] t2)) (.cells #[z] t3))
 rw [s1]at cy fy
 rw [s2]at cz fz
 exact⟨(e3.1 _ 0 (by omega)).trans ((e2.1 _ 0 (by omega)).trans cx),(e3.1 _ 0 (by omega)).trans cy,cz,(e3.2 _ 0 (by omega)).trans ((e2.2 _ 0 (by omega)).trans fx),(e3.2 _ 0 (by omega)).trans fy,fz,by rw [World.size_alloc,s2]⟩
theorem chunks_snoc {m k:Nat} {p:List (Fin m)} {x:Fin m} (hk:k<=m) (h:p++[x]=chunks m k):p=chunks m x.val:=by
 cases k with
 | zero=>simp [chunks]at h
 | succ k=>
  rw [chunks_succ m k (by omega)]at h
  have h2:=List.append_inj_right' h rfl
  injection h2 with h2
  rw [h2]
  exact List.append_inj_left' h rfl
theorem chunks_mem {m k:Nat} (j:Nat) (hj:j < k) (hk:k<=m):(⟨j,by omega⟩:Fin m)∈chunks m k:=by
 have:(chunks m k)[j]? =some ⟨j,by omega⟩:=by
  unfold chunks
  rw [List.getElem?_take,if_pos hj,List.getElem?_eq_getElem (by simp;omega)];simp
 exact List.mem_of_getElem? this
theorem Rdss.rows {w:World} {v:Value} {ps:List (List Int)} (h:Rdss w v ps) (h0:0 < ps.length):∃b o c vs,v= .slice (some ⟨b,o,none⟩) ps.length c/\ps.length<=c/\b < w.heap.size/\vs.length=ps.length/\w.rangeAt b o vs/\∀j,j < ps.length->∃q d,vs.getD j undef= .slice q (ps.getD j []).length d/\Rd w .u8 (.slice q (ps.getD j []).length d) (ps.getD j []):=by
 obtain⟨vs,hv,hvl,hr⟩:=h
 rcases hv with ⟨_,h1,_⟩ | ⟨b,o,c,h1,h2,h3,h4⟩
 ·omega
 ·refine⟨b,o,c,vs,h1,h2,rangeAt_lt h4 (fun q=>by rw [q]at hvl;simp at hvl;omega),hvl,h4,fun j hj=> ?_⟩
  have h5:=hr j hj
  obtain⟨q,d,h6,_,_⟩:=h5.form
  rw [h6]at h5
  exact⟨q,d,h6,h5⟩
end Go.Proofs.Bl
namespace Go.Proofs.YtglenbikdahgjaaGreatDoor
open Go Go.RowKit Go.Proofs Go.Proofs.Bl
attribute [local go_sem] Oper.semAt_some
def ThreeV (w:World) (B:Nat) (x y:Value) (b:Bool):Prop:=w.cell? ⟨B,0,none⟩=some x/\w.cell? ⟨B+1,0,none⟩=some y/\w.cell? ⟨B+1+1,0,none⟩=some (.bool b)
theorem ThreeV.res {w:World} {B:Nat} {x y:Value} {b:Bool} (h:ThreeV w B x y b) {fn:Func} {tmps:Array Value} (hf:fn.results=#[.cell 8 27,.cell 9 27,.cell 10 4]) (h8:tmps.getD 8 undef= .pointer (some ⟨B,0,none⟩)) (h9:tmps.getD 9 undef= .pointer (some ⟨B+1,0,none⟩)) (h10:tmps.getD 10 undef= .pointer (some ⟨B+1+1,0,none⟩)):
  (results fn tmps).run Tryz.prog w= .ok (.tuple #[x,y,.bool b]) w:=
 results_cell3 hf h8 h9 h10 (loadVar_one h.1 Tryz.isAgg27) (loadVar_one h.2.1 Tryz.isAgg27) (loadVar_one h.2.2 Tryz.isAgg4)
theorem ThreeV.kc {w w':World} {B:Nat} {x y:Value} {b:Bool} (h:ThreeV w B x y b) (k:KC w w'):ThreeV w' B x y b:=⟨k _ _ h.1,k _ _ h.2.1,k _ _ h.2.2⟩
theorem ThreeV.set {w:World} {B:Nat} {x y:Value} {b:Bool} {u0 u1 u2:Value} (h0:w.cell? ⟨B,0,none⟩=some u0) (h1:w.cell? ⟨B+1,0,none⟩=some u1) (h2:w.cell? ⟨B+1+1,0,none⟩=some u2):
  ThreeV (((w.setCell ⟨B,0,none⟩ x).setCell ⟨B+1,0,none⟩ y).setCell ⟨B+1+1,0,none⟩ (.bool b)) B x y b:=by
 have e1:(w.setCell ⟨B,0,none⟩ x).cell? ⟨B+1,0,none⟩=some u1:=by rw [World.cell?_setCell_other _ _ _ _ (by intro q;injection q with q;omega)];exact h1
 have e2:((w.setCell ⟨B,0,none⟩ x).setCell ⟨B+1,0,none⟩ y).cell? ⟨B+1+1,0,none⟩=some u2:=by
  rw [World.cell?_setCell_other _ _ _ _ (by intro q;injection q with q;omega),World.cell?_setCell_other _ _ _ _ (by intro q;injection q with q;omega)];exact h2
 refine⟨?_,?_,World.cell?_setCell_same _ _ _ e2⟩
 ·rw [World.cell?_setCell_other _ _ _ _ (by intro q;injection q with q;omega),World.cell?_setCell_other _ _ _ _ (by intro q;injection q with q;omega)]
  exact World.cell?_setCell_same _ _ _ h0
 ·rw [World.cell?_setCell_other _ _ _ _ (by intro q;injection q with q;omega)]
  exact World.cell?_setCell_same _ _ _ e1
end Go.Proofs.YtglenbikdahgjaaGreatDoor
