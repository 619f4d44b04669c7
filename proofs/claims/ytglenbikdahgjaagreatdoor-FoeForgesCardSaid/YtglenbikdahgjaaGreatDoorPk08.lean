/- Texts that stood apart, in one: WSha6, WSha7, WSha8. -/
import Derived.LoopNIn
import Derived.LoopIn
import Derived.WalkKit
import Derived.Shelf.Abstract
import Derived.Test.YtglenbikdahgjaaGreatDoorPk07
import Derived.Test.YtglenbikdahgjaaGreatDoorPk00
import Derived.Test.YtglenbikdahgjaaGreatDoorPk01
set_option maxRecDepth 100000
set_option maxHeartbeats 16000000
namespace Go.Proofs.YtglenbikdahgjaaGreatDoor
open Go Go.RowKit Go.Proofs Go.Proofs.Bl
attribute [local go_sem] Oper.semAt_some
theorem chunkB_any (w:World) (p:Option Addr) (n c:Nat):
  Calls Tryz.prog 152 #[.slice p n c,.int .i64 64] w fun e w'=>e= .returned (.func (.func 167) #[] #[.pointer (some ⟨w.heap.size,0,none⟩),.pointer (some ⟨w.heap.size+1,0,none⟩)])/\w'=(w.alloc (.cells #[.slice p n c] 27)).alloc (.cells #[.int .i64 64] 3):=by
 go_enter Tryz.func152,Tryz.ntmps152
 go_wp2
 go_ret
 exact⟨rfl,rfl⟩
theorem chunkB1_in (n lr Bs Bn gw n₀ b off m cap:Nat) (hn:1<=n) (hcap:64*m<=cap) (hmax:64*m<=1099511627776) (hBs:Bs < n₀) (hBn:Bn < n₀) (hBsg:Bs≠gw) (hBng:Bn≠gw) (J Jx:List (Fin m)->World->Prop) (B0:Nat) (hB0:AbidesFrom B0 J)
  (hY:∀pre x W,J pre W->pre.length < m->YieldAt Fence.wide (n - 1) Tryz.prog lr #[.slice (some ⟨b,off+64*x.val,none⟩) 64 64] W fun e W'=>
   (e= .returned (.bool true)/\J (pre++[x]) W'/\Keep gw n₀ W W')\/(e= .returned (.bool false)/\Jx (pre++[x]) W'))
  (W:World) (hcs:W.cell? ⟨Bs,0,none⟩=some (.slice (some ⟨b,off,none⟩) (64*m) cap)) (hcn:W.cell? ⟨Bn,0,none⟩=some (.int .i64 64)) (h0:J [] W) (hn₀:n₀<=W.heap.size):
  CallsIn Fence.wide n Tryz.prog 167 #[.func (.yield lr) #[] #[],.pointer (some ⟨Bs,0,none⟩),.pointer (some ⟨Bn,0,none⟩)] W fun e W'=>(∃v,e= .returned v)/\
   ((∃xs,xs=List.finRange m/\J xs W')\/(∃pre,(∃k,k<=m/\pre=chunks m k)/\Jx pre W')):=by
 refine callsIn_of_wp Tryz.func167 rfl trivial ?_ rfl
 simp only [Tryz.ntmps167,List.size_toArray,List.length_cons,List.length_nil,Nat.reduceAdd,Nat.reduceSub,Array.replicate_succ,Array.replicate_zero,List.push_toArray,List.append_toArray,List.nil_append,List.cons_append]
 gi_wp2
 gi_loopw [4] (fun i wr=>∃k:Nat,k<=m/\i= .int .i64 (64*k:Nat)/\J (chunks m k) wr/\Keep gw n₀ W wr)
  (fun i _=>64*m - (intOf i).toNat)
 case atStart=>exact⟨0,Nat.zero_le _,rfl,h0,Keep.refl _ _ _⟩
 case round=>
  obtain⟨k,hk,rfl,hJs,hnx⟩:=hrel
  have hnx':n₀<=wr.heap.size:=Nat.le_trans hn₀ hnx.1
  have hBsl:Bs < wr.heap.size:=World.block_lt_of_cell? _ _ ((hnx.cell (i:=0) hBs hBsg).trans hcs)
  have hBnl:Bn < wr.heap.size:=World.block_lt_of_cell? _ _ ((hnx.cell (i:=0) hBn hBng).trans hcn)
  have hcs':=(hnx.cell (i:=0) hBs hBsg).trans hcs
  have hcn':=(hnx.cell (i:=0) hBn hBng).trans hcn
  by_cases hlt:k < m
  ·gi_wp2
   have h64:(64:Int)<=((64*m - 64*k:Nat):Int):=by omega
   have hle:((64*k:Nat):Int)<=((64*m:Nat):Int):=by omega
   have hle2:((64*k:Nat):Int)<=(cap:Int):=by omega
   have htn:(64*(k:Int)).toNat=64*k:=by omega
   refine wpIn_wide.2 ?_
   apply wp_region_ev 6 [13,14,15,16,17,18] [eqv (.int .i64 64),eqv (.slice (some ⟨b,off,none⟩) (64*m) cap),eqv (.int .i64 (64*k:Nat)),eqv (.slice (some ⟨b,off+64*k,none⟩) (64*m - 64*k) (cap - 64*k)),eqv (.int .i64 (64*m - 64*k:Nat)),eqv (.int .i64 64)] (by kernel_rfl) (by kernel_rfl) (by kernel_rfl) (by rfl)
   case hsteps=>
    refine⟨?_,?_,?_,?_,?_,?_,trivial⟩
    all_goals
     intro ev w1 hext hb hd
     have e1:=hb 1 (by decide)
     have e2:=hb 2 (by decide)
     have e4:=hb 4 (by decide)
     clear hb
     simp only [Qa,Qb,Q1,Bl.Q2,Qd]at e1 e2 e4
     simp only [DepsE,Q1,Bl.Q2,Qc,Q3,Q4,eqv,and_true]at hd
     have hc:=(bcell hext).1
     have hcs1:=(hc _ 0 hBsl).trans hcs'
     have hcn1:=(hc _ 0 hBnl).trans hcn'
     simp only [Bl.Good,Region.wanted,if_true]
     go_simp
     first
      | exact⟨Below.refl _ _,rfl⟩
      | exact⟨Below.refl _ _,by rw [if_neg (by omega)];rfl⟩
      | exact⟨Below.refl _ _,by rw [if_neg (by omega),htn];rfl⟩
      | exact⟨Below.refl _ _,congrArg (Value.int .i64) (by omega)⟩
   case hend=>
    intro u w1 hext hend
    simp only [EndE,Q1,Bl.Q2,Qc,Q3,Q4,eqv,true_and]at hend
    simp only [fillAct,Q5,Q6,Q7,Q8,Q9,hend]
    have hcs1:=((bcell hext).1 _ 0 hBsl).trans hcs'
    have hcn1:=((bcell hext).1 _ 0 hBnl).trans hcn'
    have hJ1:J (chunks m k) w1:=hB0 _ wr w1 none hJs (grown_ext hext) (fun r e=>by cases e)
    have hN:Keep gw n₀ wr w1:=⟨hext.size,fun i hi _=>hext.block i (Nat.lt_of_lt_of_le hi hnx')⟩
    go_wp2_with fail
    obtain⟨fn,tmps,assign,body,hy,hR⟩:=hY _ ⟨k,hlt⟩ w1 hJ1 (by rw [chunks_length _ _ hk];exact hlt)
    dsimp only at hy
    have hi1:((64*k:Nat):Int)+64<=(cap:Int):=by omega
    have hi2:(64*(k:Int)+64).toNat=64*k+64:=by omega
    gi_wp2
    refine hR.mono ?_
    rintro e W3 (⟨rfl,hJ3,hk3⟩ | ⟨rfl,hJx3⟩)
    ·have hcs3:=(hk3.cell (i:=0) hBs hBsg).trans hcs1
     have hcn3:=(hk3.cell (i:=0) hBn hBng).trans hcn1
     have hi3:64*(k:Int)+64=((64*(k+1):Nat):Int):=by omega
     gi_wp2
     go_roundw
     case rel=>exact⟨k+1,by omega,by simp,by rw [chunks_succ _ _ hlt];exact hJ3,(hnx.trans hN).trans hk3⟩
     case measure=>simp [intOf];omega
    ·gi_wp2
     refine bodyPost_ret (results_none rfl _ _ _) rfl ?_
     exact⟨⟨_,rfl⟩,.inr ⟨_,⟨k+1,by omega,(chunks_succ _ _ hlt).symm⟩,hJx3⟩⟩
   case hmono=>exact⟨mono_eqv _,mono_eqv _,mono_eqv _,mono_eqv _,mono_eqv _,mono_eqv _,trivial⟩
  ·obtain rfl:k=m:=by omega
   gi_wp2
   go_end0
   exact⟨⟨_,rfl⟩,.inl ⟨_,rfl,by rw [<-chunks_all];exact hJs⟩⟩
theorem chunkB_stops (n Bs Bn gw b off m cap:Nat) (hn:1<=n) (hcap:64*m<=cap) (hmax:64*m<=1099511627776) (w:World) (hBs:Bs < w.heap.size) (hBn:Bn < w.heap.size) (hBsg:Bs≠gw) (hBng:Bn≠gw)
  (hcs:w.cell? ⟨Bs,0,none⟩=some (.slice (some ⟨b,off,none⟩) (64*m) cap)) (hcn:w.cell? ⟨Bn,0,none⟩=some (.int .i64 64)):
  SeqStopsK Fence.wide n Tryz.prog 167 #[.pointer (some ⟨Bs,0,none⟩),.pointer (some ⟨Bn,0,none⟩)] (fun x:Fin m=>#[Value.slice (some ⟨b,off+64*x.val,none⟩) 64 64]) (Keep gw w.heap.size) (fun xs=>xs=List.finRange m) (fun pre=>∃k,k<=m/\pre=chunks m k) m w:=
 fun l J Jx W hW hJ _ hY h0=>
  chunkB1_in n l Bs Bn gw w.heap.size b off m cap hn hcap hmax hBs hBn hBsg hBng J Jx W.heap.size hJ hY W ((hW.cell (p:=⟨Bs,0,none⟩) hBs).trans hcs) ((hW.cell (p:=⟨Bn,0,none⟩) hBn).trans hcn) h0 hW.size
end Go.Proofs.YtglenbikdahgjaaGreatDoor
namespace Go.Proofs.YtglenbikdahgjaaGreatDoor
open Go.RowKit Go.Proofs Go.Proofs.Bl
attribute [local go_sem] Oper.semAt_some
theorem info32:(Tryz.prog.info? 54).map (·.size)=some 32:=by kernel_rfl
theorem sum_any (w:World) (B0 hb n:Nat) (z:St) (l:List Int) (hH:HashAt w B0 hb z l n) (hg:Glob w) (hby:Byt l) (hl:l.length < 64) (hn:n<=1099511627776):
  Calls Tryz.prog 135 #[.pointer (some ⟨hb,0,none⟩)] w fun e w'=>e= .returned (.agg (ints .u8 (ended z l n).bytes).toArray)/\Ext w w':=by
 obtain⟨hW,⟨v0,h8,hown,hne⟩,h9,hge⟩:=hH
 obtain⟨p0,c0,hf0,hn0,hc0⟩:=(Rds.of_owns hown).form
 subst hf0
 have hlt:hb < w.heap.size:=World.block_lt_of_cell? _ _ h9
 have HW:=Bl.hid hW;clear hW
 have Hg:=Bl.hid hg;clear hg
 have Hby:=Bl.hid hby;clear hby
 refine(callsIn_wide (n:=9)).1 ?_
 refine callsIn_of_wp_marks Tryz.func135 rfl trivial ?_ rfl
 simp only [Tryz.ntmps135,List.size_toArray,List.length_cons,List.length_nil,Nat.reduceAdd,Nat.reduceSub,Array.replicate_succ,Array.replicate_zero,List.push_toArray,List.append_toArray,List.nil_append,List.cons_append]
 refine wpIn_wide.2 ?_
 go_wp2_with fail
 have hF0:Fam (w.alloc (.cells (List.replicate 32 (Value.int .u8 0)).toArray 54)) w.heap.size .u8 32 (fun _=>0):=fam_new w 32 .u8 54 (List.replicate 32 (Value.int .u8 0)).toArray rfl
 have hE0:Ext w (w.alloc (.cells (List.replicate 32 (Value.int .u8 0)).toArray 54)):=(Below.refl _ _).alloc (Nat.le_refl _) _
 have hR0:Rd (w.alloc (.cells (List.replicate 32 (Value.int .u8 0)).toArray 54)) .u8 (.slice p0 l.length c0) l:=(Rds.of_owns hown).ext hE0
 have hz0:(w.alloc (.cells (List.replicate 32 (Value.int .u8 0)).toArray 54)).heap.size=w.heap.size+1:=by simp
 refine(cloneB_any _ l _ hR0 (by omega)).mono ?_
 rintro e w2 ⟨v2,rfl,hown2,hw2⟩
 rw [hz0]at hown2
 have hB2:Below w.heap.size w w2:=hE0.trans (hw2.mono (by rw [hz0];omega))
 have hF2:=hF0.below hw2 (by rw [hz0];omega)
 have hsz2:w.heap.size+1<=w2.heap.size:=by have:=hw2.size;omega
 clear hF0 hE0 hR0 hz0 hw2
 obtain⟨p2,c2,hf2,hn2,hc2⟩:=(Rds.of_owns hown2).form
 subst hf2
 have HF2:=Bl.hid hF2;clear hF2
 have hE1:Ext w2 (w2.alloc (.cells #[.int .u8 128] 5)):=(Below.refl _ _).alloc (Nat.le_refl _) _
 have Hown2:=Bl.hid (owns_ext hown2 hE1)
 have Hnew:=Bl.hid (Rds.of_owns (owns_new w2 5 #[.int .u8 128] w2.heap.size 1 1 (Nat.le_refl _) (by decide) rfl))
 go_wp2_with ((with_reducible refine wpL_append tBytes Hown2.out Hnew.out (by simp) (by decide) (by unfold maxLen;omega) (by omega) (by simp;omega) ?_ ?_ ?_);rfl;rfl;intro v3 w3 hown3 hgr3 hB3 hK3;obtain⟨p3,c3,hf3,hn3,hc3⟩:=(Rds.of_owns hown3).form;subst hf3)
 have hB23:Below (w.heap.size+1) w2 w3:=(hE1.mono (by omega)).trans hB3
 have HF3:=Bl.hid (HF2.out.below hB23 (by omega))
 have h93:w3.cell? ⟨hb,9,none⟩=some (.int .i64 n):=((bcell (hB2.trans (hB23.mono (by omega)))).1 _ _ hlt).trans h9
 have HW3:=Bl.hid (HW.out.below (hB2.trans (hB23.mono (by omega))) hlt)
 have hB3:=hB2.trans (hB23.mono (by omega))
 have hsz3:w.heap.size+1<=w3.heap.size:=Nat.le_trans hsz2 hB23.size
 clear hB23 HF2 hE1 Hown2 Hnew hgr3 hK3 hown2 hB2 hsz2 hn2 hc2 HW h8 hn0 hc0 hown hne h9
 have hown3':w3.ownsRow (w.heap.size+1) 5 1 (.slice p3 (l.length+1+0) c3) (l.length+1+0) (ints .u8 (l++128 :: List.replicate 0 0)):=by
  rw [ints_append];exact hown3
 clear hown3
 go_loopw [3] (fun e wr=>∃(j:Nat) (p:Option Addr) (c:Nat),e= .slice p (l.length+1+j) c/\j<=padn l.length/\wr.ownsRow (w.heap.size+1) 5 1 (.slice p (l.length+1+j) c) (l.length+1+j) (ints .u8 (l++128 :: List.replicate j 0))/\Below (w.heap.size+1) w3 wr) (fun e _=>200 - sliceLen e)
 case atStart=>exact⟨0,p3,c3,rfl,Nat.zero_le _,hown3',Below.refl _ _⟩
 case round=>
  obtain⟨j,p,c,rfl,hj,hr,hB⟩:=hrel
  obtain⟨pr,cr,hfr,hnr,hcr⟩:=(Rds.of_owns hr).form
  obtain⟨rfl,rfl⟩:p=pr/\c=cr:=by cases hfr;exact⟨rfl,rfl⟩
  clear hfr
  by_cases hjp:j=padn l.length
  ·have hrem:((l.length:Int)+1+(j:Int)) % 64=56:=by rw [hjp];unfold padn;omega
   go_wp2_with fail
   subst hjp
   have h9r:wr.cell? ⟨hb,9,none⟩=some (.int .i64 n):=((bcell hB).1 _ _ (by omega)).trans h93
   have HFr:=Bl.hid (HF3.out.below hB (by omega))
   have HWr:=Bl.hid (HW3.out.below hB (by omega))
   have hBr:=hB3.trans (hB.mono (by omega))
   have hszr:w.heap.size+1<=wr.heap.size:=Nat.le_trans hsz3 hB.size
   have hP:(l++128 :: List.replicate (padn l.length) (0:Int)).length=l.length+1+padn l.length:=by simp;omega
   have hpn:padn l.length<=64:=by unfold padn;omega
   have hM:(l.length+1+padn l.length+8) % 64=0:=padn_mod _
   have hM128:l.length+1+padn l.length<=128:=by omega
   generalize l.length+1+padn l.length=M at*
   generalize hPe:l++128 :: List.replicate (padn l.length) (0:Int)=P0 at*
   have hr0:wr.ownsRow (w.heap.size+1) 5 1 (.slice p (M+0) c) (M+0) (ints .u8 (P0++(lenb n).take 0)):=by simpa using hr
   clear hB3 hB HF3 HW3 hsz3 h93 hrem hr hnr hcr hown3' hj
   go_loopw [3,4] (fun e by' ws=>∃(j:Nat) (p:Option Addr) (c:Nat),by'= .int .i64 (56 - 8*(j:Int))/\j<=8/\e= .slice p (M+j) c/\ws.ownsRow (w.heap.size+1) 5 1 (.slice p (M+j) c) (M+j) (ints .u8 (P0++(lenb n).take j))/\Below (w.heap.size+1) wr ws) (fun e _ _=>200 - sliceLen e)
   case atStart=>exact⟨0,p,c,by simp,by omega,rfl,hr0,Below.refl _ _⟩
   case round=>
    obtain⟨j,q,d,rfl,hj,rfl,hq,hBs⟩:=hrel
    obtain⟨pr,cr,hfr,hnr,hcr⟩:=(Rds.of_owns hq).form
    obtain⟨rfl,rfl⟩:q=pr/\d=cr:=by cases hfr;exact⟨rfl,rfl⟩
    clear hfr
    by_cases hj8:j=8
    ·subst hj8
     have hzw:w.heap.size+1<=wr.heap.size:=Nat.le_trans hszr hBs.size
     have HFs:=Bl.hid (HFr.out.below hBs (by omega))
     have hFw:Fam wr hb .u32 8 (fun i=>z.l.getD i 0):=HWr.out.below hBs (by omega)
     have x0:wr.cell? ⟨hb,0,none⟩=some (.int .u32 z.a):=hFw.1 0 (by decide)
     have x1:wr.cell? ⟨hb,1,none⟩=some (.int .u32 z.b):=hFw.1 1 (by decide)
     have x2:wr.cell? ⟨hb,2,none⟩=some (.int .u32 z.c):=hFw.1 2 (by decide)
     have x3:wr.cell? ⟨hb,3,none⟩=some (.int .u32 z.d):=hFw.1 3 (by decide)
     have x4:wr.cell? ⟨hb,4,none⟩=some (.int .u32 z.e):=hFw.1 4 (by decide)
     have x5:wr.cell? ⟨hb,5,none⟩=some (.int .u32 z.f):=hFw.1 5 (by decide)
     have x6:wr.cell? ⟨hb,6,none⟩=some (.int .u32 z.g):=hFw.1 6 (by decide)
     have x7:wr.cell? ⟨hb,7,none⟩=some (.int .u32 z.h):=hFw.1 7 (by decide)
     clear hFw
     go_wp2_with fail
     have y0:=Bl.hid (fam_alloc wr 8 .u32 205 #[.int .u32 z.a,.int .u32 z.b,.int .u32 z.c,.int .u32 z.d,.int .u32 z.e,.int .u32 z.f,.int .u32 z.g,.int .u32 z.h] (fun i=>z.l.getD i 0) (fun i hi=>by
      match i,hi with
      | 0,_=>rfl
      | 1,_=>rfl
      | 2,_=>rfl
      | 3,_=>rfl
      | 4,_=>rfl
      | 5,_=>rfl
      | 6,_=>rfl
      | 7,_=>rfl))
     refine(chunkB_any _ _ _ _).mono ?_
     rintro e w5 ⟨rfl,hw5⟩
     rw [World.size_alloc]
     clear x0 x1 x2 x3 x4 x5 x6 x7
     have hE5:Ext (wr.alloc (.cells #[.int .u32 z.a,.int .u32 z.b,.int .u32 z.c,.int .u32 z.d,.int .u32 z.e,.int .u32 z.f,.int .u32 z.g,.int .u32 z.h] 205)) w5:=by
      rw [hw5];exact((Below.refl _ _).alloc (Nat.le_refl _) _).alloc (by simp) _
     have hE5':Ext wr w5:=((Below.refl _ _).alloc (Nat.le_refl _) _).trans (hE5.mono (by simp))
     have hcs:w5.cell? ⟨wr.heap.size+1,0,none⟩=some (.slice q (M+8) d):=by
      rw [hw5]
      exact((bcell ((Below.refl _ _).alloc (Nat.le_refl _) _)).1 _ _ (by simp)).trans (by simp)
     have hcn:w5.cell? ⟨wr.heap.size+1+1,0,none⟩=some (.int .i64 64):=by
      rw [hw5]
      have:=cell_new1 ((wr.alloc (.cells #[.int .u32 z.a,.int .u32 z.b,.int .u32 z.c,.int .u32 z.d,.int .u32 z.e,.int .u32 z.f,.int .u32 z.g,.int .u32 z.h] 205)).alloc (.cells #[.slice q (M+8) d] 27)) (.int .i64 64) 3
      simpa using this
     have hsz5:w5.heap.size=wr.heap.size+3:=by rw [hw5];simp
     have HF5:=Bl.hid (y0.out.below hE5 (by simp))
     have HG5:=Bl.hid (HFs.out.below hE5' (by have:=hBs.size;omega))
     have Hq:=Bl.hid (owns_ext hq hE5')
     have hBz:Below w.heap.size w w5:=(hBr.trans (hBs.mono (by omega))).trans (hE5'.mono (by have:=hBs.size;omega))
     obtain⟨m,hm⟩:∃m,M+8=64*m:=⟨(M+8) / 64,by omega⟩
     have hL:P0++(lenb n).take 8=pad l n:=by rw [List.take_of_length_le (by simp),<-hPe];rfl
     rw [hL]at hq
     have hpl:(pad l n).length=64*m:=by rw [<-hL,List.length_append,hP];simp;omega
     obtain⟨b,o,hqe,hbl,hrg⟩:∃b o,q=some ⟨b,o,none⟩/\b < wr.heap.size/\wr.rangeAt b o (ints .u8 (pad l n)):=by
      rcases Rds.of_owns hq with ⟨_,h2,_⟩ | ⟨b,o,c,h1,_,_,h4⟩
      ·omega
      ·cases h1
       exact⟨b,o,rfl,rangeAt_lt h4 (by intro e;have:=congrArg List.length e;rw [ints_length,hpl]at this;simp only [List.length_nil]at this;omega),h4⟩
     subst hqe
     have Hrg:=Bl.hid (rangeAt_ext hrg hE5')
     rw [hm]at hcs
     clear hw5 hE5 y0 hq hrg
     go_wp2_with fail
     refine(wpIn_wide (n:=9)).1 ?_
     apply wpIn_rangeFunc_ownF (F:=Fence.wide) (encs:=fun x:Fin m=>#[Value.slice (some ⟨b,o+64*x.val,none⟩) 64 64]) (Kp:=Keep wr.heap.size w5.heap.size) rfl (by decide) (gf:=167) (lb:=#[.pointer (some ⟨wr.heap.size+1,0,none⟩),.pointer (some ⟨wr.heap.size+1+1,0,none⟩)]) rfl trivial (enters_of Tryz.func167 (by kernel_rfl) rfl)
      (chunkB_stops 8 (wr.heap.size+1) (wr.heap.size+1+1) wr.heap.size b o m d (by decide) (by omega) (by omega) w5 (by omega) (by omega) (by omega) (by omega) hcs hcn)
      (fun h k=>Keep.trans h k) (Keep.putObj (Nat.le_refl _)) (Below.refl _ _) (fun _=>rfl)
      (fun pre W=>Fam W wr.heap.size .u32 8 (fun i=>(foldc (pad l n) z (pre.map Fin.val)).l.getD i 0)/\(Keep wr.heap.size w5.heap.size w5 W/\Below w.heap.size w5 W))
      (fun _ _ _=>False)
     case hI=>
      refine OwnFrom.and ?_ (OwnFrom.and (ownFrom_keep (Nat.le_refl _) (Nat.le_refl _)) (ownFrom_below (by omega) (by omega)))
      intro pre A B row hs hgr hr
      exact hs.grown hgr (World.block_lt_of_cell? _ _ (hs.1 0 (by decide))) (fun e=>by have:=(hr _ e.symm).1;omega)
     case hIx=>exact fun _ _ _ _ _ hs _ _=>hs
     case h0=>exact⟨HF5.out,Keep.refl _ _ _,Below.refl _ _⟩
     case hassign=>
      intro lr x W K hK
      gi_wp2
      exact hK
     case hbody=>
      rintro lr pre x W ⟨hF,hKp,hBW⟩ hlen
      obtain⟨zf,hzf⟩:∃zf,foldc (pad l n) z (pre.map Fin.val)=zf:=⟨_,rfl⟩
      have hnext:foldc (pad l n) z ((pre++[x]).map Fin.val)=comp zf (((pad l n).drop (64*x.val)).take 64):=by
       rw [<-hzf];simp [foldc]
      simp only [hzf]at hF
      have hgl:wr.heap.size < W.heap.size:=by have:=hKp.1;omega
      have hx:x.val < m:=x.isLt
      have hblk:(((pad l n).drop (64*x.val)).take 64).length=64:=by rw [List.length_take,List.length_drop];omega
      have hget:∀i,i < (((pad l n).drop (64*x.val)).take 64).length->W.cell? ⟨b,o+64*x.val+i,none⟩=some (.int .u8 ((((pad l n).drop (64*x.val)).take 64).getD i 0)):=fun i hi=>by
       rw [hblk]at hi
       rw [hKp.cell (by omega) (by omega)]
       have:=Hrg.out (64*x.val+i) _ (ints_get .u8 (pad l n) (64*x.val+i) (by omega))
       rw [show o+64*x.val+i=o+(64*x.val+i)from by omega,this,List.getD_eq_getElem?_getD,List.getD_eq_getElem?_getD,List.getElem?_take,if_pos hi,List.getElem?_drop]
      have hbyt:Byt (((pad l n).drop (64*x.val)).take 64):=((pad_byt n Hby.out).drop _).take _
      have hgw:Glob W:=Hg.out.ext (hBz.trans hBW)
      generalize hbk:((pad l n).drop (64*x.val)).take 64=blk at*
      have hbW:b < W.heap.size:=by omega
      have x0:W.cell? ⟨wr.heap.size,0,none⟩=some (.int .u32 zf.a):=hF.1 0 (by decide)
      have x1:W.cell? ⟨wr.heap.size,1,none⟩=some (.int .u32 zf.b):=hF.1 1 (by decide)
      have x2:W.cell? ⟨wr.heap.size,2,none⟩=some (.int .u32 zf.c):=hF.1 2 (by decide)
      have x3:W.cell? ⟨wr.heap.size,3,none⟩=some (.int .u32 zf.d):=hF.1 3 (by decide)
      have x4:W.cell? ⟨wr.heap.size,4,none⟩=some (.int .u32 zf.e):=hF.1 4 (by decide)
      have x5:W.cell? ⟨wr.heap.size,5,none⟩=some (.int .u32 zf.f):=hF.1 5 (by decide)
      have x6:W.cell? ⟨wr.heap.size,6,none⟩=some (.int .u32 zf.g):=hF.1 6 (by decide)
      have x7:W.cell? ⟨wr.heap.size,7,none⟩=some (.int .u32 zf.h):=hF.1 7 (by decide)
      have Hget:=Bl.hid hget
      have HF:=Bl.hid hF
      have Hgw:=Bl.hid hgw
      clear hget hF hgw
      have h1:1<=9 - 1 - 1:=by decide
      gi_wp2
      refine⟨trivial,?_⟩
      refine(CallsIn.inRound lr (callsIn_wide.2 (take_any zf b (o+64*x.val) 64 blk hblk (by omega) (by decide) W Hget.out hbW hbyt Hgw.out))).mono ?_
      rintro e w6 ⟨rfl,hE6⟩
      have d0:=((bcell hE6).1 _ _ hgl).trans x0
      have d1:=((bcell hE6).1 _ _ hgl).trans x1
      have d2:=((bcell hE6).1 _ _ hgl).trans x2
      have d3:=((bcell hE6).1 _ _ hgl).trans x3
      have d4:=((bcell hE6).1 _ _ hgl).trans x4
      have d5:=((bcell hE6).1 _ _ hgl).trans x5
      have d6:=((bcell hE6).1 _ _ hgl).trans x6
      have d7:=((bcell hE6).1 _ _ hgl).trans x7
      have f0:=((bcell hE6).2 _ _ hgl).trans (HF.out.2 0)
      have f1:=((bcell hE6).2 _ _ hgl).trans (HF.out.2 1)
      have f2:=((bcell hE6).2 _ _ hgl).trans (HF.out.2 2)
      have f3:=((bcell hE6).2 _ _ hgl).trans (HF.out.2 3)
      have f4:=((bcell hE6).2 _ _ hgl).trans (HF.out.2 4)
      have f5:=((bcell hE6).2 _ _ hgl).trans (HF.out.2 5)
      have f6:=((bcell hE6).2 _ _ hgl).trans (HF.out.2 6)
      have f7:=((bcell hE6).2 _ _ hgl).trans (HF.out.2 7)
      have HE6:=Bl.hid hE6
      clear hE6 x0 x1 x2 x3 x4 x5 x6 x7
      gi_wp2
      have hfm:=(HF.out.below HE6.out hgl).store8 (comp zf blk).a (comp zf blk).b (comp zf blk).c (comp zf blk).d (comp zf blk).e (comp zf blk).f (comp zf blk).g (comp zf blk).h
      have hkk:=(Keep.of_below (g:=wr.heap.size) HE6.out hKp.1).store8 (.int .u32 (comp zf blk).a) (.int .u32 (comp zf blk).b) (.int .u32 (comp zf blk).c) (.int .u32 (comp zf blk).d) (.int .u32 (comp zf blk).e) (.int .u32 (comp zf blk).f) (.int .u32 (comp zf blk).g) (.int .u32 (comp zf blk).h)
      refine⟨others_store8 (others_ext HE6.out) _ _ _ _ _ _ _ _ _,hkk,?_,hKp.trans hkk,below8 (hBW.trans (HE6.out.mono (by omega))) _ (by omega) _ _ _ _ _ _ _ _⟩
      rw [hnext]
      exact hfm
     case hdone=>
      rintro D ys W hD rfl ⟨hF,hKp,hBW⟩ hK
      have hend:foldc (pad l n) z ((List.finRange m).map Fin.val)=ended z l n:=by
       rw [show(List.finRange m).map Fin.val=List.range m from by apply List.ext_getElem<;>simp]
       exact foldc_range m _ _ hpl
      simp only [hend]at hF
      have hHG:Fam W w.heap.size .u8 32 (fun _=>0):=Fam.keep HG5.out hKp (by omega) (by omega)
      have hgl:wr.heap.size < W.heap.size:=by have:=hKp.1;omega
      have hBW:=hBz.trans hBW
      have hDw:w.heap.size < D:=by omega
      clear hend hKp hBz hcs hcn Hrg HG5 HF5 hsz5 hbl
      obtain⟨zf,hzf⟩:∃zf,ended z l n=zf:=⟨_,rfl⟩
      simp only [hzf]at hF
      have HHG:=Bl.hid (Fam.alloc hHG (by omega) (.cells #[.int .u8 0,.int .u8 0,.int .u8 0,.int .u8 0,.int .u8 0,.int .u8 0,.int .u8 0,.int .u8 0,.int .u8 0,.int .u8 0,.int .u8 0,.int .u8 0,.int .u8 0,.int .u8 0,.int .u8 0,.int .u8 0,.int .u8 0,.int .u8 0,.int .u8 0,.int .u8 0,.int .u8 0,.int .u8 0,.int .u8 0,.int .u8 0,.int .u8 0,.int .u8 0,.int .u8 0,.int .u8 0,.int .u8 0,.int .u8 0,.int .u8 0,.int .u8 0] 54))
      have HO:=Bl.hid (fam_new W 32 .u8 54 #[.int .u8 0,.int .u8 0,.int .u8 0,.int .u8 0,.int .u8 0,.int .u8 0,.int .u8 0,.int .u8 0,.int .u8 0,.int .u8 0,.int .u8 0,.int .u8 0,.int .u8 0,.int .u8 0,.int .u8 0,.int .u8 0,.int .u8 0,.int .u8 0,.int .u8 0,.int .u8 0,.int .u8 0,.int .u8 0,.int .u8 0,.int .u8 0,.int .u8 0,.int .u8 0,.int .u8 0,.int .u8 0,.int .u8 0,.int .u8 0,.int .u8 0,.int .u8 0] rfl)
      have hFa:=Fam.alloc hF hgl (.cells #[.int .u8 0,.int .u8 0,.int .u8 0,.int .u8 0,.int .u8 0,.int .u8 0,.int .u8 0,.int .u8 0,.int .u8 0,.int .u8 0,.int .u8 0,.int .u8 0,.int .u8 0,.int .u8 0,.int .u8 0,.int .u8 0,.int .u8 0,.int .u8 0,.int .u8 0,.int .u8 0,.int .u8 0,.int .u8 0,.int .u8 0,.int .u8 0,.int .u8 0,.int .u8 0,.int .u8 0,.int .u8 0,.int .u8 0,.int .u8 0,.int .u8 0,.int .u8 0] 54)
      have HFa:=Bl.hid hFa
      have x0:(W.alloc (.cells #[.int .u8 0,.int .u8 0,.int .u8 0,.int .u8 0,.int .u8 0,.int .u8 0,.int .u8 0,.int .u8 0,.int .u8 0,.int .u8 0,.int .u8 0,.int .u8 0,.int .u8 0,.int .u8 0,.int .u8 0,.int .u8 0,.int .u8 0,.int .u8 0,.int .u8 0,.int .u8 0,.int .u8 0,.int .u8 0,.int .u8 0,.int .u8 0,.int .u8 0,.int .u8 0,.int .u8 0,.int .u8 0,.int .u8 0,.int .u8 0,.int .u8 0,.int .u8 0] 54)).cell? ⟨wr.heap.size,0,none⟩=some (.int .u32 zf.a):=hFa.1 0 (by decide)
      have x1:(W.alloc (.cells #[.int .u8 0,.int .u8 0,.int .u8 0,.int .u8 0,.int .u8 0,.int .u8 0,.int .u8 0,.int .u8 0,.int .u8 0,.int .u8 0,.int .u8 0,.int .u8 0,.int .u8 0,.int .u8 0,.int .u8 0,.int .u8 0,.int .u8 0,.int .u8 0,.int .u8 0,.int .u8 0,.int .u8 0,.int .u8 0,.int .u8 0,.int .u8 0,.int .u8 0,.int .u8 0,.int .u8 0,.int .u8 0,.int .u8 0,.int .u8 0,.int .u8 0,.int .u8 0] 54)).cell? ⟨wr.heap.size,1,none⟩=some (.int .u32 zf.b):=hFa.1 1 (by decide)
      have x2:(W.alloc (.cells #[.int .u8 0,.int .u8 0,.int .u8 0,.int .u8 0,.int .u8 0,.int .u8 0,.int .u8 0,.int .u8 0,.int .u8 0,.int .u8 0,.int .u8 0,.int .u8 0,.int .u8 0,.int .u8 0,.int .u8 0,.int .u8 0,.int .u8 0,.int .u8 0,.int .u8 0,.int .u8 0,.int .u8 0,.int .u8 0,.int .u8 0,.int .u8 0,.int .u8 0,.int .u8 0,.int .u8 0,.int .u8 0,.int .u8 0,.int .u8 0,.int .u8 0,.int .u8 0] 54)).cell? ⟨wr.heap.size,2,none⟩=some (.int .u32 zf.c):=hFa.1 2 (by decide)
      have x3:(W.alloc (.cells #[.int .u8 0,.int .u8 0,.int .u8 0,.int .u8 0,.int .u8 0,.int .u8 0,.int .u8 0,.int .u8 0,.int .u8 0,.int .u8 0,.int .u8 0,.int .u8 0,.int .u8 0,.int .u8 0,.int .u8 0,.int .u8 0,.int .u8 0,.int .u8 0,.int .u8 0,.int .u8 0,.int .u8 0,.int .u8 0,.int .u8 0,.int .u8 0,.int .u8 0,.int .u8 0,.int .u8 0,.int .u8 0,.int .u8 0,.int .u8 0,.int .u8 0,.int .u8 0] 54)).cell? ⟨wr.heap.size,3,none⟩=some (.int .u32 zf.d):=hFa.1 3 (by decide)
      have x4:(W.alloc (.cells #[.int .u8 0,.int .u8 0,.int .u8 0,.int .u8 0,.int .u8 0,.int .u8 0,.int .u8 0,.int .u8 0,.int .u8 0,.int .u8 0,.int .u8 0,.int .u8 0,.int .u8 0,.int .u8 0,.int .u8 0,.int .u8 0,.int .u8 0,.int .u8 0,.int .u8 0,.int .u8 0,.int .u8 0,.int .u8 0,.int .u8 0,.int .u8 0,.int .u8 0,.int .u8 0,.int .u8 0,.int .u8 0,.int .u8 0,.int .u8 0,.int .u8 0,.int .u8 0] 54)).cell? ⟨wr.heap.size,4,none⟩=some (.int .u32 zf.e):=hFa.1 4 (by decide)
      have x5:(W.alloc (.cells #[.int .u8 0,.int .u8 0,.int .u8 0,.int .u8 0,.int .u8 0,.int .u8 0,.int .u8 0,.int .u8 0,.int .u8 0,.int .u8 0,.int .u8 0,.int .u8 0,.int .u8 0,.int .u8 0,.int .u8 0,.int .u8 0,.int .u8 0,.int .u8 0,.int .u8 0,.int .u8 0,.int .u8 0,.int .u8 0,.int .u8 0,.int .u8 0,.int .u8 0,.int .u8 0,.int .u8 0,.int .u8 0,.int .u8 0,.int .u8 0,.int .u8 0,.int .u8 0] 54)).cell? ⟨wr.heap.size,5,none⟩=some (.int .u32 zf.f):=hFa.1 5 (by decide)
      have x6:(W.alloc (.cells #[.int .u8 0,.int .u8 0,.int .u8 0,.int .u8 0,.int .u8 0,.int .u8 0,.int .u8 0,.int .u8 0,.int .u8 0,.int .u8 0,.int .u8 0,.int .u8 0,.int .u8 0,.int .u8 0,.int .u8 0,.int .u8 0,.int .u8 0,.int .u8 0,.int .u8 0,.int .u8 0,.int .u8 0,.int .u8 0,.int .u8 0,.int .u8 0,.int .u8 0,.int .u8 0,.int .u8 0,.int .u8 0,.int .u8 0,.int .u8 0,.int .u8 0,.int .u8 0] 54)).cell? ⟨wr.heap.size,6,none⟩=some (.int .u32 zf.g):=hFa.1 6 (by decide)
      have x7:(W.alloc (.cells #[.int .u8 0,.int .u8 0,.int .u8 0,.int .u8 0,.int .u8 0,.int .u8 0,.int .u8 0,.int .u8 0,.int .u8 0,.int .u8 0,.int .u8 0,.int .u8 0,.int .u8 0,.int .u8 0,.int .u8 0,.int .u8 0,.int .u8 0,.int .u8 0,.int .u8 0,.int .u8 0,.int .u8 0,.int .u8 0,.int .u8 0,.int .u8 0,.int .u8 0,.int .u8 0,.int .u8 0,.int .u8 0,.int .u8 0,.int .u8 0,.int .u8 0,.int .u8 0] 54)).cell? ⟨wr.heap.size,7,none⟩=some (.int .u32 zf.h):=hFa.1 7 (by decide)
      clear hF hFa hHG
      go_wp2_with fail
      have HO':Fam _ W.heap.size .u8 32 (fun j=>if j < 4*0 then zf.byte j else 0):=HO.out.congr (fun j hj=>by rw [if_neg (by omega)])
      have hsW:w.heap.size+1<=W.heap.size:=by omega
      clear x0 x1 x2 x3 x4 x5 x6 x7
      go_loopw [52] (fun i' ws=>∃i:Nat,i'= .int .i64 i/\i<=8/\Fam ws W.heap.size .u8 32 (fun j=>if j < 4*i then zf.byte j else 0)/\Below W.heap.size W ws/\Below W.heap.size (W.alloc (.cells #[.int .u8 0,.int .u8 0,.int .u8 0,.int .u8 0,.int .u8 0,.int .u8 0,.int .u8 0,.int .u8 0,.int .u8 0,.int .u8 0,.int .u8 0,.int .u8 0,.int .u8 0,.int .u8 0,.int .u8 0,.int .u8 0,.int .u8 0,.int .u8 0,.int .u8 0,.int .u8 0,.int .u8 0,.int .u8 0,.int .u8 0,.int .u8 0,.int .u8 0,.int .u8 0,.int .u8 0,.int .u8 0,.int .u8 0,.int .u8 0,.int .u8 0,.int .u8 0] 54)) ws) (fun i' _=>8 - (intOf i').toNat)
      case atStart=>exact⟨0,rfl,by omega,HO',(Below.refl _ _).alloc (Nat.le_refl _) _,Below.refl _ _⟩
      case round=>
       obtain⟨i,rfl,hi,hFo,hBo,hBo'⟩:=hrel
       by_cases hi8:i=8
       ·subst hi8
        have hlo:=load_ints (P:=Tryz.prog) (ty:=54) (hFo.range) Tryz.underlying54 (by kernel_rfl) (by simp)
        have HHr:=Bl.hid (HHG.out.below (B:=W.heap.size) (w':=wr) (by exact hBo') (by omega))
        have hst:=store_ints (P:=Tryz.prog) (k:= .u8) (ty:=54) (l:=(List.range 32).map (fun j=>if j < 4*8 then zf.byte j else 0)) HHr.out.there (by kernel_rfl) (by simp)
        have Hlo:=Bl.hid hlo
        have Hst:=Bl.hid hst
        clear hFo hlo hst
        go_wp2_with (first | ((with_reducible refine wpL_load ?_ Hlo.out ?_);rfl) | ((with_reducible refine wpL_store ?_ ?_ Hst.out ?_);rfl;rfl))
        have hDl:D < W.heap.size:=(Array.getElem?_eq_some_iff.1 hK).1
        have hKd:(wr.setCells w.heap.size 0 (ints .u8 ((List.range 32).map (fun j=>if j < 4*8 then zf.byte j else 0)))).heap[D]? =some (.deferred (some [])):=(exc_setCells _ _ _ (Exc.refl w.heap.size wr) D (by omega)).trans ((hBo.block D hDl).trans hK)
        refine⟨by simp,.inl ⟨_,_,rfl,run_takeDeferred hKd,?_⟩⟩
        have hin:((wr.setCells w.heap.size 0 (ints .u8 ((List.range 32).map (fun j=>if j < 4*8 then zf.byte j else 0)))).putObj D (.deferred none)).rangeAt w.heap.size 0 (ints .u8 ((List.range 32).map (fun j=>if j < 4*8 then zf.byte j else 0))):=fun j v hv=>by
         rw [World.cell?_of_block (w:=wr.setCells w.heap.size 0 (ints .u8 ((List.range 32).map (fun j=>if j < 4*8 then zf.byte j else 0)))) (World.putObj_heap_other (by simp;omega))]
         exact World.rangeAt_setCells_same _ _ _ _ (by simpa using HHr.out.there) j v hv
        have hld2:=run_loadVar_mid (P:=Tryz.prog) _ w.heap.size 0 54 _ _ hin Tryz.underlying54 rfl (by rw [ints_length,List.length_map,List.length_range];exact info32)
        refine⟨_,results_cell rfl rfl hld2,?_,?_⟩
        ·rw [hzf,St.bytes_map]
        ·exact(below_setCells _ _ _ _ (hBW.trans (hBo.mono (by omega))) (Nat.le_refl _)).trans (belowK_b (w:=w) (Nat.le_refl _) _ D _ _ (by omega) hKd rfl rfl)
       ·have hx8:(Instr.index 205 (.agg (ints .u32 zf.l).toArray) (.int .i64 i)).run Tryz.prog wr= .ok (.int .u32 (zf.l.getD i 0)) wr:=index_ints Tryz.underlying205 (fun w=>by simp [go_sem]) (fun w=>by simp [go_sem]) rfl (by omega)
        have HFo:=Bl.hid hFo
        clear hFo
        go_wp2_with ((with_reducible refine wpL_index (p:= .agg (ints .u32 zf.l).toArray) (v:= .int .i64 i) ?_ ?_ hx8 ?_);rfl;rfl)
        obtain⟨x,hx⟩:∃x,zf.l[i]?.getD 0=x:=⟨_,rfl⟩
        simp only [hx]
        have hsz4:W.heap.size < wr.heap.size:=World.block_lt_of_cell? _ _ (HFo.out.1 0 (by decide))
        have HFo2:=Bl.hid (show Fam wr W.heap.size .u8 32 (fun j=>if j < 4*i+0 then zf.byte j else 0)from HFo.out)
        have HBo:=Bl.hid hBo
        have HBo':=Bl.hid hBo'
        clear hBo hBo' HFo hx8
        go_loopw [56] (fun k' ws=>∃k:Nat,k'= .int .i64 k/\k<=4/\Fam ws W.heap.size .u8 32 (fun j=>if j < 4*i+k then zf.byte j else 0)/\Below W.heap.size W ws/\Below W.heap.size (W.alloc (.cells #[.int .u8 0,.int .u8 0,.int .u8 0,.int .u8 0,.int .u8 0,.int .u8 0,.int .u8 0,.int .u8 0,.int .u8 0,.int .u8 0,.int .u8 0,.int .u8 0,.int .u8 0,.int .u8 0,.int .u8 0,.int .u8 0,.int .u8 0,.int .u8 0,.int .u8 0,.int .u8 0,.int .u8 0,.int .u8 0,.int .u8 0,.int .u8 0,.int .u8 0,.int .u8 0,.int .u8 0,.int .u8 0,.int .u8 0,.int .u8 0,.int .u8 0,.int .u8 0] 54)) ws) (fun k' _=>4 - (intOf k').toNat)
        case atStart=>exact⟨0,rfl,by omega,HFo2.out,HBo.out,HBo'.out⟩
        case round=>
         obtain⟨k,rfl,hk,hFk,hBk,hBk'⟩:=hrel
         by_cases hk4:k=4
         ·subst hk4
          go_wp2_with fail
          go_roundw
          case rel=>exact⟨i+1,rfl,by omega,hFk,hBk,hBk'⟩
          case measure=>simp [intOf];omega
         ·have hc:wr.cell? ⟨W.heap.size,4*i+k,none⟩=some (.int .u8 0):=(hFk.1 _ (by omega)).trans (by simp)
          have hfz:wr.frozen? ⟨W.heap.size,4*i+k,none⟩=false:=hFk.2 _
          have hn1:(4*(i:Int)+(k:Int)).toNat=4*i+k:=by omega
          have hn2:(24 - 8*(k:Int)).toNat=24 - 8*k:=by omega
          have hn3:(0:Int)<=24 - 8*(k:Int):=by omega
          go_wp2_with fail
          go_roundw
          case rel=>
           refine⟨k+1,by simp,by omega,(hFk.set (4*i+k) (by omega) (x / 2^(24 - 8*k) % 256)).congr (fun j hj=> ?_),hBk.setCell (p:=⟨W.heap.size,4*i+k,none⟩) (Nat.le_refl _) _,hBk'.setCell (p:=⟨W.heap.size,4*i+k,none⟩) (Nat.le_refl _) _⟩
           by_cases hj1:j=4*i+k
           ·rw [if_pos hj1,if_pos (by omega),hj1,St.byte,show(4*i+k) / 4=i from by omega,show(4*i+k) % 4=k from by omega,List.getD_eq_getElem?_getD,hx]
           ·rw [if_neg hj1]
            by_cases hj2:j < 4*i+k
            ·rw [if_pos hj2,if_pos (by omega)]
            ·rw [if_neg hj2,if_neg (by omega)]
          case measure=>simp [intOf];omega
     case hstop=>
      rintro D c pre W _ _ h _
      exact h.elim
    ·have h9s:wr.cell? ⟨hb,9,none⟩=some (.int .i64 n):=((bcell hBs).1 _ _ (by omega)).trans h9r
     have hj7:(0:Int)<=56 - 8*(j:Int):=by omega
     have hszs:w.heap.size+1<=wr.heap.size:=Nat.le_trans hszr hBs.size
     have hE1:Ext wr (wr.alloc (.cells #[.int .u8 ((n:Int)*8 / 2^(56 - 8*j) % 256)] 5)):=(Below.refl _ _).alloc (Nat.le_refl _) _
     have Hr:=Bl.hid (owns_ext hq hE1)
     have Hnew:=Bl.hid (Rds.of_owns (owns_new wr 5 #[.int .u8 ((n:Int)*8 / 2^(56 - 8*j) % 256)] wr.heap.size 1 1 (Nat.le_refl _) (by decide) rfl))
     have hMx:M+j+1<=maxLen:=by unfold maxLen;omega
     go_wp2_with ((with_reducible refine wpL_append tBytes Hr.out Hnew.out rfl (by simp [Value.oneCell']) hMx (by omega) (by simp;omega) ?_ ?_ ?_);rfl;rfl;intro v4 w4 hown4 hgr4 hB4 hK4;obtain⟨p4,c4,hf4,hn4,hc4⟩:=(Rds.of_owns hown4).form;subst hf4)
     go_roundw
     case rel=>
      refine⟨j+1,by omega,by omega,p4,c4,⟨rfl,rfl,rfl⟩,?_,(hBs.trans (hE1.mono hszs)).trans hB4⟩
      rw [lenb_take n j (by omega),<-List.append_assoc,ints_append]
      exact hown4
     case measure=>simp only [sliceLen];omega
  ·have hrem:((l.length:Int)+1+(j:Int)) % 64≠56:=by unfold padn at hj hjp;omega
   have hE1:Ext wr (wr.alloc (.cells #[.int .u8 0] 5)):=(Below.refl _ _).alloc (Nat.le_refl _) _
   have Hr:=Bl.hid (owns_ext hr hE1)
   have Hnew:=Bl.hid (Rds.of_owns (owns_new wr 5 #[.int .u8 0] wr.heap.size 1 1 (Nat.le_refl _) (by decide) rfl))
   have hj64:j<=64:=by unfold padn at hj;omega
   have hszr:w.heap.size+1<=wr.heap.size:=Nat.le_trans hsz3 hB.size
   go_wp2_with ((with_reducible refine wpL_append tBytes Hr.out Hnew.out (by simp) (by decide) (by unfold maxLen;omega) (by omega) (by simp;omega) ?_ ?_ ?_);rfl;rfl;intro v4 w4 hown4 hgr4 hB4 hK4;obtain⟨p4,c4,hf4,hn4,hc4⟩:=(Rds.of_owns hown4).form;subst hf4)
   go_roundw
   case rel=>
    refine⟨j+1,p4,c4,rfl,by omega,?_,(hB.trans (hE1.mono hszr)).trans hB4⟩
    rw [show l++128 :: List.replicate (j+1) (0:Int)=(l++128 :: List.replicate j 0)++[0]from by simp [List.replicate_succ'],ints_append]
    exact hown4
   case measure=>simp only [sliceLen];omega
theorem hash_new (w:World):HashAt (w.alloc (.cells #[.int .u32 iv0.a,.int .u32 iv0.b,.int .u32 iv0.c,.int .u32 iv0.d,.int .u32 iv0.e,.int .u32 iv0.f,.int .u32 iv0.g,.int .u32 iv0.h,.slice none 0 0,.int .i64 0] 207)) w.heap.size w.heap.size iv0 [] 0:=by
 have hh:=World.alloc_heap_new w (.cells #[.int .u32 iv0.a,.int .u32 iv0.b,.int .u32 iv0.c,.int .u32 iv0.d,.int .u32 iv0.e,.int .u32 iv0.f,.int .u32 iv0.g,.int .u32 iv0.h,.slice none 0 0,.int .i64 0] 207)
 refine⟨fam_alloc w 8 .u32 _ _ _ (fun i hi=> ?_),⟨.slice none 0 0,?_,World.ownsRow_nil _ _ _ _,by simp [Value.ownBlock]⟩,?_,Nat.le_refl _⟩
 ·match i,hi with
  | 0,_=>rfl
  | 1,_=>rfl
  | 2,_=>rfl
  | 3,_=>rfl
  | 4,_=>rfl
  | 5,_=>rfl
  | 6,_=>rfl
  | 7,_=>rfl
 ·simp only [World.cell?,hh];rfl
 ·simp only [World.cell?,hh];rfl
theorem of_any (v:Value) (ps:List (List Int)) (w:World) (hR:Rdss w v ps) (hg:Glob w) (hby:Byt ps.flatten) (hlen:ps.flatten.length<=1099511627776):
  Calls Tryz.prog 88 #[v] w fun e w'=>e= .returned (.agg (ints .u8 (Bl.sha ps.flatten)).toArray)/\Ext w w':=by
 obtain⟨vs,hv,hvl,hvs⟩:=hR
 obtain⟨p,c,hvf,hvn,hvc⟩:=hv.form
 subst hvf
 have Hv:=Bl.hid hv
 have Hvs:=Bl.hid hvs
 have Hg:=Bl.hid hg
 have Hby:=Bl.hid hby
 clear hv hvs hg hby
 go_enter Tryz.func88,Tryz.ntmps88
 go_wp2_with fail
 obtain⟨W0,hW0⟩:∃W0,W0=w.alloc (.cells #[.int .u8 0,.int .u8 0,.int .u8 0,.int .u8 0,.int .u8 0,.int .u8 0,.int .u8 0,.int .u8 0,.int .u8 0,.int .u8 0,.int .u8 0,.int .u8 0,.int .u8 0,.int .u8 0,.int .u8 0,.int .u8 0,.int .u8 0,.int .u8 0,.int .u8 0,.int .u8 0,.int .u8 0,.int .u8 0,.int .u8 0,.int .u8 0,.int .u8 0,.int .u8 0,.int .u8 0,.int .u8 0,.int .u8 0,.int .u8 0,.int .u8 0,.int .u8 0] 54):=⟨_,rfl⟩
 rw [<-hW0]
 have hE0:Ext w W0:=by rw [hW0];exact(Below.refl _ _).alloc (Nat.le_refl _) _
 have hF0:Fam W0 w.heap.size .u8 32 (fun _=>0):=by rw [hW0];exact fam_new w 32 .u8 _ _ rfl
 have hs0:W0.heap.size=w.heap.size+1:=by rw [hW0];simp
 have HE0:=Bl.hid hE0
 have HF0:=Bl.hid hF0
 have Hs0:=Bl.hid hs0
 clear hW0 hE0 hF0 hs0
 refine(new_any W0 (Hg.out.ext HE0.out)).mono ?_
 rintro e w' ⟨rfl,hw'⟩
 have hh:=hash_new W0
 rw [<-hw']at hh
 have hB:Below W0.heap.size W0 w':=by rw [hw'];exact(Below.refl _ _).alloc (Nat.le_refl _) _
 obtain⟨hb,hhb⟩:∃hb,hb=W0.heap.size:=⟨_,rfl⟩
 rw [<-hhb]at hh hB⊢
 have Hhb:=Bl.hid hhb
 clear hw' hhb
 go_wp2_with fail
 go_loopw [9] (fun i wr=>∃k:Nat,k<=ps.length/\i= .int .i64 k/\HashAt wr hb hb (eat iv0 (ps.take k).flatten).1 (eat iv0 (ps.take k).flatten).2 (ps.take k).flatten.length/\Below hb W0 wr) (fun i _=>ps.length - (intOf i).toNat)
 case atStart=>exact⟨0,Nat.zero_le _,rfl,hh,hB⟩
 case round=>
  obtain⟨k,hk,rfl,hH,hBr⟩:=hrel
  have HH:=Bl.hid hH
  have HBr:=Bl.hid hBr
  clear hH hBr hh hB
  have hkm:ps.length<=9223372036854775807:=by unfold maxLen at hvc;omega
  have hext:Hid (Ext w wr):=Bl.hid (HE0.out.trans (HBr.out.mono (by rw [Hhb.out];exact Nat.le_refl _)))
  by_cases hlt:k < ps.length
  ·obtain⟨b,o,hpe,hcell⟩:∃b o,p=some ⟨b,o,none⟩/\wr.cell? ⟨b,o+k,none⟩=some (vs.getD k undef):=by
    rcases (Hv.out.ext hext.out)with ⟨h1,h2,h3⟩ | ⟨b,o,c',h1,h2,h3,h4⟩
    ·omega
    ·cases h1
     refine⟨b,o,rfl,h4 k _ ?_⟩
     rw [List.getD_eq_getElem?_getD,List.getElem?_eq_getElem (by omega)];rfl
   subst hpe
   have hRk0:=Hvs.out k hlt
   have hft:=flat_take ps k hlt
   obtain⟨bs,hbs⟩:∃bs,bs=ps.getD k []:=⟨_,rfl⟩
   rw [<-hbs]at hRk0 hft
   have HRk0:=Bl.hid hRk0
   have Hft:=Bl.hid hft
   clear hRk0 hft hbs
   have hRk:=HRk0.out.ext hext.out
   obtain⟨pk,ck,hfk,hnk,hck⟩:=hRk.form
   rw [hfk]at hcell
   have Hfk:=Bl.hid hfk
   clear hfk hRk
   go_wp2_with fail
   have hlk:(ps.take k).flatten.length<=1099511627776:=Nat.le_trans (flat_len ps k) hlen
   have hlk1:(ps.take (k+1)).flatten.length<=1099511627776:=Nat.le_trans (flat_len ps (k+1)) hlen
   have hlk2:bs.length<=1099511627776:=by rw [Hft.out,List.length_append]at hlk1;omega
   have hrest:=eat_rest (ps.take k).flatten.length iv0 (ps.take k).flatten (Nat.le_refl _)
   have hbk:Byt ((eat iv0 (ps.take k).flatten).2++bs):=by
    have:=flat_byt Hby.out (k+1)
    rw [Hft.out]at this
    intro x hx
    rcases List.mem_append.1 hx with hx | hx
    ·exact this x (List.mem_append_left _ (hrest.2 x hx))
    ·exact this x (List.mem_append_right _ hx)
   have hszr:W0.heap.size<=wr.heap.size:=HBr.out.size
   refine(put_any wr hb hb (ps.take k).flatten.length _ _ bs _ HH.out ?_ ?_ hbk (by rw [Hhb.out];exact hszr) hrest.1 hlk2 hlk).mono ?_
   ·intro w1 hw1
    rw [<-Hfk.out]
    exact HRk0.out.ext (HE0.out.trans ((HBr.out.trans hw1).mono (by rw [Hhb.out];exact Nat.le_refl _)))
   ·intro w1 hw1
    exact Hg.out.ext (HE0.out.trans ((HBr.out.trans hw1).mono (by rw [Hhb.out];exact Nat.le_refl _)))
   rintro e w2 ⟨rfl,hH2,hB2⟩
   have HH2:=Bl.hid hH2
   have HB2:=Bl.hid hB2
   clear hH2 hB2 hrest hbk
   go_wp2_with fail
   go_roundw
   case rel=>
    refine⟨k+1,by omega,by go_num,?_,HBr.out.trans HB2.out⟩
    have h:=HH2.out
    rw [Hft.out,eat_append _ _ _ _ (Nat.le_refl _),List.length_append]
    exact h
   case measure=>simp [intOf];omega
  ·obtain rfl:k=ps.length:=by omega
   have hHx:=HH.out
   rw [List.take_length]at hHx
   have hrest:=eat_rest ps.flatten.length iv0 ps.flatten (Nat.le_refl _)
   have HHx:=Bl.hid hHx
   have Hrest:=Bl.hid hrest
   clear hHx hrest HH
   go_wp2_with fail
   refine(sum_any wr hb hb ps.flatten.length _ _ HHx.out (Hg.out.ext hext.out) (fun x hx=>Hby.out x (Hrest.out.2 x hx)) Hrest.out.1 hlen).mono ?_
   rintro e w2 ⟨rfl,hw2⟩
   have hF2:Fam w2 w.heap.size .u8 32 (fun _=>0):=(HF0.out.below HBr.out (by rw [Hhb.out,Hs0.out];omega)).below hw2 (by have:=HBr.out.size;rw [Hs0.out]at this;omega)
   rw [ended_eat]
   have hshl:Hid (Bl.sha ps.flatten=(eat iv0 (pad ps.flatten ps.flatten.length)).1.bytes):=rfl
   obtain⟨sh,hsh⟩:∃sh,sh=Bl.sha ps.flatten:=⟨_,rfl⟩
   rw [<-hshl.out,<-hsh]
   have hlsh:sh.length=32:=by rw [hsh];rfl
   have Hst:=Bl.hid (store_ints (P:=Tryz.prog) (k:= .u8) (ty:=54) (l:=sh) hF2.there (by kernel_rfl) hlsh)
   have HF2:=Bl.hid hF2
   have Hw2:=Bl.hid hw2
   have Hsh:=Bl.hid hsh
   have Hlsh:=Bl.hid hlsh
   clear hF2 hw2 hsh hlsh
   go_wp2_with (((with_reducible refine wpL_store ?_ ?_ Hst.out ?_);rfl;rfl))
   have hin:=World.rangeAt_setCells_same w2 w.heap.size 0 (ints .u8 sh) (by rw [ints_length,Hlsh.out];exact HF2.out.there)
   have hld2:=run_loadVar_mid (P:=Tryz.prog) _ w.heap.size 0 54 (ints .u8 sh) _ hin Tryz.underlying54 rfl (by rw [ints_length,Hlsh.out];kernel_rfl)
   refine bodyPost_ret (v:= .agg (ints .u8 sh).toArray) (results_cell rfl rfl hld2) rfl ⟨by rw [Hsh.out],below_setCells _ _ _ _ (hext.out.trans Hw2.out) (Nat.le_refl _)⟩
end Go.Proofs.YtglenbikdahgjaaGreatDoor
