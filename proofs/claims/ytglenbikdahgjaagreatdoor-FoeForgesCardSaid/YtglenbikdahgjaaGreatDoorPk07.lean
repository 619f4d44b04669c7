/- Texts that stood apart, in one: WSha1, WSha2, WSha3, WSha4, WSha5. -/
import Derived.WalkKit
import Derived.WalkLawsBesides
import Derived.WalkSpells
import Derived.Deep.QuietTactic
import Derived.BigQuiet
import Derived.Deep.RegionWith
import Derived.IntWalk
import Derived.Lib.SliceRun
import Derived.Test.YtglenbikdahgjaaGreatDoorProg
import Derived.Test.YtglenbikdahgjaaGreatDoorPk01
import Derived.Test.YtglenbikdahgjaaGreatDoorPk02
import Derived.Test.YtglenbikdahgjaaGreatDoorPk00
set_option maxRecDepth 100000
set_option maxHeartbeats 16000000
namespace Go.Proofs.YtglenbikdahgjaaGreatDoor
open Go.RowKit Go.Proofs Go.Proofs.Bl
theorem rot_2 (x:Int) (w:World):Calls Tryz.prog 175 #[.int .u32 x,.int .i64 (-2)] w fun e w'=>e= .returned (.int .u32 (ror 2 x))/\w'=w:=by
 have e26:bits BinOp.and IntKind.u64 (IntKind.u64.wrap (-2)) 31=30:=by decide+kernel
 go_enter Tryz.func175,Tryz.ntmps175
 go_wp2
 go_ret
 exact⟨rfl,rfl⟩
theorem rot_6 (x:Int) (w:World):Calls Tryz.prog 175 #[.int .u32 x,.int .i64 (-6)] w fun e w'=>e= .returned (.int .u32 (ror 6 x))/\w'=w:=by
 have e26:bits BinOp.and IntKind.u64 (IntKind.u64.wrap (-6)) 31=26:=by decide+kernel
 go_enter Tryz.func175,Tryz.ntmps175
 go_wp2
 go_ret
 exact⟨rfl,rfl⟩
theorem rot_7 (x:Int) (w:World):Calls Tryz.prog 175 #[.int .u32 x,.int .i64 (-7)] w fun e w'=>e= .returned (.int .u32 (ror 7 x))/\w'=w:=by
 have e26:bits BinOp.and IntKind.u64 (IntKind.u64.wrap (-7)) 31=25:=by decide+kernel
 go_enter Tryz.func175,Tryz.ntmps175
 go_wp2
 go_ret
 exact⟨rfl,rfl⟩
theorem rot_11 (x:Int) (w:World):Calls Tryz.prog 175 #[.int .u32 x,.int .i64 (-11)] w fun e w'=>e= .returned (.int .u32 (ror 11 x))/\w'=w:=by
 have e26:bits BinOp.and IntKind.u64 (IntKind.u64.wrap (-11)) 31=21:=by decide+kernel
 go_enter Tryz.func175,Tryz.ntmps175
 go_wp2
 go_ret
 exact⟨rfl,rfl⟩
theorem rot_13 (x:Int) (w:World):Calls Tryz.prog 175 #[.int .u32 x,.int .i64 (-13)] w fun e w'=>e= .returned (.int .u32 (ror 13 x))/\w'=w:=by
 have e26:bits BinOp.and IntKind.u64 (IntKind.u64.wrap (-13)) 31=19:=by decide+kernel
 go_enter Tryz.func175,Tryz.ntmps175
 go_wp2
 go_ret
 exact⟨rfl,rfl⟩
theorem rot_17 (x:Int) (w:World):Calls Tryz.prog 175 #[.int .u32 x,.int .i64 (-17)] w fun e w'=>e= .returned (.int .u32 (ror 17 x))/\w'=w:=by
 have e26:bits BinOp.and IntKind.u64 (IntKind.u64.wrap (-17)) 31=15:=by decide+kernel
 go_enter Tryz.func175,Tryz.ntmps175
 go_wp2
 go_ret
 exact⟨rfl,rfl⟩
theorem rot_18 (x:Int) (w:World):Calls Tryz.prog 175 #[.int .u32 x,.int .i64 (-18)] w fun e w'=>e= .returned (.int .u32 (ror 18 x))/\w'=w:=by
 have e26:bits BinOp.and IntKind.u64 (IntKind.u64.wrap (-18)) 31=14:=by decide+kernel
 go_enter Tryz.func175,Tryz.ntmps175
 go_wp2
 go_ret
 exact⟨rfl,rfl⟩
theorem rot_19 (x:Int) (w:World):Calls Tryz.prog 175 #[.int .u32 x,.int .i64 (-19)] w fun e w'=>e= .returned (.int .u32 (ror 19 x))/\w'=w:=by
 have e26:bits BinOp.and IntKind.u64 (IntKind.u64.wrap (-19)) 31=13:=by decide+kernel
 go_enter Tryz.func175,Tryz.ntmps175
 go_wp2
 go_ret
 exact⟨rfl,rfl⟩
theorem rot_22 (x:Int) (w:World):Calls Tryz.prog 175 #[.int .u32 x,.int .i64 (-22)] w fun e w'=>e= .returned (.int .u32 (ror 22 x))/\w'=w:=by
 have e26:bits BinOp.and IntKind.u64 (IntKind.u64.wrap (-22)) 31=10:=by decide+kernel
 go_enter Tryz.func175,Tryz.ntmps175
 go_wp2
 go_ret
 exact⟨rfl,rfl⟩
theorem rot_25 (x:Int) (w:World):Calls Tryz.prog 175 #[.int .u32 x,.int .i64 (-25)] w fun e w'=>e= .returned (.int .u32 (ror 25 x))/\w'=w:=by
 have e26:bits BinOp.and IntKind.u64 (IntKind.u64.wrap (-25)) 31=7:=by decide+kernel
 go_enter Tryz.func175,Tryz.ntmps175
 go_wp2
 go_ret
 exact⟨rfl,rfl⟩
theorem rot_all (x y:Int) (w:World) (h:y= -2\/y= -6\/y= -7\/y= -11\/y= -13\/y= -17\/y= -18\/y= -19\/y= -22\/y= -25):Calls Tryz.prog 175 #[.int .u32 x,.int .i64 y] w fun e w'=>e= .returned (.int .u32 (ror (-y).toNat x))/\w'=w:=by
 rcases h with rfl | rfl | rfl | rfl | rfl | rfl | rfl | rfl | rfl | rfl
 ·exact rot_2 x w
 ·exact rot_6 x w
 ·exact rot_7 x w
 ·exact rot_11 x w
 ·exact rot_13 x w
 ·exact rot_17 x w
 ·exact rot_18 x w
 ·exact rot_19 x w
 ·exact rot_22 x w
 ·exact rot_25 x w
theorem turned_6 (x:Int) (w:World):Calls Tryz.prog 166 #[.int .u32 x,.int .i64 6,.int .i64 11,.int .i64 25] w fun e w'=>e= .returned (.int .u32 (sig 6 11 25 x))/\w'=w:=by
 go_enter Tryz.func166,Tryz.ntmps166
 go_wp2_with fail
 refine(rot_6 _ _).mono ?_;rintro e w' ⟨rfl,rfl⟩
 go_wp2_with fail
 refine(rot_11 _ _).mono ?_;rintro e w' ⟨rfl,rfl⟩
 go_wp2_with fail
 refine(rot_25 _ _).mono ?_;rintro e w' ⟨rfl,rfl⟩
 go_wp2_with fail
 go_ret
 exact⟨rfl,rfl⟩
theorem turned_2 (x:Int) (w:World):Calls Tryz.prog 166 #[.int .u32 x,.int .i64 2,.int .i64 13,.int .i64 22] w fun e w'=>e= .returned (.int .u32 (sig 2 13 22 x))/\w'=w:=by
 go_enter Tryz.func166,Tryz.ntmps166
 go_wp2_with fail
 refine(rot_2 _ _).mono ?_;rintro e w' ⟨rfl,rfl⟩
 go_wp2_with fail
 refine(rot_13 _ _).mono ?_;rintro e w' ⟨rfl,rfl⟩
 go_wp2_with fail
 refine(rot_22 _ _).mono ?_;rintro e w' ⟨rfl,rfl⟩
 go_wp2_with fail
 go_ret
 exact⟨rfl,rfl⟩
theorem mixed_17 (x:Int) (w:World):Calls Tryz.prog 174 #[.int .u32 x,.int .i64 17,.int .i64 19,.int .i64 10] w fun e w'=>e= .returned (.int .u32 (mix 17 19 10 x))/\∃n,w'=w.drewN n:=by
 go_enter Tryz.func174,Tryz.ntmps174
 go_wp2_with fail
 go_quiet ((go_at_call 175;exact Calls.quiet_of_same (rot_all _ _ _ (by decide))))
 go_wp2
 go_ret
 exact⟨rfl,_,rfl⟩
theorem mixed_7 (x:Int) (w:World):Calls Tryz.prog 174 #[.int .u32 x,.int .i64 7,.int .i64 18,.int .i64 3] w fun e w'=>e= .returned (.int .u32 (mix 7 18 3 x))/\∃n,w'=w.drewN n:=by
 go_enter Tryz.func174,Tryz.ntmps174
 go_wp2_with fail
 go_quiet ((go_at_call 175;exact Calls.quiet_of_same (rot_all _ _ _ (by decide))))
 go_wp2
 go_ret
 exact⟨rfl,_,rfl⟩
theorem mixed_all (x a b c:Int) (w:World) (h:(a=17/\b=19/\c=10)\/(a=7/\b=18/\c=3)):Calls Tryz.prog 174 #[.int .u32 x,.int .i64 a,.int .i64 b,.int .i64 c] w fun e w'=>e= .returned (.int .u32 (mix a.toNat b.toNat c.toNat x))/\∃n,w'=w.drewN n:=by
 rcases h with ⟨rfl,rfl,rfl⟩ | ⟨rfl,rfl,rfl⟩
 ·exact mixed_17 x w
 ·exact mixed_7 x w
theorem info64:(Tryz.prog.info? 189).map (·.size)=some 64:=by kernel_rfl
theorem spread_any (bb o c:Nat) (blk:List Int) (hl:blk.length=64) (hc:64<=c) (hcc:c<=maxLen) (w:World) (hb:∀i,i < blk.length->w.cell? ⟨bb,o+i,none⟩=some (.int .u8 (blk.getD i 0))) (hbb:bb < w.heap.size) (hby:Byt blk):
  Calls Tryz.prog 165 #[.slice (some ⟨bb,o,none⟩) 64 c] w fun e w'=>e= .returned (.agg (ints .u32 (wl blk 64)).toArray)/\Ext w w':=by
 unfold maxLen at hcc
 have Hb:=Bl.hid hb;clear hb
 have Hl:=Bl.hid hl;clear hl
 go_enter Tryz.func165,Tryz.ntmps165
 go_wp2_with fail
 go_loopw [8] (fun i wr=>∃t:Nat,t<=16/\i= .int .i64 t/\Fam wr w.heap.size .u32 64 (fun _=>0)/\Fam wr (w.heap.size+1) .u32 64 (fun j=>if j < t then word blk j else 0)/\Below w.heap.size w wr) (fun i _=>16 - (intOf i).toNat)
 case atStart=>
  refine⟨0,by omega,rfl,?_,?_,?_⟩
  ·exact(fam_new w 64 .u32 _ _ rfl).alloc (by simp) _
  ·have:=fam_new (w.alloc (.cells (List.replicate 64 (Value.int .u32 0)).toArray 189)) 64 .u32 189 (List.replicate 64 (Value.int .u32 0)).toArray rfl
   simp only [World.size_alloc]at this
   exact this.congr (fun i _=>by simp)
  ·exact(((Below.refl _ _).alloc (Nat.le_refl _) _).alloc (by simp) _)
 case round=>
  obtain⟨t,ht,rfl,hF0,hF1,hB⟩:=hrel
  have HF0:=Bl.hid hF0;clear hF0
  have HF1:=Bl.hid hF1;clear hF1
  by_cases hlt:t < 16
  ·go_wp2_with fail
   obtain⟨wo,hwo⟩:∃wo:World,wo=wr:=⟨_,rfl⟩
   rw [<-hwo]
   have HW:=Bl.hid hwo;clear hwo
   go_loopw [19] (fun i wr=>∃j:Nat,j<=4/\i= .int .i64 j/\Fam wr w.heap.size .u32 64 (fun _=>0)/\Fam wr (w.heap.size+1) .u32 64 (fun i=>if i < t then word blk i else if i=t then Bl.part blk t j else 0)/\Below w.heap.size w wr) (fun i _=>4 - (intOf i).toNat)
   case atStart=>
    refine⟨0,by omega,rfl,?_,?_,?_⟩
    ·rw [HW.out];exact HF0.out
    ·rw [HW.out];exact HF1.out.congr (fun i _=>by rw [part_zero];split<;>simp)
    ·rw [HW.out];exact hB
   case round=>
    obtain⟨j,hj,rfl,hF0',hF1',hB'⟩:=hrel
    have HF0':=Bl.hid hF0'
    have HF1':=Bl.hid hF1'
    by_cases hjl:j < 4
    ·have hp:=part_succ blk t j (by rw [Hl.out];omega)
     obtain⟨x,hx⟩:∃x,x=blk.getD (4*t+j) 0:=⟨_,rfl⟩
     have hcell:wr.cell? ⟨bb,o+4*t+j,none⟩=some (.int .u8 x):=by
      rw [(bcell hB').1 _ _ hbb,Nat.add_assoc,hx]
      exact Hb.out (4*t+j) (by rw [Hl.out];omega)
     obtain⟨hx0,hx1⟩:0<=x/\x<=255:=by rw [hx];exact hby.get _
     rw [<-hx]at hp
     have Hp:=Bl.hid hp
     clear hx hp
     have hw:wr.cell? ⟨w.heap.size+1,t,none⟩=some (.int .u32 (Bl.part blk t j)):=by
      rw [hF1'.1 t (by omega)];simp
     have hz:wr.frozen? ⟨w.heap.size+1,t,none⟩=false:=hF1'.2 t
     clear hF0' hF1'
     go_wp2_with fail
     go_roundw
     case rel=>
      refine⟨j+1,by omega,by go_num,HF0'.out.other _ _ (by simp),?_,hB'.setCell (by simp) _⟩
      refine(HF1'.out.set t (by omega) _).congr (fun i hi=> ?_)
      by_cases e:i=t
      ·subst e;rw [if_pos rfl,if_neg (by omega),if_pos rfl,Hp.out];rfl
      ·rw [if_neg e];simp only [e,if_false]
     case measure=>simp [intOf];omega
    ·obtain rfl:j=4:=by omega
     clear hF0' hF1'
     go_wp2_with fail
     go_roundw
     case rel=>
      refine⟨t+1,by omega,by go_num,HF0'.out,HF1'.out.congr (fun i hi=> ?_),hB'⟩
      by_cases e:i=t
      ·subst e;rw [if_neg (by omega),if_pos rfl,if_pos (by omega),part_four]
      ·by_cases e2:i < t
       ·rw [if_pos e2,if_pos (by omega)]
       ·rw [if_neg e2,if_neg e,if_neg (by omega)]
     case measure=>simp [intOf];omega
  ·have HF1':Hid (Fam wr (w.heap.size+1) .u32 64 (fun j=>if j < 16 then ww blk j else 0)):=by
    refine HF1.out.congr (fun i hi=> ?_)
    by_cases e:i < 16
    ·rw [if_pos (by omega),if_pos e,ww_lo _ _ e]
    ·rw [if_neg (by omega),if_neg e]
   clear HF1
   go_wp2_with fail
   obtain⟨wo,hwo⟩:∃wo:World,wo=wr:=⟨_,rfl⟩
   rw [<-hwo]
   have HW:=Bl.hid hwo;clear hwo
   go_loopw [7] (fun i wr=>∃t:Nat,16<=t/\t<=64/\i= .int .i64 t/\Fam wr w.heap.size .u32 64 (fun _=>0)/\Fam wr (w.heap.size+1) .u32 64 (fun i=>if i < t then ww blk i else 0)/\Below w.heap.size w wr) (fun i _=>64 - (intOf i).toNat)
   case atStart=>exact⟨16,by omega,by omega,rfl,by rw [HW.out];exact HF0.out,by rw [HW.out];exact HF1'.out,by rw [HW.out];exact hB⟩
   case round=>
    obtain⟨t,ht1,ht2,rfl,hG0,hG1,hB'⟩:=hrel
    have HG0:=Bl.hid hG0;clear hG0
    have HG1:=Bl.hid hG1
    by_cases hlt:t < 64
    ·have h2:wr.cell? ⟨w.heap.size+1,t - 2,none⟩=some (.int .u32 (ww blk (t - 2))):=by rw [hG1.1 _ (by omega)];exact congrArg (fun v=>some (Value.int .u32 v)) (if_pos (by omega))
     have h7:wr.cell? ⟨w.heap.size+1,t - 7,none⟩=some (.int .u32 (ww blk (t - 7))):=by rw [hG1.1 _ (by omega)];exact congrArg (fun v=>some (Value.int .u32 v)) (if_pos (by omega))
     have h15:wr.cell? ⟨w.heap.size+1,t - 15,none⟩=some (.int .u32 (ww blk (t - 15))):=by rw [hG1.1 _ (by omega)];exact congrArg (fun v=>some (Value.int .u32 v)) (if_pos (by omega))
     have h16:wr.cell? ⟨w.heap.size+1,t - 16,none⟩=some (.int .u32 (ww blk (t - 16))):=by rw [hG1.1 _ (by omega)];exact congrArg (fun v=>some (Value.int .u32 v)) (if_pos (by omega))
     have hz:wr.frozen? ⟨w.heap.size+1,t,none⟩=false:=hG1.2 t
     have h0:wr.cell? ⟨w.heap.size+1,t,none⟩=some (.int .u32 0):=by rw [hG1.1 _ (by omega)];exact congrArg (fun v=>some (Value.int .u32 v)) (if_neg (by omega))
     clear hG1
     go_wp2_with fail
     have a2:IntKind.i64.wrap ((t:Int) - 2)=(t:Int) - 2:=IntWalk.i64_in _ (by omega)
     have b2:(0:Int)<=(t:Int) - 2:=by omega
     have q2:(2:Int)<=(t:Int):=by omega
     have c2:(t:Int) - 2 < 64:=by omega
     have d2:((t:Int) - 2).toNat=t - 2:=by omega
     have a7:IntKind.i64.wrap ((t:Int) - 7)=(t:Int) - 7:=IntWalk.i64_in _ (by omega)
     have b7:(0:Int)<=(t:Int) - 7:=by omega
     have q7:(7:Int)<=(t:Int):=by omega
     have c7:(t:Int) - 7 < 64:=by omega
     have d7:((t:Int) - 7).toNat=t - 7:=by omega
     have a15:IntKind.i64.wrap ((t:Int) - 15)=(t:Int) - 15:=IntWalk.i64_in _ (by omega)
     have b15:(0:Int)<=(t:Int) - 15:=by omega
     have q15:(15:Int)<=(t:Int):=by omega
     have c15:(t:Int) - 15 < 64:=by omega
     have d15:((t:Int) - 15).toNat=t - 15:=by omega
     have a16:IntKind.i64.wrap ((t:Int) - 16)=(t:Int) - 16:=IntWalk.i64_in _ (by omega)
     have b16:(0:Int)<=(t:Int) - 16:=by omega
     have q16:(16:Int)<=(t:Int):=by omega
     have c16:(t:Int) - 16 < 64:=by omega
     have d16:((t:Int) - 16).toNat=t - 16:=by omega
     have b0:(0:Int)<=(t:Int):=by omega
     have c0:(t:Int) < 64:=by omega
     have hsz:w.heap.size+1 < wr.heap.size:=World.block_lt_of_cell? _ _ h2
     apply wp_region_ev 23 [38,39,40,41,42,43,44,45,46,47,48,49,50,51,52,53,54,55,56,57,58,59,60] [eqv _,eqv _,eqv _,eqv _,eqv _,eqv _,eqv _,eqv _,eqv _,eqv _,eqv _,eqv _,eqv _,eqv _,eqv _,eqv _,eqv _,eqv _,eqv _,eqv _,eqv _,eqv _,eqv _] (by kernel_rfl) (by kernel_rfl) (by kernel_rfl) (by rfl)
     case hsteps=>
      refine⟨?_,?_,?_,?_,?_,?_,?_,?_,?_,?_,?_,?_,?_,?_,?_,?_,?_,?_,?_,?_,?_,?_,?_,trivial⟩
      all_goals
       intro ev w1 hext hb hd
       have e3:=hb 3 (by decide)
       have e7:=hb 7 (by decide)
       clear hb
       simp only [Qa,Qb,Q1,Bl.Q2,Qd]at e3 e7
       simp only [DepsE,Q1,Bl.Q2,Qc,Q3,Q4,eqv,and_true]at hd
       have hc:=(bcell hext).1
       simp only [Bl.Good,Region.wanted,if_true]
       go_simp
       first | exact⟨Below.refl _ _,rfl⟩ | (go_at_call 174;refine(mixed_all _ _ _ _ _ (by decide)).mono ?_;rintro e w' ⟨rfl,n,rfl⟩;exact⟨_,rfl,(Below.refl _ _).drewN _,rfl⟩)
     case hend=>
      intro u w1 hext hend
      simp only [EndE,Q1,Bl.Q2,Qc,Q3,Q4,eqv,true_and]at hend
      simp only [fillAct,Q5,Q6,Q7,Q8,Q9,hend]
      have hz1:w1.frozen? ⟨w.heap.size+1,t,none⟩=false:=((bcell hext).2 _ _ hsz).trans hz
      have h01:w1.cell? ⟨w.heap.size+1,t,none⟩=some (.int .u32 0):=((bcell hext).1 _ _ hsz).trans h0
      have Hext:=Bl.hid hext
      clear hend hext a2 b2 c2 d2 q2 a7 b7 c7 d7 q7 a15 b15 c15 d15 q15 a16 b16 c16 d16 q16 h2 h7 h15 h16
      go_wp2_with fail
      go_roundw
      case rel=>
       have hsz0:w.heap.size < wr.heap.size:=by omega
       refine⟨t+1,by omega,by omega,by go_num,(HG0.out.below Hext.out hsz0).other _ _ (by simp),?_,(hB'.trans (Hext.out.mono (by omega))).setCell (by simp) _⟩
       refine((HG1.out.below Hext.out hsz).set t (by omega) _).congr (fun i hi=> ?_)
       by_cases e:i=t
       ·subst e;rw [if_pos rfl,if_pos (by omega),ww_hi _ _ ht1];unfold Bl.ad;omega
       ·rw [if_neg e]
        by_cases e2:i < t
        ·rw [if_pos e2,if_pos (by omega)]
        ·rw [if_neg e2,if_neg (by omega)]
      case measure=>simp [intOf];omega
     case hmono=>exact⟨mono_eqv _,mono_eqv _,mono_eqv _,mono_eqv _,mono_eqv _,mono_eqv _,mono_eqv _,mono_eqv _,mono_eqv _,mono_eqv _,mono_eqv _,mono_eqv _,mono_eqv _,mono_eqv _,mono_eqv _,mono_eqv _,mono_eqv _,mono_eqv _,mono_eqv _,mono_eqv _,mono_eqv _,mono_eqv _,mono_eqv _,trivial⟩
    ·obtain rfl:t=64:=by omega
     have hr1:wr.rangeAt (w.heap.size+1) 0 (ints .u32 (wl blk 64)):=by
      rw [wl_eq]
      exact(HG1.out.congr (f':=ww blk) (fun i hi=>by rw [if_pos hi])).range
     have hB3:=hB'
     obtain⟨cs,hcs⟩:∃cs,cs=wl blk 64:=⟨_,rfl⟩
     have hlen:cs.length=64:=by rw [hcs,wl_length]
     rw [<-hcs]at hr1
     have hld:=load_ints (P:=Tryz.prog) hr1 Tryz.underlying189 info64 hlen
     have hst:=store_ints (P:=Tryz.prog) (k:= .u32) (l:=cs) HG0.out.there info64 hlen
     have Hld:=Bl.hid hld
     have Hst:=Bl.hid hst
     have Hcs:=Bl.hid hcs
     have Hr1:=Bl.hid hr1
     have Hlen:=Bl.hid hlen
     clear hld hst hcs hr1 hlen hG1
     go_wp2_with (first | ((with_reducible refine wpL_load ?_ Hld.out ?_);rfl) | ((with_reducible refine wpL_store ?_ ?_ Hst.out ?_);rfl;rfl))
     have hin:(wr.setCells w.heap.size 0 (ints .u32 cs)).rangeAt w.heap.size 0 (ints .u32 cs):=World.rangeAt_setCells_same _ _ _ _ (by rw [ints_length,Hlen.out];exact HG0.out.there)
     have hld2:=run_loadVar_mid (P:=Tryz.prog) _ w.heap.size 0 189 (ints .u32 cs) _ hin Tryz.underlying189 rfl (by rw [ints_length,Hlen.out];exact info64)
     refine bodyPost_ret (v:= .agg (ints .u32 cs).toArray) ?_ rfl ⟨by rw [Hcs.out],below_setCells _ _ _ _ hB3 (Nat.le_refl _)⟩
     exact results_cell rfl rfl hld2
structure Glob (w:World):Prop where
 added:∀i,i < 64->w.cell? ⟨11,i,none⟩=some (.int .u32 (kt.getD i 0))
 first:∀i,i < 8->w.cell? ⟨10,i,none⟩=some (.int .u32 (iv.getD i 0))
theorem Glob.ext {w w':World} (h:Glob w) (hb:Ext w w'):Glob w':=by
 have l1:=World.block_lt_of_cell? w _ (h.added 0 (by decide))
 have l2:=World.block_lt_of_cell? w _ (h.first 0 (by decide))
 exact⟨fun i hi=>((bcell hb).1 _ _ l1).trans (h.added i hi),fun i hi=>((bcell hb).1 _ _ l2).trans (h.first i hi)⟩
theorem turned_all (x a b c:Int) (w:World) (h:(a=6/\b=11/\c=25)\/(a=2/\b=13/\c=22)):Calls Tryz.prog 166 #[.int .u32 x,.int .i64 a,.int .i64 b,.int .i64 c] w fun e w'=>e= .returned (.int .u32 (sig a.toNat b.toNat c.toNat x))/\w'=w:=by
 rcases h with ⟨rfl,rfl,rfl⟩ | ⟨rfl,rfl,rfl⟩
 ·exact turned_6 x w
 ·exact turned_2 x w
theorem info8:(Tryz.prog.info? 205).map (·.size)=some 8:=by kernel_rfl
theorem take_any (z:St) (bb o c:Nat) (blk:List Int) (hl:blk.length=64) (hc:64<=c) (hcc:c<=maxLen) (w:World) (hb:∀i,i < blk.length->w.cell? ⟨bb,o+i,none⟩=some (.int .u8 (blk.getD i 0))) (hbb:bb < w.heap.size) (hby:Byt blk) (hg:Glob w):
  Calls Tryz.prog 151 #[.agg #[.int .u32 z.a,.int .u32 z.b,.int .u32 z.c,.int .u32 z.d,.int .u32 z.e,.int .u32 z.f,.int .u32 z.g,.int .u32 z.h],.slice (some ⟨bb,o,none⟩) 64 c] w fun e w'=>e= .returned (comp z blk).val/\Ext w w':=by
 have Hb:=Bl.hid hb;clear hb
 have Hl:=Bl.hid hl;clear hl
 have Hg:=Bl.hid hg;clear hg
 have Hby:=Bl.hid hby;clear hby
 go_enter Tryz.func151,Tryz.ntmps151
 go_wp2_with fail
 refine(spread_any bb o c blk Hl.out hc hcc _ ?_ ?_ Hby.out).mono ?_
 ·intro i hi
  exact((bcell ((((Below.refl w.heap.size w).alloc (Nat.le_refl _) _).alloc (by simp only [World.size_alloc];omega) _).alloc (by simp only [World.size_alloc];omega) _)).1 _ _ hbb).trans (Hb.out i hi)
 ·simp;omega
 rintro e w1 ⟨rfl,hw1⟩
 obtain⟨ws,hws⟩:∃ws,ws=wl blk 64:=⟨_,rfl⟩
 rw [<-hws]
 have Hws:=Bl.hid hws;clear hws
 go_wp2_with fail
 go_loopw [16] (fun i wr=>∃(t:Nat) (s:St),t<=64/\i= .int .i64 t/\Fam wr w.heap.size .u32 8 (fun i=>s.l.getD i 0)/\Fam wr (w.heap.size+1) .u32 8 (fun _=>0)/\Fam wr (w.heap.size+1+1) .u32 8 (fun i=>z.l.getD i 0)/\Hid (s=rndn z ws t)/\Below w.heap.size w wr) (fun i _=>64 - (intOf i).toNat)
 case atStart=>
  have z8:∀i,i < 8->(#[.int .u32 z.a,.int .u32 z.b,.int .u32 z.c,.int .u32 z.d,.int .u32 z.e,.int .u32 z.f,.int .u32 z.g,.int .u32 z.h]:Array Value)[i]? =some (.int .u32 (z.l.getD i 0)):=fun i hi=>by
   match i,hi with
   | 0,_=>rfl
   | 1,_=>rfl
   | 2,_=>rfl
   | 3,_=>rfl
   | 4,_=>rfl
   | 5,_=>rfl
   | 6,_=>rfl
   | 7,_=>rfl
  have o8:∀i,i < 8->(#[.int .u32 0,.int .u32 0,.int .u32 0,.int .u32 0,.int .u32 0,.int .u32 0,.int .u32 0,.int .u32 0]:Array Value)[i]? =some (.int .u32 0):=fun i hi=>by
   match i,hi with
   | 0,_=>rfl
   | 1,_=>rfl
   | 2,_=>rfl
   | 3,_=>rfl
   | 4,_=>rfl
   | 5,_=>rfl
   | 6,_=>rfl
   | 7,_=>rfl
  refine⟨0,z,by omega,rfl,?_,?_,?_,rfl,?_⟩
  ·exact(((fam_alloc w 8 .u32 _ _ _ z8).alloc (by simp only [World.size_alloc];omega) _).alloc (by simp only [World.size_alloc];omega) _).below hw1 (by simp;omega)
  ·have h:=(fam_alloc (w.alloc (.cells #[.int .u32 z.a,.int .u32 z.b,.int .u32 z.c,.int .u32 z.d,.int .u32 z.e,.int .u32 z.f,.int .u32 z.g,.int .u32 z.h] 205)) 8 .u32 205 _ (fun _=>0) o8)
   simp only [World.size_alloc]at h
   exact(h.alloc (by simp only [World.size_alloc];omega) _).below hw1 (by simp)
  ·have h:=(fam_alloc ((w.alloc (.cells #[.int .u32 z.a,.int .u32 z.b,.int .u32 z.c,.int .u32 z.d,.int .u32 z.e,.int .u32 z.f,.int .u32 z.g,.int .u32 z.h] 205)).alloc (.cells #[.int .u32 0,.int .u32 0,.int .u32 0,.int .u32 0,.int .u32 0,.int .u32 0,.int .u32 0,.int .u32 0] 205)) 8 .u32 205 _ _ z8)
   simp only [World.size_alloc]at h
   exact h.below hw1 (by simp)
  ·exact((((Below.refl w.heap.size w).alloc (Nat.le_refl _) _).alloc (by simp only [World.size_alloc];omega) _).alloc (by simp only [World.size_alloc];omega) _).trans (hw1.mono (by simp;omega))
 case round=>
  obtain⟨t,s,ht,rfl,hF0,hF1,hF2,hs,hB⟩:=hrel
  have HF0:=Bl.hid hF0
  have HF1:=Bl.hid hF1;clear hF1
  have HF2:=Bl.hid hF2;clear hF2
  by_cases hlt:t < 64
  ·have hix:=index_ints (P:=Tryz.prog) (w:=wr) (k:= .u32) (l:=ws) (i:=t) Tryz.underlying189 Tryz.sizeOf187 Tryz.isAgg187 (by rw [Hws.out,wl_length]) hlt
   have Hix:=Bl.hid hix;clear hix
   have c0:wr.cell? ⟨w.heap.size,0,none⟩=some (.int .u32 s.a):=hF0.1 0 (by decide)
   have c1:wr.cell? ⟨w.heap.size,1,none⟩=some (.int .u32 s.b):=hF0.1 1 (by decide)
   have c2:wr.cell? ⟨w.heap.size,2,none⟩=some (.int .u32 s.c):=hF0.1 2 (by decide)
   have c3:wr.cell? ⟨w.heap.size,3,none⟩=some (.int .u32 s.d):=hF0.1 3 (by decide)
   have c4:wr.cell? ⟨w.heap.size,4,none⟩=some (.int .u32 s.e):=hF0.1 4 (by decide)
   have c5:wr.cell? ⟨w.heap.size,5,none⟩=some (.int .u32 s.f):=hF0.1 5 (by decide)
   have c6:wr.cell? ⟨w.heap.size,6,none⟩=some (.int .u32 s.g):=hF0.1 6 (by decide)
   have c7:wr.cell? ⟨w.heap.size,7,none⟩=some (.int .u32 s.h):=hF0.1 7 (by decide)
   have hk:wr.cell? ⟨11,t,none⟩=some (.int .u32 (kt.getD t 0)):=by
    have:=(bcell hB).1 11 t (World.block_lt_of_cell? w _ (Hg.out.added 0 (by decide)))
    rw [this];exact Hg.out.added t hlt
   obtain⟨kk,hkk⟩:∃kk,kk=kt.getD t 0:=⟨_,rfl⟩
   rw [<-hkk]at hk
   have Hkk:=Bl.hid hkk;clear hkk hF0
   have ht0:(0:Int)<=(t:Int):=by omega
   have ht64:(t:Int) < 64:=by omega
   go_wp2_with ((with_reducible refine wpL_index ?_ ?_ Hix.out ?_);rfl;rfl)
   go_quiet ((go_at_call 166;exact Calls.quiet_of_same (turned_all _ _ _ _ _ (by decide))))
   have f0:wr.frozen? ⟨w.heap.size,0,none⟩=false:=HF0.out.2 0
   have f1:wr.frozen? ⟨w.heap.size,1,none⟩=false:=HF0.out.2 1
   have f2:wr.frozen? ⟨w.heap.size,2,none⟩=false:=HF0.out.2 2
   have f3:wr.frozen? ⟨w.heap.size,3,none⟩=false:=HF0.out.2 3
   have f4:wr.frozen? ⟨w.heap.size,4,none⟩=false:=HF0.out.2 4
   have f5:wr.frozen? ⟨w.heap.size,5,none⟩=false:=HF0.out.2 5
   have f6:wr.frozen? ⟨w.heap.size,6,none⟩=false:=HF0.out.2 6
   have f7:wr.frozen? ⟨w.heap.size,7,none⟩=false:=HF0.out.2 7
   go_wp2_with (go_at_call 166;refine(turned_all _ _ _ _ _ (by decide)).mono ?_;rintro e w' ⟨rfl,rfl⟩)
   have hs':rnd s kk (ws[t]?.getD 0)=rndn z ws (t+1):=by
    have h1:=hs.out
    rw [h1,Hkk.out,<-List.getD_eq_getElem?_getD];rfl
   go_roundw
   case rel=>exact⟨t+1,rnd s kk (ws[t]?.getD 0),by omega,by go_num,(HF0.out.drew nq).store8 _ _ _ _ _ _ _ _,(HF1.out.drew nq).other8 _ (by omega) _ _ _ _ _ _ _ _,(HF2.out.drew nq).other8 _ (by omega) _ _ _ _ _ _ _ _,hs',below8 (hB.drewN nq) _ (Nat.le_refl _) _ _ _ _ _ _ _ _⟩
   case measure=>simp [intOf];omega
  ·obtain rfl:t=64:=by omega
   clear hF0
   go_wp2_with fail
   obtain⟨wo,hwo⟩:∃wo:World,wo=wr:=⟨_,rfl⟩
   rw [<-hwo]
   have HW:=Bl.hid hwo;clear hwo
   go_loopw [89] (fun i wr=>∃j:Nat,j<=8/\i= .int .i64 j/\Fam wr w.heap.size .u32 8 (fun i=>if i < j then(s.l.getD i 0+z.l.getD i 0) % 4294967296 else s.l.getD i 0)/\Fam wr (w.heap.size+1) .u32 8 (fun _=>0)/\Fam wr (w.heap.size+1+1) .u32 8 (fun i=>z.l.getD i 0)/\Below w.heap.size w wr) (fun i _=>8 - (intOf i).toNat)
   case atStart=>exact⟨0,by omega,rfl,by rw [HW.out];exact HF0.out.congr (fun i hi=>by simp),by rw [HW.out];exact HF1.out,by rw [HW.out];exact HF2.out,by rw [HW.out];exact hB⟩
   case round=>
    obtain⟨j,hj,rfl,hG0,hG1,hG2,hB'⟩:=hrel
    have HG0:=Bl.hid hG0
    have HG1:=Bl.hid hG1;clear hG1
    have HG2:=Bl.hid hG2
    by_cases hlt:j < 8
    ·obtain⟨x,hx⟩:∃x,x=s.l.getD j 0:=⟨_,rfl⟩
     obtain⟨y,hy⟩:∃y,y=z.l.getD j 0:=⟨_,rfl⟩
     have c1:wr.cell? ⟨w.heap.size,j,none⟩=some (.int .u32 x):=by rw [hG0.1 j hlt,hx];simp
     have c2:wr.cell? ⟨w.heap.size+1+1,j,none⟩=some (.int .u32 y):=by rw [hG2.1 j hlt,hy]
     have f1:wr.frozen? ⟨w.heap.size,j,none⟩=false:=hG0.2 j
     have Hx:=Bl.hid hx
     have Hy:=Bl.hid hy
     clear hG0 hG2 hx hy
     have hj0:(0:Int)<=(j:Int):=by omega
     have hj8:(j:Int) < 8:=by omega
     have hsz2:w.heap.size+1+1 < wr.heap.size:=World.block_lt_of_cell? _ _ c2
     have hsz0:w.heap.size < wr.heap.size:=by omega
     have hsz1:w.heap.size+1 < wr.heap.size:=by omega
     go_wp2_with fail
     apply wp_region_ev 8 [92,93,94,95,96,97,98,99] [eqv _,eqv _,eqv _,eqv _,eqv _,eqv _,eqv _,eqv _] (by kernel_rfl) (by kernel_rfl) (by kernel_rfl) (by rfl)
     case hsteps=>
      refine⟨?_,?_,?_,?_,?_,?_,?_,?_,trivial⟩
      all_goals
       intro ev w1 hext hb hd
       have e2:=hb 2 (by decide)
       have e5:=hb 5 (by decide)
       have e12:=hb 12 (by decide)
       clear hb
       simp only [Qa,Qb,Q1,Bl.Q2,Qd]at e2 e5 e12
       simp only [DepsE,Q1,Bl.Q2,Qc,Q3,Q4,eqv,and_true]at hd
       have hc:=(bcell hext).1
       simp only [Bl.Good,Region.wanted,if_true]
       go_simp
       exact⟨Below.refl _ _,rfl⟩
     case hend=>
      intro u w1 hext hend
      simp only [EndE,Q1,Bl.Q2,Qc,Q3,Q4,eqv,true_and]at hend
      simp only [fillAct,Q5,Q6,Q7,Q8,Q9,hend]
      have c1':w1.cell? ⟨w.heap.size,j,none⟩=some (.int .u32 x):=((bcell hext).1 _ _ hsz0).trans c1
      have f1':w1.frozen? ⟨w.heap.size,j,none⟩=false:=((bcell hext).2 _ _ hsz0).trans f1
      have Hext:=Bl.hid hext
      clear hend hext c1 c2 f1
      go_wp2_with fail
      go_roundw
      case rel=>
       refine⟨j+1,by omega,by go_num,?_,(HG1.out.below Hext.out hsz1).other _ _ (by simp),(HG2.out.below Hext.out hsz2).other _ _ (by simp;omega),(hB'.trans (Hext.out.mono (by omega))).setCell (by simp) _⟩
       refine((HG0.out.below Hext.out hsz0).set j (by omega) _).congr (fun i hi=> ?_)
       by_cases e:i=j
       ·subst e;rw [if_pos rfl,if_pos (by omega),Hx.out,Hy.out]
       ·rw [if_neg e]
        by_cases e2:i < j
        ·rw [if_pos e2,if_pos (by omega)]
        ·rw [if_neg e2,if_neg (by omega)]
      case measure=>simp [intOf];omega
     case hmono=>exact⟨mono_eqv _,mono_eqv _,mono_eqv _,mono_eqv _,mono_eqv _,mono_eqv _,mono_eqv _,mono_eqv _,trivial⟩
    ·obtain rfl:j=8:=by omega
     obtain⟨l,hl⟩:∃l,l=(fin s z).l:=⟨_,rfl⟩
     have hlen:l.length=8:=by rw [hl];rfl
     have hr1:wr.rangeAt w.heap.size 0 (ints .u32 l):=by
      have h:=(HG0.out.congr (f':=fun i=>l.getD i 0) (fun i hi=>by rw [if_pos hi,hl,fin_get _ _ _ hi])).range
      have e:(List.range 8).map (fun i=>l.getD i 0)=l:=by rw [hl];rfl
      rw [e]at h;exact h
     have Hld:=Bl.hid (load_ints (P:=Tryz.prog) hr1 Tryz.underlying205 info8 hlen)
     have Hst:=Bl.hid (store_ints (P:=Tryz.prog) (k:= .u32) (l:=l) HG1.out.there info8 hlen)
     have Hcs:=Bl.hid hl
     have Hlen:=Bl.hid hlen
     clear hr1 hl hlen hG0 hG2
     go_wp2_with (first | ((with_reducible refine wpL_load ?_ Hld.out ?_);rfl) | ((with_reducible refine wpL_store ?_ ?_ Hst.out ?_);rfl;rfl))
     have hin:(wr.setCells (w.heap.size+1) 0 (ints .u32 l)).rangeAt (w.heap.size+1) 0 (ints .u32 l):=World.rangeAt_setCells_same _ _ _ _ (by rw [ints_length,Hlen.out];exact HG1.out.there)
     have hld2:=run_loadVar_mid (P:=Tryz.prog) _ (w.heap.size+1) 0 205 (ints .u32 l) _ hin Tryz.underlying205 rfl (by rw [ints_length,Hlen.out];exact info8)
     refine bodyPost_ret (v:= .agg (ints .u32 l).toArray) (results_cell rfl rfl hld2) rfl ⟨?_,below_setCells _ _ _ _ hB' (by omega)⟩
     have h1:=hs.out
     rw [Hcs.out,h1,Hws.out];rfl
theorem new_any (w:World) (hg:Glob w):
  Calls Tryz.prog 133 #[] w fun e w'=>e= .returned (.pointer (some ⟨w.heap.size,0,none⟩))/\w'=w.alloc (.cells #[.int .u32 iv0.a,.int .u32 iv0.b,.int .u32 iv0.c,.int .u32 iv0.d,.int .u32 iv0.e,.int .u32 iv0.f,.int .u32 iv0.g,.int .u32 iv0.h,.slice none 0 0,.int .i64 0] 207):=by
 have g0:=hg.first 0 (by decide)
 have g1:=hg.first 1 (by decide)
 have g2:=hg.first 2 (by decide)
 have g3:=hg.first 3 (by decide)
 have g4:=hg.first 4 (by decide)
 have g5:=hg.first 5 (by decide)
 have g6:=hg.first 6 (by decide)
 have g7:=hg.first 7 (by decide)
 clear hg
 simp only [iv,List.getD_cons_zero,List.getD_cons_succ]at g0 g1 g2 g3 g4 g5 g6 g7
 simp only [iv0]
 go_enter Tryz.func133,Tryz.ntmps133
 go_wp2
 go_ret
 exact⟨rfl,rfl⟩
def restLen (w:World) (hb:Nat):Nat:=match w.cell? ⟨hb,8,none⟩with | some (.slice _ n _)=>n | _=>0
theorem restLen_eq {w:World} {hb n c:Nat} {p:Option Addr} (h:w.cell? ⟨hb,8,none⟩=some (.slice p n c)):restLen w hb=n:=by simp [restLen,h]
structure HashAt (w:World) (B0 hb:Nat) (z:St) (l:List Int) (n:Nat):Prop where
 words:Fam w hb .u32 8 (fun i=>z.l.getD i 0)
 rest:∃v,w.cell? ⟨hb,8,none⟩=some v/\w.ownsRow B0 5 1 v l.length (ints .u8 l)/\v.ownBlock≠some hb
 count:w.cell? ⟨hb,9,none⟩=some (.int .i64 n)
 ge:B0<=hb
theorem put_any (w:World) (B0 hb n:Nat) (z:St) (l bs:List Int) (v:Value) (hH:HashAt w B0 hb z l n) (hv:∀w1,Below B0 w w1->Rd w1 .u8 v bs) (hg:∀w1,Below B0 w w1->Glob w1) (hby:Byt (l++bs)) (hB0:B0<=w.heap.size)
  (hl:l.length < 64) (hbs:bs.length<=1099511627776) (hn:n<=1099511627776):
  Calls Tryz.prog 134 #[.pointer (some ⟨hb,0,none⟩),v] w fun e w'=>e= .returned (.pointer (some ⟨hb,0,none⟩))/\HashAt w' B0 hb (eat z (l++bs)).1 (eat z (l++bs)).2 (n+bs.length)/\Below B0 w w':=by
 obtain⟨hW,⟨v0,h8,hown,hne⟩,h9,hge⟩:=hH
 obtain⟨pv,cv,hvf,hvn,hvc⟩:=(hv w (Below.refl _ _)).form
 subst hvf
 obtain⟨p0,c0,hf0,hn0,hc0⟩:=(Rds.of_owns hown).form
 subst hf0
 have hz8:w.frozen? ⟨hb,8,none⟩=false:=hW.2 8
 have hz9:w.frozen? ⟨hb,9,none⟩=false:=hW.2 9
 have HW:=Bl.hid hW;clear hW
 have Hv:=Bl.hid hv;clear hv
 have Hg:=Bl.hid hg;clear hg
 have Hby:=Bl.hid hby;clear hby
 have Hne:=Bl.hid hne;clear hne
 have Hown:=Bl.hid hown;clear hown
 go_enter Tryz.func134,Tryz.ntmps134
 have Hown9:=Bl.hid (owns_setCell Hown.out Hne.out 9 (.int .i64 ((n:Int)+(bs.length:Int))))
 have Hv9:=Bl.hid (Hv.out _ ((Below.refl B0 w).setCell (p:=⟨hb,9,none⟩) hge (.int .i64 ((n:Int)+(bs.length:Int)))))
 have hlt:hb < w.heap.size:=World.block_lt_of_cell? _ _ h9
 have h8':(w.setCell ⟨hb,9,none⟩ (.int .i64 ((n:Int)+(bs.length:Int)))).cell? ⟨hb,8,none⟩=some (.slice p0 l.length c0):=by
  rw [World.cell?_setCell_other _ _ _ _ (by intro q;injection q with _ q;omega)];exact h8
 have h9':(w.setCell ⟨hb,9,none⟩ (.int .i64 ((n:Int)+(bs.length:Int)))).cell? ⟨hb,9,none⟩=some (.int .i64 ((n:Int)+(bs.length:Int))):=World.cell?_setCell_same _ _ _ h9
 have Hh8:=Bl.hid h8'
 have Hh9:=Bl.hid h9'
 clear h8' h9'
 go_wp2_with ((with_reducible refine wpL_append tBytes Hown9.out Hv9.out (by simp) (ints_one _ _) (by unfold maxLen;omega) (by omega) (by simp;omega) ?_ ?_ ?_);rfl;rfl;intro v' w' hown' hgr hB' hK;obtain⟨p',c',hf',hn',hc'⟩:=(Rds.of_owns hown').form;subst hf';have hk8:w'.cell? ⟨hb,8,none⟩=some (.slice p0 l.length c0):=(hgr.cell_far _ (by simp;omega) (fun q=>Hne.out q.symm)).trans Hh8.out;have hf8:w'.frozen? ⟨hb,8,none⟩=false:=(hgr.frozen_far _ (by simp;omega) (fun q=>Hne.out q.symm)).trans (by rw [World.frozen?_setCell];exact hz8);have hX:RdsX w' hb (.slice p' (l.length+bs.length) c') (l.length+bs.length) (ints .u8 l++ints .u8 bs):=RdsX.of_owns hown' (fun q=>(hK hb q).elim (fun q=>Hne.out q) (fun q=>by simp at q;omega));have HX:=Bl.hid hX;have Hgr:=Bl.hid hgr;clear hown' hgr hK hX)
 have hlt':hb < w'.heap.size:=World.block_lt_of_cell? _ _ hk8
 go_loopw [23] (fun _ wr=>∃(z':St) (l':List Int) (pr:Option Addr) (cr:Nat),Fam wr hb .u32 8 (fun i=>z'.l.getD i 0)/\wr.cell? ⟨hb,8,none⟩=some (.slice pr l'.length cr)/\RdsX wr hb (.slice pr l'.length cr) l'.length (ints .u8 l')/\wr.cell? ⟨hb,9,none⟩=some (.int .i64 (n+bs.length:Nat))/\Below B0 w wr/\Hid (eat z (l++bs)=eat z' l')/\Hid (Byt l')/\l'.length<=l.length+bs.length) (fun _ wr=>restLen wr hb)
 case atStart=>
  have hfar:∀i,w'.cell? ⟨hb,i,none⟩=(w.setCell ⟨hb,9,none⟩ (.int .i64 ((n:Int)+(bs.length:Int)))).cell? ⟨hb,i,none⟩:=fun i=>Hgr.out.cell_far _ (by simp;omega) (fun q=>Hne.out q.symm)
  have hF:Fam w' hb .u32 8 (fun i=>z.l.getD i 0):=(HW.out.setHi 9 (by omega) _).grown Hgr.out (by simp;omega) (fun q=>Hne.out q.symm)
  refine⟨z,l++bs,p',c',hF.setHi 8 (by omega) _,?_,?_,?_,?_,rfl,Hby.out,by rw [List.length_append];omega⟩
  ·rw [List.length_append];exact World.cell?_setCell_same _ _ _ hk8
  ·rw [List.length_append,ints_append];exact HX.out.set 8 _
  ·refine cell_set_ne ?_ (by omega)
   rw [hfar 9,Hh9.out];simp
  ·exact(((Below.refl B0 w).setCell (p:=⟨hb,9,none⟩) hge _).trans hB').setCell (p:=⟨hb,8,none⟩) hge _
 case round=>
  obtain⟨z',l',pr,cr,hF,hr8,hrX,hr9,hB,he,hby',hll⟩:=hrel
  have HF:=Bl.hid hF
  have HrX:=Bl.hid hrX
  obtain⟨pp,cc,hpc,hnc,hcm⟩:=hrX.rds.form
  obtain⟨rfl,rfl⟩:pr=pp/\cr=cc:=by cases hpc;exact⟨rfl,rfl⟩
  clear hrX hpc
  have hz8':wr.frozen? ⟨hb,8,none⟩=false:=hF.2 8
  have hb8:hb < wr.heap.size:=World.block_lt_of_cell? _ _ hr8
  by_cases h64:64<=l'.length
  ·have c0:wr.cell? ⟨hb,0,none⟩=some (.int .u32 z'.a):=hF.1 0 (by decide)
   have c1:wr.cell? ⟨hb,1,none⟩=some (.int .u32 z'.b):=hF.1 1 (by decide)
   have c2:wr.cell? ⟨hb,2,none⟩=some (.int .u32 z'.c):=hF.1 2 (by decide)
   have c3:wr.cell? ⟨hb,3,none⟩=some (.int .u32 z'.d):=hF.1 3 (by decide)
   have c4:wr.cell? ⟨hb,4,none⟩=some (.int .u32 z'.e):=hF.1 4 (by decide)
   have c5:wr.cell? ⟨hb,5,none⟩=some (.int .u32 z'.f):=hF.1 5 (by decide)
   have c6:wr.cell? ⟨hb,6,none⟩=some (.int .u32 z'.g):=hF.1 6 (by decide)
   have c7:wr.cell? ⟨hb,7,none⟩=some (.int .u32 z'.h):=hF.1 7 (by decide)
   clear hF
   obtain⟨gb,go,hpr,hgne,hgr⟩:∃gb go,pr=some ⟨gb,go,none⟩/\gb≠hb/\wr.rangeAt gb go (ints .u8 l'):=by
    rcases HrX.out with ⟨h1,_,h3⟩ | ⟨b',o',c',h1,h2,h3,h4,h5⟩
    ·exfalso;have:=congrArg List.length h3;rw [ints_length]at this;simp only [List.length_nil]at this;omega
    ·cases h1;exact⟨b',o',rfl,h4,h5⟩
   subst hpr
   have hgb:gb < wr.heap.size:=rangeAt_lt hgr (by intro q;have:=congrArg List.length q;rw [ints_length]at this;simp only [List.length_nil]at this;omega)
   have Hget:Hid (∀i,i < (l'.take 64).length->wr.cell? ⟨gb,go+i,none⟩=some (.int .u8 ((l'.take 64).getD i 0))):=fun i hi=>by
    have hi':i < 64:=by rw [List.length_take]at hi;omega
    rw [hgr i _ (ints_get .u8 l' i (by omega)),List.getD_eq_getElem?_getD,List.getD_eq_getElem?_getD,List.getElem?_take,if_pos hi']
   have Hglob:=Bl.hid (Hg.out wr hB)
   have Hgr:=Bl.hid hgr;clear hgr
   have hc64:64<=cr:=by omega
   have hc64i:(64:Int)<=(cr:Int):=by omega
   go_wp2_with fail
   apply wp_region_ev 13 [29,30,31,32,33,34,35,36,37,38,39,40,41] [eqv _,eqv _,eqv _,eqv _,eqv _,eqv _,eqv _,eqv _,eqv _,eqv _,eqv _,eqv _,eqv _] (by kernel_rfl) (by kernel_rfl) (by kernel_rfl) (by rfl)
   case hsteps=>
    refine⟨?_,?_,?_,?_,?_,?_,?_,?_,?_,?_,?_,?_,?_,trivial⟩
    all_goals
     intro ev w1 hext hb hd
     have e0:=hb 0 (by decide)
     clear hb
     simp only [Qa,Qb,Bl.Q2,Qd]at e0
     simp only [DepsE,Q1,Bl.Q2,Qc,Q3,Q4,eqv,and_true]at hd
     have hc:=(bcell hext).1
     simp only [Bl.Good,Region.wanted,if_true]
     go_simp
     first | exact⟨Below.refl _ _,rfl⟩ | (go_at_call 151;refine(take_any z' gb go cr (l'.take 64) (by simp;omega) (by omega) hcm _ ?_ ?_ ?_ ?_).mono ?_;(intro i hi;rw [hc _ _ hgb];exact Hget.out i hi);(exact Nat.lt_of_lt_of_le hgb hext.size);(exact hby'.out.take 64);(exact Hglob.out.ext hext);rintro e w2 ⟨rfl,hw2⟩;exact⟨_,rfl,hw2,rfl⟩)
   case hend=>
    intro u w1 hext hend
    simp only [EndE,Q1,Bl.Q2,Qc,Q3,Q4,eqv,true_and]at hend
    have f0:w1.frozen? ⟨hb,0,none⟩=false:=((bcell hext).2 _ _ hb8).trans (HF.out.2 0)
    have d0:w1.cell? ⟨hb,0,none⟩=some (.int .u32 z'.a):=((bcell hext).1 _ _ hb8).trans c0
    have f1:w1.frozen? ⟨hb,1,none⟩=false:=((bcell hext).2 _ _ hb8).trans (HF.out.2 1)
    have d1:w1.cell? ⟨hb,1,none⟩=some (.int .u32 z'.b):=((bcell hext).1 _ _ hb8).trans c1
    have f2:w1.frozen? ⟨hb,2,none⟩=false:=((bcell hext).2 _ _ hb8).trans (HF.out.2 2)
    have d2:w1.cell? ⟨hb,2,none⟩=some (.int .u32 z'.c):=((bcell hext).1 _ _ hb8).trans c2
    have f3:w1.frozen? ⟨hb,3,none⟩=false:=((bcell hext).2 _ _ hb8).trans (HF.out.2 3)
    have d3:w1.cell? ⟨hb,3,none⟩=some (.int .u32 z'.d):=((bcell hext).1 _ _ hb8).trans c3
    have f4:w1.frozen? ⟨hb,4,none⟩=false:=((bcell hext).2 _ _ hb8).trans (HF.out.2 4)
    have d4:w1.cell? ⟨hb,4,none⟩=some (.int .u32 z'.e):=((bcell hext).1 _ _ hb8).trans c4
    have f5:w1.frozen? ⟨hb,5,none⟩=false:=((bcell hext).2 _ _ hb8).trans (HF.out.2 5)
    have d5:w1.cell? ⟨hb,5,none⟩=some (.int .u32 z'.f):=((bcell hext).1 _ _ hb8).trans c5
    have f6:w1.frozen? ⟨hb,6,none⟩=false:=((bcell hext).2 _ _ hb8).trans (HF.out.2 6)
    have d6:w1.cell? ⟨hb,6,none⟩=some (.int .u32 z'.g):=((bcell hext).1 _ _ hb8).trans c6
    have f7:w1.frozen? ⟨hb,7,none⟩=false:=((bcell hext).2 _ _ hb8).trans (HF.out.2 7)
    have d7:w1.cell? ⟨hb,7,none⟩=some (.int .u32 z'.h):=((bcell hext).1 _ _ hb8).trans c7
    have f8:w1.frozen? ⟨hb,8,none⟩=false:=((bcell hext).2 _ _ hb8).trans hz8'
    have d8:w1.cell? ⟨hb,8,none⟩=some (.slice (some ⟨gb,go,none⟩) l'.length cr):=((bcell hext).1 _ _ hb8).trans hr8
    simp only [fillAct,Q5,Q6,Q7,Q8,Q9,hend]
    have Hext:=Bl.hid hext
    have Hr9:=Bl.hid hr9
    have Hr8:=Bl.hid hr8
    clear hend hext c0 c1 c2 c3 c4 c5 c6 c7 hz8' hr9 hr8
    by_cases hcr:cr=64
    ·subst hcr
     have hl64:l'.length=64:=by omega
     have Hl64:=Bl.hid hl64
     clear hl64
     go_wp2_with fail
     go_roundw
     case rel=>
      have hE8:=(Exc.refl hb w1).store8 (.int .u32 (comp z' (l'.take 64)).a) (.int .u32 (comp z' (l'.take 64)).b) (.int .u32 (comp z' (l'.take 64)).c) (.int .u32 (comp z' (l'.take 64)).d) (.int .u32 (comp z' (l'.take 64)).e) (.int .u32 (comp z' (l'.take 64)).f) (.int .u32 (comp z' (l'.take 64)).g) (.int .u32 (comp z' (l'.take 64)).h)
      have hlen:(l'.drop 64).length=l'.length - 64:=List.length_drop
      refine⟨comp z' (l'.take 64),l'.drop 64,some ⟨gb,go,none⟩,0,((HF.out.below Hext.out hb8).store8 _ _ _ _ _ _ _ _).setHi 8 (by omega) _,?_,?_,cell_set_ne (cell_hi8 (((bcell Hext.out).1 _ _ hb8).trans Hr9.out) (by omega) _ _ _ _ _ _ _ _) (by omega),(below8 (hB.trans (Hext.out.mono (by omega))) _ hge _ _ _ _ _ _ _ _).setCell hge _,?_,hby'.out.drop 64,by omega⟩
      ·rw [hlen,show l'.length - 64=0 from by have:=Hl64.out;omega];exact World.cell?_setCell_same _ _ _ (cell_hi8 d8 (by omega) _ _ _ _ _ _ _ _)
      ·rw [hlen];exact .inr ⟨gb,go,0,rfl,by omega,by omega,hgne,(by rw [List.drop_eq_nil_of_le (by omega)];intro j x hx;simp [ints]at hx)⟩
      ·exact he.out.trans (eat_hi _ _ h64)
     case measure=>
      rw [restLen_eq Hr8.out,restLen_eq (World.cell?_setCell_same _ _ _ (cell_hi8 d8 (by omega) _ _ _ _ _ _ _ _))]
      omega
    ·have hcr2:64 < cr:=by omega
     clear hcr
     go_wp2_with fail
     go_roundw
     case rel=>
      have hE8:=(Exc.refl hb w1).store8 (.int .u32 (comp z' (l'.take 64)).a) (.int .u32 (comp z' (l'.take 64)).b) (.int .u32 (comp z' (l'.take 64)).c) (.int .u32 (comp z' (l'.take 64)).d) (.int .u32 (comp z' (l'.take 64)).e) (.int .u32 (comp z' (l'.take 64)).f) (.int .u32 (comp z' (l'.take 64)).g) (.int .u32 (comp z' (l'.take 64)).h)
      have hlen:(l'.drop 64).length=l'.length - 64:=List.length_drop
      refine⟨comp z' (l'.take 64),l'.drop 64,some ⟨gb,go+64,none⟩,cr - 64,((HF.out.below Hext.out hb8).store8 _ _ _ _ _ _ _ _).setHi 8 (by omega) _,?_,?_,cell_set_ne (cell_hi8 (((bcell Hext.out).1 _ _ hb8).trans Hr9.out) (by omega) _ _ _ _ _ _ _ _) (by omega),(below8 (hB.trans (Hext.out.mono (by omega))) _ hge _ _ _ _ _ _ _ _).setCell hge _,?_,hby'.out.drop 64,by omega⟩
      ·rw [hlen];exact World.cell?_setCell_same _ _ _ (cell_hi8 d8 (by omega) _ _ _ _ _ _ _ _)
      ·rw [hlen];exact .inr ⟨gb,go+64,cr - 64,rfl,by omega,by omega,hgne,(hE8.set 8 _).range (rangeAt_ext (by rw [show ints .u8 (l'.drop 64)=(ints .u8 l').drop 64 from by simp [ints]];exact rangeAt_drop Hgr.out 64) Hext.out) hgne⟩
      ·exact he.out.trans (eat_hi _ _ h64)
     case measure=>
      rw [restLen_eq Hr8.out,restLen_eq (World.cell?_setCell_same _ _ _ (cell_hi8 d8 (by omega) _ _ _ _ _ _ _ _))]
      omega
   case hmono=>exact⟨mono_eqv _,mono_eqv _,mono_eqv _,mono_eqv _,mono_eqv _,mono_eqv _,mono_eqv _,mono_eqv _,mono_eqv _,mono_eqv _,mono_eqv _,mono_eqv _,mono_eqv _,trivial⟩
  ·have hlo:l'.length < 64:=by omega
   have hq:(eat z (l++bs))=(z',l'):=he.out.trans (eat_lo _ _ hlo)
   have Hq:=Bl.hid hq
   have Hr9:=Bl.hid hr9
   clear hF hq hr9
   go_wp2_with fail
   refine(cloneB_any _ l' _ HrX.out.rds (by omega)).mono ?_
   rintro e w2 ⟨v2,rfl,hown2,hw2⟩
   obtain⟨p2,c2,hf2,hn2,hc2⟩:=(Rds.of_owns hown2).form
   subst hf2
   have k8:w2.cell? ⟨hb,8,none⟩=some (.slice pr l'.length cr):=((bcell hw2).1 _ _ hb8).trans hr8
   have y8:w2.frozen? ⟨hb,8,none⟩=false:=((bcell hw2).2 _ _ hb8).trans hz8'
   have Hw2:=Bl.hid hw2
   have Hown2:=Bl.hid hown2
   clear hw2 hown2
   go_wp2_with fail
   go_ret
   have hB0r:B0<=wr.heap.size:=Nat.le_trans hB0 hB.size
   have hk:(Value.slice p2 l'.length c2).ownBlock≠some hb:=fun q=>by have:=(Hown2.out.lt hb q).1;omega
   refine⟨rfl,⟨?_,?_,?_,hge⟩,(hB.trans (Hw2.out.mono hB0r)).setCell hge _⟩
   ·rw [Hq.out];exact(HF.out.below Hw2.out hb8).setHi 8 (by omega) _
   ·rw [Hq.out];exact⟨_,World.cell?_setCell_same _ _ _ k8,owns_setCell (owns_mono Hown2.out hB0r) hk 8 _,hk⟩
   ·exact cell_set_ne (((bcell Hw2.out).1 _ _ hb8).trans Hr9.out) (by omega)
end Go.Proofs.YtglenbikdahgjaaGreatDoor
