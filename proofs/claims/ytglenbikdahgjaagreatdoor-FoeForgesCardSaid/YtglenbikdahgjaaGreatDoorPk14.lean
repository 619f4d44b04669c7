/- Texts that stood apart, in one: WLeaves, WChunkD, WOver, WRefOver, WRoots, WRefRoot. -/
import Derived.Test.YtglenbikdahgjaaGreatDoorPk02
import Derived.Test.YtglenbikdahgjaaGreatDoorPk13
import Derived.Test.YtglenbikdahgjaaGreatDoorPk03
import Derived.Test.YtglenbikdahgjaaGreatDoorPk00
import Derived.Test.YtglenbikdahgjaaGreatDoorPk01
import Derived.Test.YtglenbikdahgjaaGreatDoorPk08
set_option maxRecDepth 100000
set_option maxHeartbeats 16000000
namespace Go.Proofs.YtglenbikdahgjaaGreatDoor
open Go.RowKit Go.Proofs Go.Proofs.Bl
theorem leaves_any (v:Value) (ps:List (List Int)) (w:World) (hR:Rdss w v ps) (hg:Glob w) (hby:∀p∈ps,Byt p) (hlp:∀p∈ps,p.length<=1099511627000) (hn:ps.length<=1048576):
  Calls Tryz.prog 81 #[v] w fun e w'=>∃p c,e= .returned (.slice p ps.length c)/\w'.ownsRow w.heap.size 54 32 (.slice p ps.length c) ps.length (cellsD (ps.map lfD))/\Ext w w':=by
 obtain⟨ws,hv,hwl,hws⟩:=hR
 obtain⟨p,c,hvf,hvn,hvc⟩:=hv.form
 subst hvf
 have Hv:=Bl.hid hv
 have Hws:=Bl.hid hws
 have Hwl:=Bl.hid hwl
 have Hg:=Bl.hid hg
 have Hby:=Bl.hid hby
 have Hlp:=Bl.hid hlp
 obtain⟨B,hB⟩:∃B,B=w.heap.size:=⟨_,rfl⟩
 rw [<-hB]
 have HB:=Bl.hid hB
 clear hv hws hg hby hwl hlp hB
 go_enter Tryz.func81,Tryz.ntmps81
 go_wp2_with fail
 go_loopw [3,8] (fun o i wr=>∃(k c1:Nat) (p1:Option Addr),k<=ps.length/\i= .int .i64 k/\o= .slice p1 k c1/\wr.ownsRow B 54 32 (.slice p1 k c1) k (cellsD ((ps.take k).map lfD))/\Ext w wr) (fun _ i _=>ps.length - (intOf i).toNat)
 case atStart=>exact⟨0,0,none,Nat.zero_le _,rfl,rfl,World.ownsRow_nil _ _ _ _,Below.refl _ _⟩
 case round=>
  obtain⟨k,c1,p1,hk,rfl,rfl,hown,hE⟩:=hrel
  have Hown:=Bl.hid hown
  have HE:=Bl.hid hE
  clear hown hE
  by_cases hlt:k < ps.length
  ·obtain⟨b,o,hpe,hbl,hcell0⟩:=Rdss.cell' (Hv.out.ext HE.out) Hwl.out k hlt
   subst hpe
   have hRk0:=Hws.out k hlt
   obtain⟨bs,hbs⟩:∃bs,bs=ps.getD k []:=⟨_,rfl⟩
   have hmem:bs∈ps:=by rw [hbs,List.getD_eq_getElem?_getD,List.getElem?_eq_getElem hlt];exact List.getElem_mem hlt
   rw [<-hbs]at hRk0
   obtain⟨pk,ck,hfk,hnk,hck⟩:=hRk0.form
   have hcell:wr.cell? ⟨b,o+k,none⟩=some (.slice pk bs.length ck):=by rw [hcell0,hfk]
   have hRk:Rd wr .u8 (.slice pk bs.length ck) bs:=by rw [<-hfk];exact hRk0.ext HE.out
   have HRk:=Bl.hid hRk
   have Hmem:=Bl.hid hmem
   have htk:Hid ((ps.take (k+1)).map lfD=(ps.take k).map lfD++[lfD bs]):=by
    show _=_
    rw [hbs,List.getD_eq_getElem?_getD,List.getElem?_eq_getElem hlt,List.take_succ_eq_append_getElem hlt,List.map_append];rfl
   clear hRk0 hfk hcell0 hRk hbs hmem
   go_wp2_with fail
   refine(leaf_any _ bs wr HRk.out (Hg.out.ext HE.out) (Hby.out _ Hmem.out) (Hlp.out _ Hmem.out)).mono ?_
   rintro e w2 ⟨rfl,hE2⟩
   have hll:(lfD bs).length=32:=lfD_length bs
   obtain⟨d,hd⟩:∃d,d=lfD bs:=⟨_,rfl⟩
   rw [<-hd]at hll⊢
   have Hll:=Bl.hid hll
   have Hd:=Bl.hid hd
   have Hown2:=Bl.hid (owns_ext (owns_ext Hown.out hE2) (ext_alloc w2 (.cells (ints .u8 d).toArray 54)))
   have Hnew:=Bl.hid (rds_dig w2 54 d hll)
   have HE2:Hid (Ext w (w2.alloc (.cells (ints .u8 d).toArray 54))):=Bl.hid ((HE.out.trans hE2).trans (ext_alloc _ _))
   clear hE2 hll hd
   go_wp2_with (with_reducible refine stop_build ?_)
   refine go_on ?_
   refine wpL_build1 tDig (by decide) rfl (by simp [Hll.out]) ?_
   go_wp2_with (with_reducible refine stop_append ?_)
   refine go_on ?_
   refine wpL_app tDig Hown2.out Hnew.out rfl rfl (by rw [cellsD_one,ints_length,Hll.out]) (cellsD_one' _) (by unfold maxLen;omega) (by omega) (by rw [HB.out];exact HE2.out.size) ?_
   intro q3 d3 w3 hown3 hg3 hB3 hK3 hn3 hc3
   have Hown3:=Bl.hid hown3
   have HE3:Hid (Ext w w3):=Bl.hid (Below.trans HE2.out (by rw [HB.out]at hB3;exact hB3))
   clear hown3 hg3 hB3 hK3
   go_wp2_with fail
   go_roundw
   case rel=>
    refine⟨k+1,d3,q3,by omega,by go_num,rfl,?_,HE3.out⟩
    rw [htk.out,cellsD_append,<-Hd.out]
    exact Hown3.out
   case measure=>simp [intOf];omega
  ·obtain rfl:k=ps.length:=by omega
   have hown:=Hown.out
   rw [List.take_length]at hown
   have Hown1:=Bl.hid hown
   clear hown
   go_wp2_with fail
   go_ret
   exact⟨_,_,rfl,Hown1.out,HE.out⟩
theorem refleaves_any (v:Value) (ps:List (List Int)) (w:World) (hR:Rdss w v ps) (hg:GlobR w) (hby:∀p∈ps,Byt p) (hlp:∀p∈ps,p.length<=1099511627000) (hn:ps.length<=1048576):
  Calls Tryz.prog 44 #[v] w fun e w'=>∃p c,e= .returned (.slice p ps.length c)/\w'.ownsRow w.heap.size 52 32 (.slice p ps.length c) ps.length (cellsD (ps.map lfD))/\Ext w w':=by
 obtain⟨ws,hv,hwl,hws⟩:=hR
 obtain⟨p,c,hvf,hvn,hvc⟩:=hv.form
 subst hvf
 have Hv:=Bl.hid hv
 have Hws:=Bl.hid hws
 have Hwl:=Bl.hid hwl
 have Hg:=Bl.hid hg
 have Hby:=Bl.hid hby
 have Hlp:=Bl.hid hlp
 have hown0:=owns_nil_lit w 52 w.heap.size (Nat.le_refl _) 32
 have hE0:=ext_alloc w (.cells #[] 52)
 have Hown0:=Bl.hid hown0
 have HE0:=Bl.hid hE0
 clear hv hws hg hby hwl hlp hown0 hE0
 go_enter Tryz.func44,Tryz.ntmps44
 go_wp2_with fail
 go_loopw [3,9] (fun o i wr=>∃(k c1:Nat) (p1:Option Addr),k<=ps.length/\i= .int .i64 k/\o= .slice p1 k c1/\wr.ownsRow w.heap.size 52 32 (.slice p1 k c1) k (cellsD ((ps.take k).map lfD))/\Ext w wr) (fun _ i _=>ps.length - (intOf i).toNat)
 case atStart=>exact⟨0,0,_,Nat.zero_le _,rfl,rfl,Hown0.out,HE0.out⟩
 case round=>
  obtain⟨k,c1,p1,hk,rfl,rfl,hown,hE⟩:=hrel
  have Hown:=Bl.hid hown
  have HE:=Bl.hid hE
  clear hown hE
  by_cases hlt:k < ps.length
  ·obtain⟨b,o,hpe,hbl,hcell0⟩:=Rdss.cell' (Hv.out.ext HE.out) Hwl.out k hlt
   subst hpe
   have hRk0:=Hws.out k hlt
   obtain⟨bs,hbs⟩:∃bs,bs=ps.getD k []:=⟨_,rfl⟩
   have hmem:bs∈ps:=by rw [hbs,List.getD_eq_getElem?_getD,List.getElem?_eq_getElem hlt];exact List.getElem_mem hlt
   rw [<-hbs]at hRk0
   obtain⟨pk,ck,hfk,hnk,hck⟩:=hRk0.form
   have hcell:wr.cell? ⟨b,o+k,none⟩=some (.slice pk bs.length ck):=by rw [hcell0,hfk]
   have hRk:Rd wr .u8 (.slice pk bs.length ck) bs:=by rw [<-hfk];exact hRk0.ext HE.out
   have HRk:=Bl.hid hRk
   have Hmem:=Bl.hid hmem
   have htk:Hid ((ps.take (k+1)).map lfD=(ps.take k).map lfD++[lfD bs]):=by
    show _=_
    rw [hbs,List.getD_eq_getElem?_getD,List.getElem?_eq_getElem hlt,List.take_succ_eq_append_getElem hlt,List.map_append];rfl
   clear hRk0 hfk hcell0 hRk hbs hmem
   go_wp2_with fail
   refine(refleaf_any _ bs wr HRk.out (Hg.out.ext HE.out) (Hby.out _ Hmem.out) (Hlp.out _ Hmem.out)).mono ?_
   rintro e w2 ⟨rfl,hE2⟩
   have hll:(lfD bs).length=32:=lfD_length bs
   obtain⟨d,hd⟩:∃d,d=lfD bs:=⟨_,rfl⟩
   rw [<-hd]at hll⊢
   have Hll:=Bl.hid hll
   have Hd:=Bl.hid hd
   have Hown2:=Bl.hid (owns_ext (owns_ext Hown.out hE2) (ext_alloc w2 (.cells (ints .u8 d).toArray 52)))
   have Hnew:=Bl.hid (rds_dig w2 52 d hll)
   have HE2:Hid (Ext w (w2.alloc (.cells (ints .u8 d).toArray 52))):=Bl.hid ((HE.out.trans hE2).trans (ext_alloc _ _))
   clear hE2 hll hd
   go_wp2_with (with_reducible refine stop_build ?_)
   refine go_on ?_
   refine wpL_build1 tArr (by decide) rfl (by simp [Hll.out]) ?_
   go_wp2_with (with_reducible refine stop_append ?_)
   refine go_on ?_
   refine wpL_app tArr Hown2.out Hnew.out rfl rfl (by rw [cellsD_one,ints_length,Hll.out]) (cellsD_one' _) (by unfold maxLen;omega) (by omega) HE2.out.size ?_
   intro q3 d3 w3 hown3 hg3 hB3 hK3 hn3 hc3
   have Hown3:=Bl.hid hown3
   have HE3:Hid (Ext w w3):=Bl.hid (Below.trans HE2.out hB3)
   clear hown3 hg3 hB3 hK3
   go_wp2_with fail
   go_roundw
   case rel=>
    refine⟨k+1,d3,q3,by omega,by go_num,rfl,?_,HE3.out⟩
    rw [htk.out,cellsD_append,<-Hd.out]
    exact Hown3.out
   case measure=>simp [intOf];omega
  ·obtain rfl:k=ps.length:=by omega
   have hown:=Hown.out
   rw [List.take_length]at hown
   have Hown1:=Bl.hid hown
   clear hown
   go_wp2_with fail
   go_ret
   exact⟨_,_,rfl,Hown1.out,HE.out⟩
end Go.Proofs.YtglenbikdahgjaaGreatDoor
namespace Go.Proofs.YtglenbikdahgjaaGreatDoor
open Go Go.RowKit Go.Proofs Go.Proofs.Bl
attribute [local go_sem] Oper.semAt_some
theorem chunkD_any (w:World) (p:Option Addr) (n c:Nat):
  Calls Tryz.prog 130 #[.slice p n c,.int .i64 2] w fun e w'=>e= .returned (.func (.func 150) #[] #[.pointer (some ⟨w.heap.size,0,none⟩),.pointer (some ⟨w.heap.size+1,0,none⟩)])/\w'=(w.alloc (.cells #[.slice p n c] 55)).alloc (.cells #[.int .i64 2] 3):=by
 go_enter Tryz.func130,Tryz.ntmps130
 go_wp2
 go_ret
 exact⟨rfl,rfl⟩
theorem chunkD1_in (n lr Bs Bn gw n₀ b off N m cap:Nat) (hn:1<=n) (hm:2*m<=N+1) (hm2:N<=2*m) (hcap:N<=cap) (hmax:N<=1048576) (hcm:cap<=maxLen) (hBs:Bs < n₀) (hBn:Bn < n₀) (hBsg:Bs≠gw) (hBng:Bn≠gw) (J Jx:List (Fin m)->World->Prop) (B0:Nat) (hB0:AbidesFrom B0 J)
  (hY:∀pre x W,J pre W->pre.length < m->YieldAt Fence.wide (n - 1) Tryz.prog lr #[.slice (some ⟨b,off+2*x.val*32,none⟩) (ln N x.val) (ln N x.val)] W fun e W'=>
   (e= .returned (.bool true)/\J (pre++[x]) W'/\Keep gw n₀ W W')\/(e= .returned (.bool false)/\Jx (pre++[x]) W'))
  (W:World) (hcs:W.cell? ⟨Bs,0,none⟩=some (.slice (some ⟨b,off,none⟩) N cap)) (hcn:W.cell? ⟨Bn,0,none⟩=some (.int .i64 2)) (h0:J [] W) (hn₀:n₀<=W.heap.size):
  CallsIn Fence.wide n Tryz.prog 150 #[.func (.yield lr) #[] #[],.pointer (some ⟨Bs,0,none⟩),.pointer (some ⟨Bn,0,none⟩)] W fun e W'=>(∃v,e= .returned v)/\
   ((∃xs,xs=List.finRange m/\J xs W')\/(∃pre,(∃k,k<=m/\pre=chunks m k)/\Jx pre W')):=by
 unfold maxLen at hcm
 refine callsIn_of_wp Tryz.func150 rfl trivial ?_ rfl
 simp only [Tryz.ntmps150,List.size_toArray,List.length_cons,List.length_nil,Nat.reduceAdd,Nat.reduceSub,Array.replicate_succ,Array.replicate_zero,List.push_toArray,List.append_toArray,List.nil_append,List.cons_append]
 gi_wp2
 gi_loopw [4] (fun i wr=>∃k:Nat,k<=m/\i= .int .i64 (2*k:Nat)/\J (chunks m k) wr/\Keep gw n₀ W wr)
  (fun i _=>2*m - (intOf i).toNat)
 case atStart=>exact⟨0,Nat.zero_le _,rfl,h0,Keep.refl _ _ _⟩
 case round=>
  obtain⟨k,hk,rfl,hJs,hnx⟩:=hrel
  have hnx':n₀<=wr.heap.size:=Nat.le_trans hn₀ hnx.1
  have hBsl:Bs < wr.heap.size:=World.block_lt_of_cell? _ _ ((hnx.cell (i:=0) hBs hBsg).trans hcs)
  have hBnl:Bn < wr.heap.size:=World.block_lt_of_cell? _ _ ((hnx.cell (i:=0) hBn hBng).trans hcn)
  have hcs':=(hnx.cell (i:=0) hBs hBsg).trans hcs
  have hcn':=(hnx.cell (i:=0) hBn hBng).trans hcn
  by_cases hlt:k < m
  ·have hi0:((2*k:Nat):Int) < (N:Int):=by omega
   have hle:((2*k:Nat):Int)<=(N:Int):=by omega
   have hle2:((2*k:Nat):Int)<=(cap:Int):=by omega
   have htn:(2*(k:Int)).toNat=2*k:=by omega
   have hk0:(0:Int)<=2*(k:Int):=by omega
   have hkN:2*(k:Int)<=(N:Int):=by omega
   have hkC:2*(k:Int)<=(cap:Int):=by omega
   have hkl:2*(k:Int) < (N:Int):=by omega
   by_cases hf:2*k+2<=N
   ·have hln:ln N k=2:=if_pos hf
    have h64:(2:Int)<=((N - 2*k:Nat):Int):=by omega
    clear hf
    gi_wp2
    refine wpIn_wide.2 ?_
    apply wp_region_ev 6 [13,14,15,16,17,18] [eqv (.int .i64 2),eqv (.slice (some ⟨b,off,none⟩) N cap),eqv (.int .i64 (2*k:Nat)),eqv (.slice (some ⟨b,off+2*k*32,none⟩) (N - 2*k) (cap - 2*k)),eqv (.int .i64 (N - 2*k:Nat)),eqv (.int .i64 2)] (by kernel_rfl) (by kernel_rfl) (by kernel_rfl) (by rfl)
    case hsteps=>
     refine⟨?_,?_,?_,?_,?_,?_,trivial⟩
     all_goals
      intro ev w1 hext hb hd
      have e1:=hb 1 (by decide)
      have e2:=hb 2 (by decide)
      have e4:=hb 4 (by decide)
      clear hb
      simp only [Qa,Qb,Q1,Bl.Q2,Qd]at e1 e2 e4
      simp only [DepsE,Q1,Bl.Q2,Qc,Q3,Q4,eqv,and_true]at hd
      have hc:=(bcell hext).1
      have hcs1:=(hc _ 0 hBsl).trans hcs'
      have hcn1:=(hc _ 0 hBnl).trans hcn'
      simp only [Bl.Good,Region.wanted,if_true]
      go_simp
      first
       | exact⟨Below.refl _ _,rfl⟩
       | exact⟨Below.refl _ _,by show Value.int _ _=Value.int _ _;congr 1;omega⟩
       | exact⟨Below.refl _ _,by rw [if_neg (by omega)];rfl⟩
       | exact⟨Below.refl _ _,by rw [if_neg (by omega),htn];rfl⟩
       | exact⟨Below.refl _ _,by rw [if_neg (by omega),htn,show 2*k+1 - 2*k=1 from by omega];rfl⟩
    case hend=>
     intro u w1 hext hend
     simp only [EndE,Q1,Bl.Q2,Qc,Q3,Q4,eqv,true_and]at hend
     simp only [fillAct,Q5,Q6,Q7,Q8,Q9,hend]
     have hcs1:=((bcell hext).1 _ 0 hBsl).trans hcs'
     have hcn1:=((bcell hext).1 _ 0 hBnl).trans hcn'
     have hJ1:J (chunks m k) w1:=hB0 _ wr w1 none hJs (grown_ext hext) (fun r e=>by cases e)
     have hN:Keep gw n₀ wr w1:=⟨hext.size,fun i hi _=>hext.block i (Nat.lt_of_lt_of_le hi hnx')⟩
     go_wp2_with fail
     have hYk:=hY _ ⟨k,hlt⟩ w1 hJ1 (by rw [chunks_length _ _ hk];exact hlt)
     rw [show ln N (⟨k,hlt⟩:Fin m).val=2 from hln]at hYk
     obtain⟨fn,tmps,assign,body,hy,hR⟩:=hYk
     dsimp only at hy
     have hi1:((2*k:Nat):Int)+2<=(cap:Int):=by omega
     have hi2:(2*(k:Int)+2).toNat=2*k+2:=by omega
     gi_wp2
     refine hR.mono ?_
     rintro e W3 (⟨rfl,hJ3,hk3⟩ | ⟨rfl,hJx3⟩)
     ·have hcs3:=(hk3.cell (i:=0) hBs hBsg).trans hcs1
      have hcn3:=(hk3.cell (i:=0) hBn hBng).trans hcn1
      have hi3:2*(k:Int)+2=((2*(k+1):Nat):Int):=by omega
      gi_wp2
      go_roundw
      case rel=>exact⟨k+1,by omega,by simp,by rw [chunks_succ _ _ hlt];exact hJ3,(hnx.trans hN).trans hk3⟩
      case measure=>simp [intOf];omega
     ·gi_wp2
      refine bodyPost_ret (results_none rfl _ _ _) rfl ?_
      exact⟨⟨_,rfl⟩,.inr ⟨_,⟨k+1,by omega,(chunks_succ _ _ hlt).symm⟩,hJx3⟩⟩
    case hmono=>exact⟨mono_eqv _,mono_eqv _,mono_eqv _,mono_eqv _,mono_eqv _,mono_eqv _,trivial⟩
   ·obtain rfl:N=2*k+1:=by omega
    have hln:ln (2*k+1) k=1:=if_neg hf
    have hkk:2*(k:Int)<=2*(k:Int)+1:=by omega
    clear hf
    gi_wp2
    refine wpIn_wide.2 ?_
    apply wp_region_ev 6 [13,14,15,16,17,18] [eqv (.int .i64 2),eqv (.slice (some ⟨b,off,none⟩) (2*k+1) cap),eqv (.int .i64 (2*k:Nat)),eqv (.slice (some ⟨b,off+2*k*32,none⟩) (1) (cap - 2*k)),eqv (.int .i64 (1:Nat)),eqv (.int .i64 1)] (by kernel_rfl) (by kernel_rfl) (by kernel_rfl) (by rfl)
    case hsteps=>
     refine⟨?_,?_,?_,?_,?_,?_,trivial⟩
     all_goals
      intro ev w1 hext hb hd
      have e1:=hb 1 (by decide)
      have e2:=hb 2 (by decide)
      have e4:=hb 4 (by decide)
      clear hb
      simp only [Qa,Qb,Q1,Bl.Q2,Qd]at e1 e2 e4
      simp only [DepsE,Q1,Bl.Q2,Qc,Q3,Q4,eqv,and_true]at hd
      have hc:=(bcell hext).1
      have hcs1:=(hc _ 0 hBsl).trans hcs'
      have hcn1:=(hc _ 0 hBnl).trans hcn'
      simp only [Bl.Good,Region.wanted,if_true]
      go_simp
      first
       | exact⟨Below.refl _ _,rfl⟩
       | exact⟨Below.refl _ _,by show Value.int _ _=Value.int _ _;congr 1;omega⟩
       | exact⟨Below.refl _ _,by rw [if_neg (by omega)];rfl⟩
       | exact⟨Below.refl _ _,by rw [if_neg (by omega),htn];rfl⟩
       | exact⟨Below.refl _ _,by rw [if_neg (by omega),htn,show 2*k+1 - 2*k=1 from by omega];rfl⟩
    case hend=>
     intro u w1 hext hend
     simp only [EndE,Q1,Bl.Q2,Qc,Q3,Q4,eqv,true_and]at hend
     simp only [fillAct,Q5,Q6,Q7,Q8,Q9,hend]
     have hcs1:=((bcell hext).1 _ 0 hBsl).trans hcs'
     have hcn1:=((bcell hext).1 _ 0 hBnl).trans hcn'
     have hJ1:J (chunks m k) w1:=hB0 _ wr w1 none hJs (grown_ext hext) (fun r e=>by cases e)
     have hN:Keep gw n₀ wr w1:=⟨hext.size,fun i hi _=>hext.block i (Nat.lt_of_lt_of_le hi hnx')⟩
     go_wp2_with fail
     have hYk:=hY _ ⟨k,hlt⟩ w1 hJ1 (by rw [chunks_length _ _ hk];exact hlt)
     rw [show ln (2*k+1) (⟨k,hlt⟩:Fin m).val=1 from hln]at hYk
     obtain⟨fn,tmps,assign,body,hy,hR⟩:=hYk
     dsimp only at hy
     have hi1:((2*k:Nat):Int)+1<=(cap:Int):=by omega
     have hi2:(2*(k:Int)+1).toNat=2*k+1:=by omega
     gi_wp2
     refine hR.mono ?_
     rintro e W3 (⟨rfl,hJ3,hk3⟩ | ⟨rfl,hJx3⟩)
     ·have hcs3:=(hk3.cell (i:=0) hBs hBsg).trans hcs1
      have hcn3:=(hk3.cell (i:=0) hBn hBng).trans hcn1
      have hi3:2*(k:Int)+2=((2*(k+1):Nat):Int):=by omega
      gi_wp2
      go_roundw
      case rel=>exact⟨k+1,by omega,by simp,by rw [chunks_succ _ _ hlt];exact hJ3,(hnx.trans hN).trans hk3⟩
      case measure=>simp [intOf];omega
     ·gi_wp2
      refine bodyPost_ret (results_none rfl _ _ _) rfl ?_
      exact⟨⟨_,rfl⟩,.inr ⟨_,⟨k+1,by omega,(chunks_succ _ _ hlt).symm⟩,hJx3⟩⟩
    case hmono=>exact⟨mono_eqv _,mono_eqv _,mono_eqv _,mono_eqv _,mono_eqv _,mono_eqv _,trivial⟩
  ·obtain rfl:k=m:=by omega
   have hi0:¬(((2*k:Nat):Int) < (N:Int)):=by omega
   gi_wp2
   go_end0
   exact⟨⟨_,rfl⟩,.inl (by rw [<-chunks_all];exact hJs)⟩
theorem chunkD_stops (n Bs Bn gw b off N m cap:Nat) (hn:1<=n) (hm:2*m<=N+1) (hm2:N<=2*m) (hcap:N<=cap) (hmax:N<=1048576) (hcm:cap<=maxLen) (w:World) (hBs:Bs < w.heap.size) (hBn:Bn < w.heap.size) (hBsg:Bs≠gw) (hBng:Bn≠gw)
  (hcs:w.cell? ⟨Bs,0,none⟩=some (.slice (some ⟨b,off,none⟩) N cap)) (hcn:w.cell? ⟨Bn,0,none⟩=some (.int .i64 2)):
  SeqStopsK Fence.wide n Tryz.prog 150 #[.pointer (some ⟨Bs,0,none⟩),.pointer (some ⟨Bn,0,none⟩)] (fun x:Fin m=>#[Value.slice (some ⟨b,off+2*x.val*32,none⟩) (ln N x.val) (ln N x.val)]) (Keep gw w.heap.size) (fun xs=>xs=List.finRange m) (fun pre=>∃k,k<=m/\pre=chunks m k) m w:=
 fun l J Jx W hW hJ _ hY h0=>
  chunkD1_in n l Bs Bn gw w.heap.size b off N m cap hn hm hm2 hcap hmax hcm hBs hBn hBsg hBng J Jx W.heap.size hJ hY W ((hW.cell (p:=⟨Bs,0,none⟩) hBs).trans hcs) ((hW.cell (p:=⟨Bn,0,none⟩) hBn).trans hcn) h0 hW.size
attribute [local go_sem] Oper.semAt_some
theorem cloneD_some (ad:Addr) (c:Nat) (ds:List (List Int)) (w:World) (h2:RdD w (.slice (some ad) ds.length c) ds) (hd:Dig ds) (hl:ds.length<=1048576):
  Calls Tryz.prog 111 #[.slice (some ad) ds.length c] w fun e w'=>∃v',e= .returned v'/\w'.ownsRow w.heap.size 54 32 v' ds.length (cellsD ds)/\Ext w w':=by
 have e0:=Lib.run_eql_slice_nil (P:=Tryz.prog) w 55 54 (some ad) ds.length c 0 0 Tryz.underlying55
 have hE:Ext w (w.alloc (.cells #[] 54)):=ext_alloc _ _
 have Ho:Hid ((w.alloc (.cells #[] 54)).ownsRow w.heap.size 54 32 (.slice (some ⟨w.heap.size,0,none⟩) 0 0) 0 []):=Bl.hid (owns_new w 54 #[] w.heap.size 0 32 (Nat.le_refl _) (by decide) rfl)
 have H2:Hid (RdD (w.alloc (.cells #[] 54)) (.slice (some ad) ds.length c) ds):=Bl.hid (Rds.ext h2 hE)
 have Hl:=Bl.hid hl
 have Hd:=Bl.hid hd
 clear h2 hE hl hd
 go_enter Tryz.func111,Tryz.ntmps111
 go_wp2_with ((with_reducible refine wpL_append tDig Ho.out H2.out (cellsD_length Hd.out) (cellsD_one' _) (by have:=Hl.out;unfold maxLen;omega) (by have:=Hl.out;omega) (by simp) ?_ ?_ ?_);rfl;rfl;intro v' w' hown hg hB hK)
 go_ret
 rw [Nat.zero_add,List.nil_append]at hown
 exact⟨_,rfl,hown,((Below.refl _ _).alloc (Nat.le_refl _) _).trans hB⟩
theorem cloneD_any (v:Value) (ds:List (List Int)) (w:World) (h:RdD w v ds) (hd:Dig ds) (hl:ds.length<=1048576):
  Calls Tryz.prog 111 #[v] w fun e w'=>∃v',e= .returned v'/\w'.ownsRow w.heap.size 54 32 v' ds.length (cellsD ds)/\Ext w w':=by
 have h2:=h
 rcases h with ⟨⟨p,rfl⟩,hn,hc⟩ | ⟨b,o,c,rfl,hnc,hcm,hr⟩
 ·obtain rfl:ds=[]:=List.length_eq_zero_iff.1 hn
  cases p with
  | some ad=>exact cloneD_some ad 0 [] w h2 hd hl
  | none=>
   have e0:=Lib.run_eql_slice_nil (P:=Tryz.prog) w 55 54 none 0 0 0 0 Tryz.underlying55
   clear hn hc h2
   go_enter Tryz.func111,Tryz.ntmps111
   go_wp2
   go_ret
   exact⟨_,rfl,World.ownsRow_nil _ _ _ _,Below.refl _ _⟩
 ·exact cloneD_some _ c ds w h2 hd hl
theorem over_any (v:Value) (ds:List (List Int)) (w:World) (hmax:ds.length<=1048576) (hd:Dig ds) (hR:RdD w v ds) (hg:Glob w):
  Calls Tryz.prog 83 #[v] w fun e w'=>e= .returned (.agg (ints .u8 (overD ds)).toArray)/\Ext w w':=by
 obtain⟨p,c,rfl,hpn,hpc⟩:=hR.form
 have Hd:=Bl.hid hd
 have HR:=Bl.hid hR
 have Hg:=Bl.hid hg
 have HF0:=Bl.hid (fam_new w 32 .u8 54 #[.int .u8 0,.int .u8 0,.int .u8 0,.int .u8 0,.int .u8 0,.int .u8 0,.int .u8 0,.int .u8 0,.int .u8 0,.int .u8 0,.int .u8 0,.int .u8 0,.int .u8 0,.int .u8 0,.int .u8 0,.int .u8 0,.int .u8 0,.int .u8 0,.int .u8 0,.int .u8 0,.int .u8 0,.int .u8 0,.int .u8 0,.int .u8 0,.int .u8 0,.int .u8 0,.int .u8 0,.int .u8 0,.int .u8 0,.int .u8 0,.int .u8 0,.int .u8 0] rfl)
 have HE0:=Bl.hid (ext_alloc w (.cells #[.int .u8 0,.int .u8 0,.int .u8 0,.int .u8 0,.int .u8 0,.int .u8 0,.int .u8 0,.int .u8 0,.int .u8 0,.int .u8 0,.int .u8 0,.int .u8 0,.int .u8 0,.int .u8 0,.int .u8 0,.int .u8 0,.int .u8 0,.int .u8 0,.int .u8 0,.int .u8 0,.int .u8 0,.int .u8 0,.int .u8 0,.int .u8 0,.int .u8 0,.int .u8 0,.int .u8 0,.int .u8 0,.int .u8 0,.int .u8 0,.int .u8 0,.int .u8 0] 54))
 have hz0:(w.alloc (.cells #[.int .u8 0,.int .u8 0,.int .u8 0,.int .u8 0,.int .u8 0,.int .u8 0,.int .u8 0,.int .u8 0,.int .u8 0,.int .u8 0,.int .u8 0,.int .u8 0,.int .u8 0,.int .u8 0,.int .u8 0,.int .u8 0,.int .u8 0,.int .u8 0,.int .u8 0,.int .u8 0,.int .u8 0,.int .u8 0,.int .u8 0,.int .u8 0,.int .u8 0,.int .u8 0,.int .u8 0,.int .u8 0,.int .u8 0,.int .u8 0,.int .u8 0,.int .u8 0] 54)).heap.size=w.heap.size+1:=World.size_alloc _ _
 clear hd hR hg
 refine(callsIn_wide (n:=9)).1 ?_
 refine callsIn_of_wp_marks Tryz.func83 rfl trivial ?_ rfl
 simp only [Tryz.ntmps83,List.size_toArray,List.length_cons,List.length_nil,Nat.reduceAdd,Nat.reduceSub,Array.replicate_succ,Array.replicate_zero,List.push_toArray,List.append_toArray,List.nil_append,List.cons_append]
 refine wpIn_wide.2 ?_
 by_cases h0:ds.length=0
 ·obtain rfl:=List.length_eq_zero_iff.1 h0
  clear hpn hpc HR h0
  go_wp2_with fail
  obtain⟨W0,hW0⟩:∃W0,W0=w.alloc (.cells #[.int .u8 0,.int .u8 0,.int .u8 0,.int .u8 0,.int .u8 0,.int .u8 0,.int .u8 0,.int .u8 0,.int .u8 0,.int .u8 0,.int .u8 0,.int .u8 0,.int .u8 0,.int .u8 0,.int .u8 0,.int .u8 0,.int .u8 0,.int .u8 0,.int .u8 0,.int .u8 0,.int .u8 0,.int .u8 0,.int .u8 0,.int .u8 0,.int .u8 0,.int .u8 0,.int .u8 0,.int .u8 0,.int .u8 0,.int .u8 0,.int .u8 0,.int .u8 0] 54):=⟨_,rfl⟩
  rw [<-hW0]at HF0 HE0⊢
  clear hW0 hz0
  refine(of_any _ [] W0 ⟨[],Rds.nil _,rfl,fun k hk=>absurd hk (Nat.not_lt_zero _)⟩ (Hg.out.ext HE0.out) Byt.nil (by decide)).mono ?_
  rintro e w1 ⟨rfl,hE1⟩
  have HE1:=Bl.hid hE1
  have hsh:Bl.sha [].flatten=overD []:=rfl
  rw [hsh]
  obtain⟨sh,hsh⟩:∃sh,sh=overD []:=⟨_,rfl⟩
  have Hshl:Hid (sh.length=32):=Bl.hid (by rw [hsh];rfl)
  have Hsh:=Bl.hid hsh
  rw [<-hsh]
  clear hE1 hsh
  have HFc:=Bl.hid (HF0.out.below HE1.out (World.block_lt_of_cell? _ _ (HF0.out.1 0 (by decide))))
  have Hstc:=Bl.hid (store_ints (P:=Tryz.prog) (k:= .u8) (ty:=54) (l:=sh) HFc.out.there (by kernel_rfl) Hshl.out)
  go_wp2_with (((with_reducible refine wpL_store ?_ ?_ Hstc.out ?_);rfl;rfl))
  have hinc:=World.rangeAt_setCells_same _ (w.heap.size) 0 (ints .u8 sh) (by rw [ints_length,Hshl.out];exact HFc.out.there)
  refine leaves_marks (B:=w.heap.size+1) _ 0 _ (trivial) ?_
  intro w' hw'
  have hinw:w'.rangeAt (w.heap.size) 0 (ints .u8 sh):=fun j v hv=>((bcell hw').1 _ _ (Nat.lt_succ_self _)).trans (hinc j v hv)
  have hldc:=run_loadVar_mid (P:=Tryz.prog) _ (w.heap.size) 0 54 (ints .u8 sh) _ hinw Tryz.underlying54 rfl (by rw [ints_length,Hshl.out];kernel_rfl)
  exact⟨_,results_cell rfl rfl hldc,by rw [Hsh.out],(below_setCells _ _ _ _ (HE0.out.trans HE1.out) (Nat.le_refl _)).trans (hw'.mono (Nat.le_succ _))⟩
 ·have hl0:((ds.length:Int)==0)=false:=by rw [beq_eq_false_iff_ne];omega
  go_wp2_with fail
  obtain⟨W0,hW0⟩:∃W0,W0=w.alloc (.cells #[.int .u8 0,.int .u8 0,.int .u8 0,.int .u8 0,.int .u8 0,.int .u8 0,.int .u8 0,.int .u8 0,.int .u8 0,.int .u8 0,.int .u8 0,.int .u8 0,.int .u8 0,.int .u8 0,.int .u8 0,.int .u8 0,.int .u8 0,.int .u8 0,.int .u8 0,.int .u8 0,.int .u8 0,.int .u8 0,.int .u8 0,.int .u8 0,.int .u8 0,.int .u8 0,.int .u8 0,.int .u8 0,.int .u8 0,.int .u8 0,.int .u8 0,.int .u8 0] 54):=⟨_,rfl⟩
  rw [<-hW0]at HF0 HE0 hz0⊢
  clear hW0
  refine(cloneD_any _ ds W0 (Rds.ext HR.out HE0.out) Hd.out hmax).mono ?_
  rintro e w2 ⟨v2,rfl,hown2,hE2⟩
  obtain⟨p2,c2,rfl,hn2,hc2⟩:=(Rds.of_owns hown2).form
  have HR2:Hid (RdD w2 (.slice p2 ds.length c2) ds):=Bl.hid (Rds.of_owns hown2)
  have HE2:=Bl.hid hE2
  clear hown2 hE2 hn2 hc2
  go_wp2_with fail
  refine wp_loop (fun a wr=>∃(r:List (List Int)) (n:Nat) (q:Option Addr) (cq:Nat) (defs:List Deferred) (u4 u12 u13 u14 u15 u16 u37:Value),
   (Hid (0 < r.length/\r.length<=1048576/\Dig r/\overD r=overD ds/\RdD wr (.slice q r.length cq) r/\Marks (w.heap.size+1) wr wr.heap.size defs/\Ext W0 wr/\r.length=n))/\
   a= {tmps:=#[.slice p ds.length c,undef,.pointer (some ⟨w.heap.size,0,none⟩),.slice q n cq,u4,undef,.slice p ds.length c,.int .i64 ds.length,.bool false,undef,.slice p ds.length c,.slice p2 ds.length c2,u12,u13,u14,u15,u16,undef,undef,undef,undef,undef,undef,undef,undef,undef,undef,undef,undef,undef,undef,undef,undef,undef,undef,undef,undef,u37,undef,undef,undef],defers:=defs})
   (fun a _=>lenS (a.tmps.getD 3 undef)) ?_ ?_
  ·refine⟨ds,ds.length,p2,c2,[],_,_,_,_,_,_,_,Bl.hid ⟨by omega,hmax,Hd.out,rfl,HR2.out,trivial,HE2.out,rfl⟩,rfl⟩
  ·intro a wr hinv
   obtain⟨r,n,q,cq,defs,u4,u12,u13,u14,u15,u16,u37,Hinv,rfl⟩:=hinv
   obtain⟨hr0,hr1,hrd,hov,hrr,hM,hE,hrn⟩:=Hinv.out
   subst hrn
   obtain⟨b,o,cq',hqe,hqn,hqc,hbl,hrg⟩:=RdD.pos hrr hrd hr0
   cases hqe
   have Hrd:=Bl.hid hrd
   have Hov:=Bl.hid hov
   have Hrg:=Bl.hid hrg
   have HM:=Bl.hid hM
   have HE:=Bl.hid hE
   clear hrd hov hrr hrg hM hE Hinv
   have hszr:w.heap.size+1<=wr.heap.size:=by have:=HE.out.size;omega
   by_cases h1:r.length=1
   ·obtain⟨d,rfl⟩:∃d,r=[d]:=by
     match r,h1 with
     | [d],_=>exact⟨d,rfl⟩
    obtain⟨hdl,_⟩:=Hrd.out d (by simp)
    have Hdl:=Bl.hid hdl
    have Hrg1:Hid (wr.rangeAt b o (ints .u8 d)):=Bl.hid (by have:=Hrg.out;rw [cellsD_one]at this;exact this)
    have Hd1:Hid (d=overD ds):=Bl.hid (by rw [<-Hov.out];exact(over_one _ _ d).symm)
    clear hdl hr0 hr1 h1 Hrd Hrg
    go_wp2_with (with_reducible refine stop_load (ty:=54) ?_)
    refine go_on ?_
    refine wpL_load rfl (load_ints Hrg1.out Tryz.underlying54 (by kernel_rfl) Hdl.out) ?_
    have HFc:=Bl.hid (HF0.out.below HE.out (World.block_lt_of_cell? _ _ (HF0.out.1 0 (by decide))))
    have Hstc:=Bl.hid (store_ints (P:=Tryz.prog) (k:= .u8) (ty:=54) (l:=d) HFc.out.there (by kernel_rfl) Hdl.out)
    go_wp2_with (((with_reducible refine wpL_store ?_ ?_ Hstc.out ?_);rfl;rfl))
    have hinc:=World.rangeAt_setCells_same _ (w.heap.size) 0 (ints .u8 d) (by rw [ints_length,Hdl.out];exact HFc.out.there)
    refine leaves_marks (B:=w.heap.size+1) _ wr.heap.size _ (Marks.keep _ _ (fun k hk _ _=>exc_setCells _ _ _ (Exc.refl w.heap.size wr) k (by omega)) HM.out) ?_
    intro w' hw'
    have hinw:w'.rangeAt (w.heap.size) 0 (ints .u8 d):=fun j v hv=>((bcell hw').1 _ _ (Nat.lt_succ_self _)).trans (hinc j v hv)
    have hldc:=run_loadVar_mid (P:=Tryz.prog) _ (w.heap.size) 0 54 (ints .u8 d) _ hinw Tryz.underlying54 rfl (by rw [ints_length,Hdl.out];kernel_rfl)
    exact⟨_,results_cell rfl rfl hldc,by rw [Hd1.out],(below_setCells _ _ _ _ (HE0.out.trans HE.out) (Nat.le_refl _)).trans (hw'.mono (Nat.le_succ _))⟩
   ·have hgt:(1:Int) < (r.length:Int):=by omega
    go_wp2_with fail
    have hcU0:=cell_new1 wr (.slice none 0 0) 55
    have hfU0:(wr.alloc (.cells #[.slice none 0 0] 55)).frozen? ⟨wr.heap.size,0,none⟩=false:=by simp
    refine(chunkD_any _ _ _ _).mono ?_
    rintro e w5 ⟨rfl,hw5⟩
    rw [World.size_alloc]
    have hE4:Ext (wr.alloc (.cells #[.slice none 0 0] 55)) w5:=by
     rw [hw5];exact((Below.refl _ _).alloc (Nat.le_refl _) _).alloc (by simp) _
    have hE5:Ext wr w5:=(ext_alloc _ _).trans (hE4.mono (by simp))
    have hE5b:Below wr.heap.size wr w5:=hE5
    have hcs:w5.cell? ⟨wr.heap.size+1,0,none⟩=some (.slice (some ⟨b,o,none⟩) r.length cq):=by
     rw [hw5]
     exact((bcell ((Below.refl _ _).alloc (Nat.le_refl _) _)).1 _ _ (by simp)).trans (by simp)
    have hcn:w5.cell? ⟨wr.heap.size+1+1,0,none⟩=some (.int .i64 2):=by
     rw [hw5]
     have:=cell_new1 ((wr.alloc (.cells #[.slice none 0 0] 55)).alloc (.cells #[.slice (some ⟨b,o,none⟩) r.length cq] 55)) (.int .i64 2) 3
     simpa using this
    have hsz5:w5.heap.size=wr.heap.size+3:=by rw [hw5];simp
    have hcU:w5.cell? ⟨wr.heap.size,0,none⟩=some (.slice none 0 0):=((bcell hE4).1 _ _ (by simp)).trans hcU0
    have hfU:w5.frozen? ⟨wr.heap.size,0,none⟩=false:=((bcell hE4).2 _ _ (by simp)).trans hfU0
    obtain⟨m,hm⟩:∃m,m=(r.length+1) / 2:=⟨_,rfl⟩
    clear hw5 hE4 hcU0 hfU0
    go_wp2_with fail
    refine(wpIn_wide (n:=9)).1 ?_
    apply wpIn_rangeFunc_ownF (F:=Fence.wide) (encs:=fun x:Fin m=>#[Value.slice (some ⟨b,o+2*x.val*32,none⟩) (ln r.length x.val) (ln r.length x.val)]) (Kp:=Keep wr.heap.size w5.heap.size) rfl (by decide) (gf:=150) (lb:=#[.pointer (some ⟨wr.heap.size+1,0,none⟩),.pointer (some ⟨wr.heap.size+1+1,0,none⟩)]) rfl trivial (enters_of Tryz.func150 (by kernel_rfl) rfl)
     (chunkD_stops 8 (wr.heap.size+1) (wr.heap.size+1+1) wr.heap.size b o r.length m cq (by decide) (by omega) (by omega) hqn hr1 hqc w5 (by omega) (by omega) (by omega) (by omega) hcs hcn)
     (fun h k=>Keep.trans h k) (Keep.putObj (Nat.le_refl _)) (Below.refl _ _) (fun _=>rfl)
     (fun pre W=>UpAt 54 wr.heap.size w5.heap.size (fun x:Fin m=>upD r x.val) pre W/\(Keep wr.heap.size w5.heap.size w5 W/\Below wr.heap.size w5 W))
     (fun _ _ _=>False)
    case hI=>exact OwnFrom.and (UpAt.from (by omega)) (OwnFrom.and (ownFrom_keep (Nat.le_refl _) (Nat.le_refl _)) (ownFrom_below (by omega) (by omega)))
    case hIx=>exact fun _ _ _ _ _ hs _ _=>hs
    case h0=>exact⟨⟨none,0,hcU,hfU,World.ownsRow_nil _ _ _ _⟩,Keep.refl _ _ _,Below.refl _ _⟩
    case hassign=>
     intro lr x W K hK
     gi_wp2
     exact hK
    case hbody=>
     rintro lr pre x W ⟨⟨pu,cu,hcuW,hfuW,hown⟩,hKp,hBW⟩ hlen
     have hgl:wr.heap.size < W.heap.size:=World.block_lt_of_cell? _ _ hcuW
     have hx:x.val < m:=x.isLt
     have hrW:W.rangeAt b o (cellsD r):=rangeAt_ext Hrg.out (hE5b.trans hBW)
     have hgw:Glob W:=Hg.out.ext ((HE0.out.trans HE.out).trans (show Ext wr W from hE5b.trans hBW))
     have Hown:=Bl.hid hown
     have HKp:=Bl.hid hKp
     have HBW:=Bl.hid hBW
     have Hgw:=Bl.hid hgw
     have HL0:Hid (∀w1,Ext W w1->(Instr.loadAt 54 (.pointer (some ⟨b,o+2*x.val*32,none⟩))).run Tryz.prog w1= .ok (.agg (ints .u8 (r.getD (2*x.val) [])).toArray) w1):=Bl.hid fun w1 h1=>
      load_ints (rangeAt_ext (digit_at hrW Hrd.out (by omega)) h1) Tryz.underlying54 (by kernel_rfl) (Hrd.out.get (by omega)).1
     obtain⟨hd0,hb0⟩:=Hrd.out.get (i:=2*x.val) (by omega)
     clear hown hKp hBW hgw
     by_cases hf:2*x.val+2<=r.length
     ·have hln:ln r.length x.val=2:=if_pos hf
      have HL1:Hid (∀w1,Ext W w1->(Instr.loadAt 54 (.pointer (some ⟨b,o+2*x.val*32+32,none⟩))).run Tryz.prog w1= .ok (.agg (ints .u8 (r.getD (2*x.val+1) [])).toArray) w1):=Bl.hid fun w1 h1=>by
       have h:=digit_at hrW Hrd.out (i:=2*x.val+1) (by omega)
       rw [show o+(2*x.val+1)*32=o+2*x.val*32+32 from by omega]at h
       exact load_ints (rangeAt_ext h h1) Tryz.underlying54 (by kernel_rfl) (Hrd.out.get (by omega)).1
      obtain⟨hd1,hb1⟩:=Hrd.out.get (i:=2*x.val+1) (by omega)
      have HN:Hid (∀w1,Ext W w1->Calls Tryz.prog 131 #[.agg (ints .u8 (r.getD (2*x.val) [])).toArray,.agg (ints .u8 (r.getD (2*x.val+1) [])).toArray] w1 fun e w'=>e= .returned (.agg (ints .u8 (upD r x.val)).toArray)/\Ext w1 w'):=Bl.hid fun w1 h1=>by
       rw [show upD r x.val=ndD (r.getD (2*x.val) []) (r.getD (2*x.val+1) [])from if_pos hf]
       exact node_any _ _ w1 hd0 hd1 hb0 hb1 (Hgw.out.ext h1)
      have Hnl:Hid ((upD r x.val).length=32):=Bl.hid (by rw [show upD r x.val=ndD (r.getD (2*x.val) []) (r.getD (2*x.val+1) [])from if_pos hf];exact ndD_length _ _)
      obtain⟨d0,hd0e⟩:∃d0,d0=r.getD (2*x.val) []:=⟨_,rfl⟩
      obtain⟨d1,hd1e⟩:∃d1,d1=r.getD (2*x.val+1) []:=⟨_,rfl⟩
      obtain⟨dn,hdn⟩:∃dn,dn=upD r x.val:=⟨_,rfl⟩
      rw [<-hd0e]at HL0 HN
      rw [<-hd1e]at HL1 HN
      rw [<-hdn]at HN Hnl
      have Hdn:=Bl.hid hdn
      clear hd0 hb0 hd1 hb1 hd0e hd1e hdn hrW hf
      simp only [hln]
      gi_wp2
      apply wpIn_region_ev 9 [21,22,23,24,25,26,27,28,29] [eqv _,eqv _,eqv _,eqv _,eqv _,eqv _,eqv _,eqv _,(fun v w'=>Rds w' v 1 (cellsD [dn]))] (by kernel_rfl) (by kernel_rfl) (by kernel_rfl) (by kernel_rfl) (by kernel_rfl)
      case hsteps=>
       refine⟨?_,?_,?_,?_,?_,?_,?_,?_,?_,trivial⟩
       all_goals
        intro ev w1 hext hb hd
        have e4:=hb 4 (by decide)
        have e5:=hb 5 (by decide)
        clear hb
        simp only [Qa,Qb,Q1,Bl.Q2,Qd]at e4 e5
        simp only [DepsE,Q1,Bl.Q2,Qc,Q3,Q4,eqv,and_true]at hd
        have hc:=(bcell hext).1
        have hcu1:=(hc _ 0 hgl).trans hcuW
        have hld0:=HL0.out w1 hext
        have hld1:=HL1.out w1 hext
        simp only [Bl.Good,Region.wanted,if_true]
        first
        | ((with_reducible refine goodR_load ?_ hld0 ?_);exact hd;exact rfl) | ((with_reducible refine goodR_load ?_ hld1 ?_);exact hd;exact rfl) | exact goodR_build1 tDig (by decide) hd (by simp [Hnl.out]) (rds_dig w1 54 dn Hnl.out)
        | (go_simp;first | (go_at_call 131;(with_reducible refine(HN.out _ hext).mono ?_);rintro e w2 ⟨rfl,hE2⟩;exact⟨_,rfl,hE2,rfl⟩) | exact⟨Below.refl _ _,rfl⟩)
      case hmono=>exact⟨mono_eqv _,mono_eqv _,mono_eqv _,mono_eqv _,mono_eqv _,mono_eqv _,mono_eqv _,mono_eqv _,(fun _ _ _ h k=>Rds.ext h k),trivial⟩
      case hend=>
       intro u w1 hext hend
       simp only [EndE,Q1,Bl.Q2,Qc,Q3,Q4,eqv,true_and]at hend
       simp only [fillAct,Q5,Q6,Q7,Q8,Q9,hend]
       have hrd:=hend.2
       have HownA:=Bl.hid (owns_ext Hown.out hext)
       have hszA:=HKp.out.1
       have hszB:W.heap.size<=w1.heap.size:=hext.size
       have hpl:pre.length<=1048576:=by omega
       refine wpLI_app1 tDig HownA.out hrd rfl rfl (by rw [cellsD_one,ints_length,Hnl.out]) (cellsD_one' _) (by unfold maxLen;omega) (by omega) (by omega) ?_
       intro p6 c6 w6 hown6 hg6
       have hne6:some wr.heap.size≠(Value.slice pu pre.length cu).ownBlock:=fun e=>by have:=(HownA.out.lt _ e.symm).1;omega
       have hc6:w6.cell? ⟨wr.heap.size,0,none⟩=some (.slice pu pre.length cu):=(hg6.cell_far ⟨wr.heap.size,0,none⟩ (show wr.heap.size < _ by omega) hne6).trans (((bcell hext).1 _ 0 hgl).trans hcuW)
       have hf6:w6.frozen? ⟨wr.heap.size,0,none⟩=false:=(hg6.frozen_far ⟨wr.heap.size,0,none⟩ (show wr.heap.size < _ by omega) hne6).trans (((bcell hext).2 _ 0 hgl).trans hfuW)
       rw [Hdn.out]at hown6
       have hpost:=Bl.hid (up_post (f:=fun x:Fin m=>upD r x.val) (x:=x) (by omega) HKp.out HBW.out hext hg6 HownA.out hown6 hcuW hfuW)
       clear hown6 hg6 hend hrd
       gi_wp2
       exact hpost.out
     ·have hln:ln r.length x.val=1:=if_neg hf
      have Hup:Hid (upD r x.val=r.getD (2*x.val) []):=Bl.hid (if_neg hf)
      obtain⟨d0,hd0e⟩:∃d0,d0=r.getD (2*x.val) []:=⟨_,rfl⟩
      rw [<-hd0e]at HL0 Hup hd0
      have Hnl:=Bl.hid hd0
      clear hd0 hb0 hd0e hrW hf
      simp only [hln]
      gi_wp2
      apply wpIn_region_ev 5 [31,32,33,34,35] [eqv _,eqv _,eqv _,eqv _,(fun v w'=>Rds w' v 1 (cellsD [d0]))] (by kernel_rfl) (by kernel_rfl) (by kernel_rfl) (by kernel_rfl) (by kernel_rfl)
      case hsteps=>
       refine⟨?_,?_,?_,?_,?_,trivial⟩
       all_goals
        intro ev w1 hext hb hd
        have e4:=hb 4 (by decide)
        have e5:=hb 5 (by decide)
        clear hb
        simp only [Qa,Qb,Q1,Bl.Q2,Qd]at e4 e5
        simp only [DepsE,Q1,Bl.Q2,Qc,Q3,Q4,eqv,and_true]at hd
        have hc:=(bcell hext).1
        have hcu1:=(hc _ 0 hgl).trans hcuW
        have hld0:=HL0.out w1 hext
        simp only [Bl.Good,Region.wanted,if_true]
        first
        | ((with_reducible refine goodR_load ?_ hld0 ?_);exact hd;exact rfl) | exact goodR_build1 tDig (by decide) hd (by simp [Hnl.out]) (rds_dig w1 54 d0 Hnl.out)
        | (go_simp;first | exact⟨Below.refl _ _,rfl⟩)
      case hmono=>exact⟨mono_eqv _,mono_eqv _,mono_eqv _,mono_eqv _,(fun _ _ _ h k=>Rds.ext h k),trivial⟩
      case hend=>
       intro u w1 hext hend
       simp only [EndE,Q1,Bl.Q2,Qc,Q3,Q4,eqv,true_and]at hend
       simp only [fillAct,Q5,Q6,Q7,Q8,Q9,hend]
       have hrd:=hend.2
       have HownA:=Bl.hid (owns_ext Hown.out hext)
       have hszA:=HKp.out.1
       have hszB:W.heap.size<=w1.heap.size:=hext.size
       have hpl:pre.length<=1048576:=by omega
       refine wpLI_app1 tDig HownA.out hrd rfl rfl (by rw [cellsD_one,ints_length,Hnl.out]) (cellsD_one' _) (by unfold maxLen;omega) (by omega) (by omega) ?_
       intro p6 c6 w6 hown6 hg6
       have hne6:some wr.heap.size≠(Value.slice pu pre.length cu).ownBlock:=fun e=>by have:=(HownA.out.lt _ e.symm).1;omega
       have hc6:w6.cell? ⟨wr.heap.size,0,none⟩=some (.slice pu pre.length cu):=(hg6.cell_far ⟨wr.heap.size,0,none⟩ (show wr.heap.size < _ by omega) hne6).trans (((bcell hext).1 _ 0 hgl).trans hcuW)
       have hf6:w6.frozen? ⟨wr.heap.size,0,none⟩=false:=(hg6.frozen_far ⟨wr.heap.size,0,none⟩ (show wr.heap.size < _ by omega) hne6).trans (((bcell hext).2 _ 0 hgl).trans hfuW)
       rw [<-Hup.out]at hown6
       have hpost:=Bl.hid (up_post (f:=fun x:Fin m=>upD r x.val) (x:=x) (by omega) HKp.out HBW.out hext hg6 HownA.out hown6 hcuW hfuW)
       clear hown6 hg6 hend hrd
       gi_wp2
       exact hpost.out
    case hdone=>
     rintro D ys W hD rfl ⟨⟨pu,cu,hcuW,hfuW,hown⟩,hKp,hBW⟩ hK
     have hDl:D < W.heap.size:=(Array.getElem?_eq_some_iff.1 hK).1
     have hrW:Ext wr W:=hE5b.trans hBW
     rw [up_eq r m hm]at hown
     have hul:=up_length ndD r
     have hfl:(List.finRange m).length=m:=by simp
     have hN:(up ndD r).length=(List.finRange m).length:=by rw [hul,hfl];exact hm.symm
     have Hrel:Hid (0 < (up ndD r).length/\(up ndD r).length<=1048576/\Dig (up ndD r)/\overD (up ndD r)=overD ds/\RdD W (.slice pu (up ndD r).length cu) (up ndD r)/\Marks (w.heap.size+1) W W.heap.size ({target:= .collected D,args:=#[]} :: defs)/\Ext W0 W/\(up ndD r).length=(r.length+1) / 2):=Bl.hid
      ⟨by omega,by omega,dig_up r Hrd.out,by rw [overD_up r hr1,Hov.out],by show Rds W (.slice pu (up ndD r).length cu) (up ndD r).length _;rw [hN];exact Rds.of_owns hown,
       ⟨D,rfl,by omega,hDl,hK,Marks.mono _ (by omega) (Marks.keep _ _ (fun k _ hk _=>hrW.block k hk) HM.out)⟩,HE.out.trans hrW,hul⟩
     have hlt:(r.length+1) / 2 < r.length:=by omega
     clear hown hN hul hfl hKp hBW hK
     go_wp2_with fail
     refine⟨⟨up ndD r,(r.length+1) / 2,pu,cu,_,_,_,_,_,_,_,_,Hrel,rfl⟩,?_⟩
     exact hlt
    case hstop=>
     rintro D c pre W _ _ h _
     exact h.elim
end Go.Proofs.YtglenbikdahgjaaGreatDoor
namespace Go.Proofs.YtglenbikdahgjaaGreatDoor
open Go.RowKit Go.Proofs Go.Proofs.Bl
theorem refover_any:∀(n:Nat) (ds:List (List Int)) (v:Value) (w:World),ds.length=n->n<=1048576->Dig ds->RdD w v ds->GlobR w->
  Calls Tryz.prog 49 #[v] w fun e w'=>e= .returned (.agg (ints .u8 (overD ds)).toArray)/\Ext w w':=by
 intro n
 induction n using Nat.strongRecOn with
 | _ n ih=>
  intro ds v w hn hmax hd hR hg
  have IH:=Bl.hid ih
  have Hd:=Bl.hid hd
  have Hg:=Bl.hid hg
  have HF0:=Bl.hid (fam_new w 32 .u8 52 #[.int .u8 0,.int .u8 0,.int .u8 0,.int .u8 0,.int .u8 0,.int .u8 0,.int .u8 0,.int .u8 0,.int .u8 0,.int .u8 0,.int .u8 0,.int .u8 0,.int .u8 0,.int .u8 0,.int .u8 0,.int .u8 0,.int .u8 0,.int .u8 0,.int .u8 0,.int .u8 0,.int .u8 0,.int .u8 0,.int .u8 0,.int .u8 0,.int .u8 0,.int .u8 0,.int .u8 0,.int .u8 0,.int .u8 0,.int .u8 0,.int .u8 0,.int .u8 0] rfl)
  have HE0:=Bl.hid (ext_alloc w (.cells #[.int .u8 0,.int .u8 0,.int .u8 0,.int .u8 0,.int .u8 0,.int .u8 0,.int .u8 0,.int .u8 0,.int .u8 0,.int .u8 0,.int .u8 0,.int .u8 0,.int .u8 0,.int .u8 0,.int .u8 0,.int .u8 0,.int .u8 0,.int .u8 0,.int .u8 0,.int .u8 0,.int .u8 0,.int .u8 0,.int .u8 0,.int .u8 0,.int .u8 0,.int .u8 0,.int .u8 0,.int .u8 0,.int .u8 0,.int .u8 0,.int .u8 0,.int .u8 0] 52))
  clear ih hd hg
  by_cases h0:n=0
  ·subst h0
   obtain rfl:=List.length_eq_zero_iff.1 hn
   obtain⟨p,c,rfl,_,_⟩:=hR.form
   clear hR hn hmax
   go_enter Tryz.func49,Tryz.ntmps49
   go_wp2_with fail
   obtain⟨W0,hW0⟩:∃W0,W0=w.alloc (.cells #[.int .u8 0,.int .u8 0,.int .u8 0,.int .u8 0,.int .u8 0,.int .u8 0,.int .u8 0,.int .u8 0,.int .u8 0,.int .u8 0,.int .u8 0,.int .u8 0,.int .u8 0,.int .u8 0,.int .u8 0,.int .u8 0,.int .u8 0,.int .u8 0,.int .u8 0,.int .u8 0,.int .u8 0,.int .u8 0,.int .u8 0,.int .u8 0,.int .u8 0,.int .u8 0,.int .u8 0,.int .u8 0,.int .u8 0,.int .u8 0,.int .u8 0,.int .u8 0] 52):=⟨_,rfl⟩
   rw [<-hW0]at HF0 HE0⊢
   clear hW0
   refine(refof_any _ [] W0 (Rd.nil _ _) (Hg.out.ext HE0.out) Byt.nil (by decide)).mono ?_
   rintro e w1 ⟨rfl,hE1⟩
   have HE1:=Bl.hid hE1
   have hsh:Bl.sha []=overD []:=rfl
   rw [hsh]
   obtain⟨sh,hsh⟩:∃sh,sh=overD []:=⟨_,rfl⟩
   have Hshl:Hid (sh.length=32):=Bl.hid (by rw [hsh];rfl)
   have Hsh:=Bl.hid hsh
   rw [<-hsh]
   clear hE1 hsh
   have HFc:=Bl.hid (HF0.out.below HE1.out (World.block_lt_of_cell? _ _ (HF0.out.1 0 (by decide))))
   have Hstc:=Bl.hid (store_ints (P:=Tryz.prog) (k:= .u8) (ty:=52) (l:=sh) HFc.out.there (by kernel_rfl) Hshl.out)
   go_wp2_with (((with_reducible refine wpL_store ?_ ?_ Hstc.out ?_);rfl;rfl))
   have hinc:=World.rangeAt_setCells_same _ (w.heap.size) 0 (ints .u8 sh) (by rw [ints_length,Hshl.out];exact HFc.out.there)
   have hldc:=run_loadVar_mid (P:=Tryz.prog) _ (w.heap.size) 0 52 (ints .u8 sh) _ hinc Tryz.underlying52 rfl (by rw [ints_length,Hshl.out];kernel_rfl)
   refine bodyPost_ret (v:= .agg (ints .u8 sh).toArray) (results_cell rfl rfl hldc) rfl ⟨by rw [Hsh.out],below_setCells _ _ _ _ (HE0.out.trans HE1.out) (Nat.le_refl _)⟩
  ·obtain⟨b,o,c,rfl,hc1,hc2,hbl,hr⟩:=RdD.pos hR Hd.out (by omega)
   have Hr:=Bl.hid hr
   clear hR hr
   rw [hn]at hc1⊢
   have Hn:=Bl.hid hn
   clear hn
   by_cases h1:n=1
   ·subst h1
    obtain⟨d,rfl⟩:∃d,ds=[d]:=by
     match ds,Hn.out with
     | [d],_=>exact⟨d,rfl⟩
    obtain⟨hdl,hdb⟩:=Hd.out d (by simp)
    have Hdl:=Bl.hid hdl
    have Hrd:Hid (w.rangeAt b o (ints .u8 d)):=Bl.hid (by have:=Hr.out;rw [cellsD_one]at this;exact this)
    clear hdl hdb
    go_enter Tryz.func49,Tryz.ntmps49
    go_wp2_with (with_reducible refine stop_load (ty:=52) ?_)
    refine go_on ?_
    obtain⟨W0,hW0⟩:∃W0,W0=w.alloc (.cells #[.int .u8 0,.int .u8 0,.int .u8 0,.int .u8 0,.int .u8 0,.int .u8 0,.int .u8 0,.int .u8 0,.int .u8 0,.int .u8 0,.int .u8 0,.int .u8 0,.int .u8 0,.int .u8 0,.int .u8 0,.int .u8 0,.int .u8 0,.int .u8 0,.int .u8 0,.int .u8 0,.int .u8 0,.int .u8 0,.int .u8 0,.int .u8 0,.int .u8 0,.int .u8 0,.int .u8 0,.int .u8 0,.int .u8 0,.int .u8 0,.int .u8 0,.int .u8 0] 52):=⟨_,rfl⟩
    rw [<-hW0]at HF0 HE0⊢
    clear hW0
    refine wpL_load rfl (load_ints (rangeAt_ext Hrd.out HE0.out) Tryz.underlying52 (by kernel_rfl) Hdl.out) ?_
    have HE1:=Bl.hid (Below.refl W0.heap.size W0)
    have Hov:Hid (overD [d]=d):=Bl.hid (over_one _ _ d)
    have HFc:=Bl.hid (HF0.out.below HE1.out (World.block_lt_of_cell? _ _ (HF0.out.1 0 (by decide))))
    have Hstc:=Bl.hid (store_ints (P:=Tryz.prog) (k:= .u8) (ty:=52) (l:=d) HFc.out.there (by kernel_rfl) Hdl.out)
    go_wp2_with (((with_reducible refine wpL_store ?_ ?_ Hstc.out ?_);rfl;rfl))
    have hinc:=World.rangeAt_setCells_same _ (w.heap.size) 0 (ints .u8 d) (by rw [ints_length,Hdl.out];exact HFc.out.there)
    have hldc:=run_loadVar_mid (P:=Tryz.prog) _ (w.heap.size) 0 52 (ints .u8 d) _ hinc Tryz.underlying52 rfl (by rw [ints_length,Hdl.out];kernel_rfl)
    refine bodyPost_ret (v:= .agg (ints .u8 d).toArray) (results_cell rfl rfl hldc) rfl ⟨by rw [Hov.out],below_setCells _ _ _ _ HE0.out (Nat.le_refl _)⟩
   ·obtain⟨s1,s2,s3⟩:=sp_bounds n (by omega) (by omega)
    have hov:overD ds=ndD (overD (ds.take (Bl.sp n))) (overD (ds.drop (Bl.sp n))):=by
     unfold overD
     rw [over_hi _ _ ds (by rw [Hn.out];omega) (by rw [Hn.out];omega),Hn.out]
    obtain⟨k,hk⟩:∃k,k=Bl.sp n:=⟨_,rfl⟩
    rw [<-hk]at s1 s2 s3 hov
    have Hk:=Bl.hid hk
    have Hov:=Bl.hid hov
    have hkn:(k:Int) < (n:Int):=by omega
    have hnc:(n:Int)<=(c:Int):=by omega
    have hl0:((n:Int)==0)=false:=by simp;omega
    have hl1:((n:Int)==1)=false:=by simp;omega
    clear hk hov
    unfold maxLen at hc2
    go_enter Tryz.func49,Tryz.ntmps49
    go_wp2_with fail
    obtain⟨W0,hW0⟩:∃W0,W0=w.alloc (.cells #[.int .u8 0,.int .u8 0,.int .u8 0,.int .u8 0,.int .u8 0,.int .u8 0,.int .u8 0,.int .u8 0,.int .u8 0,.int .u8 0,.int .u8 0,.int .u8 0,.int .u8 0,.int .u8 0,.int .u8 0,.int .u8 0,.int .u8 0,.int .u8 0,.int .u8 0,.int .u8 0,.int .u8 0,.int .u8 0,.int .u8 0,.int .u8 0,.int .u8 0,.int .u8 0,.int .u8 0,.int .u8 0,.int .u8 0,.int .u8 0,.int .u8 0,.int .u8 0] 52):=⟨_,rfl⟩
    rw [<-hW0]at HF0 HE0⊢
    clear hW0
    refine(refsplit_any _ W0 (by omega) (by omega)).mono ?_
    rintro e w1 ⟨rfl,rfl⟩
    rw [Int.toNat_natCast,<-Hk.out]
    have HL:Hid (∀w1,Ext W0 w1->Calls Tryz.prog 49 #[.slice (some ⟨b,o,none⟩) k c] w1 fun e w'=>e= .returned (.agg (ints .u8 (overD (ds.take k))).toArray)/\Ext w1 w'):=Bl.hid fun w1 h1=>by
     refine IH.out k (by omega) (ds.take k) _ w1 (by rw [List.length_take,Hn.out];omega) (by omega) (Hd.out.take k) ?_ (Hg.out.ext (HE0.out.trans h1))
     refine .inr ⟨b,o,c,?_,?_,by unfold maxLen;omega,?_⟩
     ·rw [List.length_take,Hn.out,Nat.min_eq_left (by omega)]
     ·rw [List.length_take,Hn.out];omega
     ·have:=rangeD_sub (rangeAt_ext Hr.out (HE0.out.trans h1)) Hd.out 0 k
      simpa using this
    have HRt:Hid (∀w1,Ext W0 w1->Calls Tryz.prog 49 #[.slice (some ⟨b,o+k*32,none⟩) (n - k) (c - k)] w1 fun e w'=>e= .returned (.agg (ints .u8 (overD (ds.drop k))).toArray)/\Ext w1 w'):=Bl.hid fun w1 h1=>by
     refine IH.out (n - k) (by omega) (ds.drop k) _ w1 (by rw [List.length_drop,Hn.out]) (by omega) (Hd.out.drop k) ?_ (Hg.out.ext (HE0.out.trans h1))
     refine .inr ⟨b,o+k*32,c - k,by rw [List.length_drop,Hn.out],by rw [List.length_drop,Hn.out];omega,by unfold maxLen;omega,?_⟩
     have:=rangeD_sub (rangeAt_ext Hr.out (HE0.out.trans h1)) Hd.out k (ds.drop k).length
     rwa [List.take_length]at this
    obtain⟨hll,hlb⟩:=overD_dig k (ds.take k) (by rw [List.length_take,Hn.out];omega) (Hd.out.take k) (by rw [List.length_take,Hn.out];omega)
    obtain⟨hrl,hrb⟩:=overD_dig (n - k) (ds.drop k) (by rw [List.length_drop,Hn.out]) (Hd.out.drop k) (by rw [List.length_drop,Hn.out];omega)
    have HN:Hid (∀w1,Ext W0 w1->Calls Tryz.prog 86 #[.agg (ints .u8 (overD (ds.take k))).toArray,.agg (ints .u8 (overD (ds.drop k))).toArray] w1 fun e w'=>e= .returned (.agg (ints .u8 (overD ds)).toArray)/\Ext w1 w'):=Bl.hid fun w1 h1=>by
     rw [Hov.out];exact refnode_any _ _ w1 hll hrl hlb hrb (Hg.out.ext (HE0.out.trans h1))
    obtain⟨hol,hob⟩:=overD_dig n ds Hn.out Hd.out (by rw [Hn.out];omega)
    have Hol:=Bl.hid hol
    clear hll hlb hrl hrb hol hob
    have hkc:¬(k=c):=by omega
    have hk0:(0:Int)<=(k:Int):=by omega
    have hkn':(k:Int)<=(n:Int):=by omega
    have hkc':(k:Int)<=(c:Int):=by omega
    go_wp2_with fail
    apply wp_region_ev 9 [17,18,19,20,21,22,23,24,25] [eqv _,eqv _,eqv _,eqv _,eqv _,eqv _,eqv (.slice (some ⟨b,o+k*32,none⟩) (n - k) (c - k)),eqv _,eqv _] (by kernel_rfl) (by kernel_rfl) (by kernel_rfl) (by kernel_rfl)
    case hsteps=>
     refine⟨?_,?_,?_,?_,?_,?_,?_,?_,?_,trivial⟩
     all_goals
      intro ev w1 hext hb hd
      have e0:=hb 0 (by decide)
      have e3:=hb 3 (by decide)
      clear hb
      simp only [Qa,Qb,Q1,Bl.Q2,Qd]at e0 e3
      simp only [DepsE,Q1,Bl.Q2,Qc,Q3,Q4,eqv,and_true]at hd
      have hc:=(bcell hext).1
      simp only [Bl.Good,Region.wanted,if_true]
      go_simp
      first | (go_at_call 49;(with_reducible refine(HL.out _ hext).mono ?_);rintro e w2 ⟨rfl,hE2⟩;exact⟨_,rfl,hE2,rfl⟩) | (go_at_call 49;(with_reducible refine(HRt.out _ hext).mono ?_);rintro e w2 ⟨rfl,hE2⟩;exact⟨_,rfl,hE2,rfl⟩) | (go_at_call 86;(with_reducible refine(HN.out _ hext).mono ?_);rintro e w2 ⟨rfl,hE2⟩;exact⟨_,rfl,hE2,rfl⟩) | exact⟨Below.refl _ _,by rw [if_neg (by omega)];rfl⟩ | exact⟨Below.refl _ _,rfl⟩
    case hmono=>exact⟨mono_eqv _,mono_eqv _,mono_eqv _,mono_eqv _,mono_eqv _,mono_eqv _,(mono_eqv _),mono_eqv _,mono_eqv _,trivial⟩
    case hend=>
     intro u w1 hext hend
     simp only [EndE,Q1,Bl.Q2,Qc,Q3,Q4,eqv,true_and]at hend
     simp only [fillAct,Q5,Q6,Q7,Q8,Q9,hend]
     have HE1:=Bl.hid hext
     obtain⟨sh,hsh⟩:∃sh,sh=overD ds:=⟨_,rfl⟩
     rw [<-hsh]at Hol⊢
     have Hsh:=Bl.hid hsh
     clear hext hend hsh
     have HFc:=Bl.hid (HF0.out.below HE1.out (World.block_lt_of_cell? _ _ (HF0.out.1 0 (by decide))))
     have Hstc:=Bl.hid (store_ints (P:=Tryz.prog) (k:= .u8) (ty:=52) (l:=sh) HFc.out.there (by kernel_rfl) Hol.out)
     go_wp2_with (((with_reducible refine wpL_store ?_ ?_ Hstc.out ?_);rfl;rfl))
     have hinc:=World.rangeAt_setCells_same _ (w.heap.size) 0 (ints .u8 sh) (by rw [ints_length,Hol.out];exact HFc.out.there)
     have hldc:=run_loadVar_mid (P:=Tryz.prog) _ (w.heap.size) 0 52 (ints .u8 sh) _ hinc Tryz.underlying52 rfl (by rw [ints_length,Hol.out];kernel_rfl)
     refine bodyPost_ret (v:= .agg (ints .u8 sh).toArray) (results_cell rfl rfl hldc) rfl ⟨by rw [Hsh.out],below_setCells _ _ _ _ (HE0.out.trans HE1.out) (Nat.le_refl _)⟩
theorem root_any (v:Value) (ps:List (List Int)) (w:World) (hR:Rdss w v ps) (hg:Glob w) (hby:∀p∈ps,Byt p) (hlp:∀p∈ps,p.length<=1099511627000) (hn:ps.length<=1048576):
  Calls Tryz.prog 52 #[v] w fun e w'=>e= .returned (.agg (ints .u8 (rootD ps)).toArray)/\Ext w w':=by
 have HR:=Bl.hid hR
 have Hg:=Bl.hid hg
 have Hby:=Bl.hid hby
 have Hlp:=Bl.hid hlp
 have Hn:=Bl.hid hn
 have HF0:=Bl.hid (fam_new w 32 .u8 54 #[.int .u8 0,.int .u8 0,.int .u8 0,.int .u8 0,.int .u8 0,.int .u8 0,.int .u8 0,.int .u8 0,.int .u8 0,.int .u8 0,.int .u8 0,.int .u8 0,.int .u8 0,.int .u8 0,.int .u8 0,.int .u8 0,.int .u8 0,.int .u8 0,.int .u8 0,.int .u8 0,.int .u8 0,.int .u8 0,.int .u8 0,.int .u8 0,.int .u8 0,.int .u8 0,.int .u8 0,.int .u8 0,.int .u8 0,.int .u8 0,.int .u8 0,.int .u8 0] rfl)
 have HE0:=Bl.hid (ext_alloc w (.cells #[.int .u8 0,.int .u8 0,.int .u8 0,.int .u8 0,.int .u8 0,.int .u8 0,.int .u8 0,.int .u8 0,.int .u8 0,.int .u8 0,.int .u8 0,.int .u8 0,.int .u8 0,.int .u8 0,.int .u8 0,.int .u8 0,.int .u8 0,.int .u8 0,.int .u8 0,.int .u8 0,.int .u8 0,.int .u8 0,.int .u8 0,.int .u8 0,.int .u8 0,.int .u8 0,.int .u8 0,.int .u8 0,.int .u8 0,.int .u8 0,.int .u8 0,.int .u8 0] 54))
 clear hR hg hby hlp hn
 go_enter Tryz.func52,Tryz.ntmps52
 go_wp2_with fail
 obtain⟨W0,hW0⟩:∃W0,W0=w.alloc (.cells #[.int .u8 0,.int .u8 0,.int .u8 0,.int .u8 0,.int .u8 0,.int .u8 0,.int .u8 0,.int .u8 0,.int .u8 0,.int .u8 0,.int .u8 0,.int .u8 0,.int .u8 0,.int .u8 0,.int .u8 0,.int .u8 0,.int .u8 0,.int .u8 0,.int .u8 0,.int .u8 0,.int .u8 0,.int .u8 0,.int .u8 0,.int .u8 0,.int .u8 0,.int .u8 0,.int .u8 0,.int .u8 0,.int .u8 0,.int .u8 0,.int .u8 0,.int .u8 0] 54):=⟨_,rfl⟩
 rw [<-hW0]at HF0 HE0⊢
 clear hW0
 refine(leaves_any v ps W0 (Rdss.ext HR.out HE0.out) (Hg.out.ext HE0.out) Hby.out Hlp.out Hn.out).mono ?_
 rintro e w1 ⟨p,c,rfl,hown,hE1⟩
 have HL:Hid (RdD w1 (.slice p ps.length c) (ps.map lfD)):=Bl.hid (by show Rds w1 _ (ps.map lfD).length _;rw [List.length_map];exact Rds.of_owns hown)
 have HE1:=Bl.hid hE1
 clear hown hE1
 go_wp2_with fail
 refine(over_any _ (ps.map lfD) w1 (by rw [List.length_map];exact Hn.out) (dig_leaves ps) HL.out (Hg.out.ext (HE0.out.trans HE1.out))).mono ?_
 rintro e w2 ⟨rfl,hE2⟩
 obtain⟨sh,hsh⟩:∃sh,sh=overD (ps.map lfD):=⟨_,rfl⟩
 have Hshl:Hid (sh.length=32):=Bl.hid (by rw [hsh];exact rootD_length ps Hn.out)
 have Hsh:Hid (sh=rootD ps):=Bl.hid hsh
 have HE2:=Bl.hid (HE1.out.trans hE2)
 rw [<-hsh]
 clear hsh hE2
 have HFc:=Bl.hid (HF0.out.below HE2.out (World.block_lt_of_cell? _ _ (HF0.out.1 0 (by decide))))
 have Hstc:=Bl.hid (store_ints (P:=Tryz.prog) (k:= .u8) (ty:=54) (l:=sh) HFc.out.there (by kernel_rfl) Hshl.out)
 go_wp2_with (((with_reducible refine wpL_store ?_ ?_ Hstc.out ?_);rfl;rfl))
 have hinc:=World.rangeAt_setCells_same _ (w.heap.size) 0 (ints .u8 sh) (by rw [ints_length,Hshl.out];exact HFc.out.there)
 have hldc:=run_loadVar_mid (P:=Tryz.prog) _ (w.heap.size) 0 54 (ints .u8 sh) _ hinc Tryz.underlying54 rfl (by rw [ints_length,Hshl.out];kernel_rfl)
 refine bodyPost_ret (v:= .agg (ints .u8 sh).toArray) (results_cell rfl rfl hldc) rfl ⟨by rw [Hsh.out],below_setCells _ _ _ _ (HE0.out.trans HE2.out) (Nat.le_refl _)⟩
theorem long_any (v:Value) (ps:List (List Int)) (w:World) (most:Int) (hR:Rdss w v ps):
  Calls Tryz.prog 7 #[v,.int .i64 most] w fun e w'=>w'=w/\(e= .returned (.bool true)\/(e= .returned (.bool false)/\(ps.length:Int)<=most/\∀p∈ps,p.length<=200)):=by
 obtain⟨ws,hv,hwl,hws⟩:=hR
 obtain⟨p,c,hvf,hvn,hvc⟩:=hv.form
 subst hvf
 have Hv:=Bl.hid hv
 have Hws:=Bl.hid hws
 have Hwl:=Bl.hid hwl
 clear hv hws hwl
 unfold maxLen at hvc
 by_cases hlong:most < (ps.length:Int)
 ·go_enter Tryz.func7,Tryz.ntmps7
  go_wp2_with fail
  go_ret
  exact⟨rfl,.inl rfl⟩
 ·go_enter Tryz.func7,Tryz.ntmps7
  go_wp2_with fail
  go_loopw [13] (fun i wr=>∃k:Nat,k<=ps.length/\i= .int .i64 k/\wr=w/\Hid (∀j,j < k->(ps.getD j []).length<=200)) (fun i _=>ps.length - (intOf i).toNat)
  case atStart=>exact⟨0,Nat.zero_le _,rfl,rfl,Bl.hid fun j hj=>absurd hj (Nat.not_lt_zero _)⟩
  case round=>
   obtain⟨k,hk,rfl,hwr,Hall⟩:=hrel
   subst hwr
   by_cases hlt:k < ps.length
   ·obtain⟨b,o,hpe,hbl,hcell⟩:=Rdss.cell' Hv.out Hwl.out k hlt
    subst hpe
    have hRk:=Hws.out k hlt
    obtain⟨bs,hbs⟩:∃bs,bs=ps.getD k []:=⟨_,rfl⟩
    rw [<-hbs]at hRk
    obtain⟨pk,ck,hfk,hnk,hck⟩:=hRk.form
    rw [hfk]at hcell
    have Hbs:=Bl.hid hbs
    clear hRk hfk hbs
    by_cases h200:(200:Int) < (bs.length:Int)
    ·go_wp2_with fail
     go_ret
     exact⟨rfl,.inl rfl⟩
    ·go_wp2_with fail
     go_roundw
     case rel=>
      refine⟨k+1,by omega,by go_num,trivial,Bl.hid fun j hj=> ?_⟩
      by_cases hjk:j=k
      ·subst hjk;rw [<-Hbs.out];omega
      ·exact Hall.out j (by omega)
     case measure=>simp [intOf];omega
   ·obtain rfl:k=ps.length:=by omega
    go_wp2_with fail
    go_ret
    refine⟨rfl,.inr ⟨rfl,by omega,fun q hq=> ?_⟩⟩
    obtain⟨j,hj,rfl⟩:=List.getElem_of_mem hq
    have:=Hall.out j hj
    rwa [List.getD_eq_getElem?_getD,List.getElem?_eq_getElem hj]at this
theorem refroot_any (v:Value) (ps:List (List Int)) (w:World) (hR:Rdss w v ps) (hg:GlobR w) (hby:∀p∈ps,Byt p) (hlp:∀p∈ps,p.length<=1099511627000) (hn:ps.length<=1048576):
  Calls Tryz.prog 17 #[v] w fun e w'=>e= .returned (.agg (ints .u8 (rootD ps)).toArray)/\Ext w w':=by
 have HR:=Bl.hid hR
 have Hg:=Bl.hid hg
 have Hby:=Bl.hid hby
 have Hlp:=Bl.hid hlp
 have Hn:=Bl.hid hn
 have HF0:=Bl.hid (fam_new w 32 .u8 52 #[.int .u8 0,.int .u8 0,.int .u8 0,.int .u8 0,.int .u8 0,.int .u8 0,.int .u8 0,.int .u8 0,.int .u8 0,.int .u8 0,.int .u8 0,.int .u8 0,.int .u8 0,.int .u8 0,.int .u8 0,.int .u8 0,.int .u8 0,.int .u8 0,.int .u8 0,.int .u8 0,.int .u8 0,.int .u8 0,.int .u8 0,.int .u8 0,.int .u8 0,.int .u8 0,.int .u8 0,.int .u8 0,.int .u8 0,.int .u8 0,.int .u8 0,.int .u8 0] rfl)
 have HE0:=Bl.hid (ext_alloc w (.cells #[.int .u8 0,.int .u8 0,.int .u8 0,.int .u8 0,.int .u8 0,.int .u8 0,.int .u8 0,.int .u8 0,.int .u8 0,.int .u8 0,.int .u8 0,.int .u8 0,.int .u8 0,.int .u8 0,.int .u8 0,.int .u8 0,.int .u8 0,.int .u8 0,.int .u8 0,.int .u8 0,.int .u8 0,.int .u8 0,.int .u8 0,.int .u8 0,.int .u8 0,.int .u8 0,.int .u8 0,.int .u8 0,.int .u8 0,.int .u8 0,.int .u8 0,.int .u8 0] 52))
 clear hR hg hby hlp hn
 go_enter Tryz.func17,Tryz.ntmps17
 go_wp2_with fail
 obtain⟨W0,hW0⟩:∃W0,W0=w.alloc (.cells #[.int .u8 0,.int .u8 0,.int .u8 0,.int .u8 0,.int .u8 0,.int .u8 0,.int .u8 0,.int .u8 0,.int .u8 0,.int .u8 0,.int .u8 0,.int .u8 0,.int .u8 0,.int .u8 0,.int .u8 0,.int .u8 0,.int .u8 0,.int .u8 0,.int .u8 0,.int .u8 0,.int .u8 0,.int .u8 0,.int .u8 0,.int .u8 0,.int .u8 0,.int .u8 0,.int .u8 0,.int .u8 0,.int .u8 0,.int .u8 0,.int .u8 0,.int .u8 0] 52):=⟨_,rfl⟩
 rw [<-hW0]at HF0 HE0⊢
 clear hW0
 refine(refleaves_any v ps W0 (Rdss.ext HR.out HE0.out) (Hg.out.ext HE0.out) Hby.out Hlp.out Hn.out).mono ?_
 rintro e w1 ⟨p,c,rfl,hown,hE1⟩
 have HL:Hid (RdD w1 (.slice p ps.length c) (ps.map lfD)):=Bl.hid (by show Rds w1 _ (ps.map lfD).length _;rw [List.length_map];exact Rds.of_owns hown)
 have HE1:=Bl.hid hE1
 clear hown hE1
 go_wp2_with fail
 refine(refover_any ps.length (ps.map lfD) _ w1 (by rw [List.length_map]) Hn.out (dig_leaves ps) HL.out (Hg.out.ext (HE0.out.trans HE1.out))).mono ?_
 rintro e w2 ⟨rfl,hE2⟩
 obtain⟨sh,hsh⟩:∃sh,sh=overD (ps.map lfD):=⟨_,rfl⟩
 have Hshl:Hid (sh.length=32):=Bl.hid (by rw [hsh];exact rootD_length ps Hn.out)
 have Hsh:Hid (sh=rootD ps):=Bl.hid hsh
 have HE2:=Bl.hid (HE1.out.trans hE2)
 rw [<-hsh]
 clear hsh hE2
 have HFc:=Bl.hid (HF0.out.below HE2.out (World.block_lt_of_cell? _ _ (HF0.out.1 0 (by decide))))
 have Hstc:=Bl.hid (store_ints (P:=Tryz.prog) (k:= .u8) (ty:=52) (l:=sh) HFc.out.there (by kernel_rfl) Hshl.out)
 go_wp2_with (((with_reducible refine wpL_store ?_ ?_ Hstc.out ?_);rfl;rfl))
 have hinc:=World.rangeAt_setCells_same _ (w.heap.size) 0 (ints .u8 sh) (by rw [ints_length,Hshl.out];exact HFc.out.there)
 have hldc:=run_loadVar_mid (P:=Tryz.prog) _ (w.heap.size) 0 52 (ints .u8 sh) _ hinc Tryz.underlying52 rfl (by rw [ints_length,Hshl.out];kernel_rfl)
 refine bodyPost_ret (v:= .agg (ints .u8 sh).toArray) (results_cell rfl rfl hldc) rfl ⟨by rw [Hsh.out],below_setCells _ _ _ _ (HE0.out.trans HE2.out) (Nat.le_refl _)⟩
end Go.Proofs.YtglenbikdahgjaaGreatDoor
