/- Texts that stood apart, in one: ConB, WTree1, GlobR. -/
import Derived.Lib.AppendZerosOnto
import Derived.Test.YtglenbikdahgjaaGreatDoorPk02
import Derived.Test.YtglenbikdahgjaaGreatDoorPk00
import Derived.Test.YtglenbikdahgjaaGreatDoorPk03
import Derived.Test.YtglenbikdahgjaaGreatDoorPk08
import Derived.Test.YtglenbikdahgjaaGreatDoorPk07
import Derived.Test.YtglenbikdahgjaaGreatDoorPk05
set_option maxRecDepth 100000
set_option maxHeartbeats 16000000
namespace Go.Proofs.YtglenbikdahgjaaGreatDoor
open Go.RowKit Go.Proofs Go.Proofs.Bl
theorem growB_nil (n:Nat) (w:World) (h0:0 < n) (hn:n<=1099511627776):
  Calls Tryz.prog 142 #[.slice none 0 0,.int .i64 n] w fun e w'=>∃c,e= .returned (.slice (some ⟨w.heap.size,0,none⟩) 0 c)/\w'.ownsRow w.heap.size 5 1 (.slice (some ⟨w.heap.size,0,none⟩) 0 c) 0 []/\Ext w w':=by
 obtain⟨i,hi,hz,hs1,hb1⟩:=info_parts tBytes.info
 have hrz:∀ty,(Builtin.append_ #[27,3] ty #[.slice none 0 0,.int .i64 (n:Int)]).run Tryz.prog w=
   .ok (.slice (some ⟨w.heap.size,0,none⟩) n (grownCap w (0+n) 0 5)) (w.drew.alloc (.cells (([]:List Value).toArray++Builtin.zeroCells (Value.int .u8 0).cells n++Builtin.zeroCells (Value.int .u8 0).cells (grownCap w (0+n) 0 5 - (0+n))) 5)):=fun ty=>by
  have h:=Lib.run_append_grow_zeros w 27 3 ty 5 i (.int .u8 0) .i64 .i64 Tryz.underlying27 Tryz.underlying3 hi hz none 0 0 [] (run_firstCells_none w.drew i.size 0 0 0) n h0 (by omega) (by omega) (by omega) (by rw [hb1];omega)
   (growslice_fits (by omega) (by rw [hb1];omega))
  rw [Nat.zero_add]at h⊢
  exact h
 have hge:0+n<=grownCap w (0+n) 0 5:=grownCap_ge w _ _ _
 have hcm:grownCap w (0+n) 0 5<=maxLen:=grownCap_le_maxLen w (0+n) 0 _ (by unfold maxLen;omega)
 obtain⟨G,hG⟩:∃G,G=grownCap w (0+n) 0 5:=⟨_,rfl⟩
 rw [<-hG]at hrz hge hcm
 have hsz:(([]:List Value).toArray++Builtin.zeroCells (Value.int .u8 0).cells n++Builtin.zeroCells (Value.int .u8 0).cells (G - (0+n))).size=G*1:=by
  simp only [Array.size_append,size_zeroCells,Value.cells,List.size_toArray,List.length_nil,List.length_cons];omega
 obtain⟨cs,hcs⟩:∃cs,cs=([]:List Value).toArray++Builtin.zeroCells (Value.int .u8 0).cells n++Builtin.zeroCells (Value.int .u8 0).cells (G - (0+n)):=⟨_,rfl⟩
 rw [<-hcs]at hrz hsz
 have hown:=World.ownsRow_made (w:=w.drew) (base:=w.heap.size) (e:=5) (size:=1) cs G (Nat.le_refl _) hcm hsz
 have Hown:=Bl.hid hown
 unfold maxLen at hcm
 clear hcs hG hsz hown hi hz hs1 hb1
 go_enter Tryz.func142,Tryz.ntmps142
 go_wp2_with (with_reducible refine stop_append ?_)
 refine go_on ?_
 refine wpL_appr hrz rfl rfl ?_
 clear hrz
 go_wp2
 go_ret
 exact⟨G,rfl,Hown.out,((Below.refl _ _).drew).alloc (Nat.le_refl _) _⟩
theorem concB_own (v:Value) (ps:List (List Int)) (w:World) (hR:Rdss w v ps) (h0:0 < ps.flatten.length) (hlen:ps.flatten.length<=1099511627776):
  Calls Tryz.prog 100 #[v] w fun e w'=>∃v',e= .returned v'/\w'.ownsRow w.heap.size 5 1 v' ps.flatten.length (ints .u8 ps.flatten)/\Ext w w':=by
 obtain⟨vs,hv,hvl,hvs⟩:=hR
 obtain⟨p,c,hvf,hvn,hvc⟩:=hv.form
 subst hvf
 have Hv:=Bl.hid hv
 have Hvs:=Bl.hid hvs
 have Hvl:=Bl.hid hvl
 obtain⟨T,hT⟩:∃T,T=ps.flatten.length:=⟨_,rfl⟩
 rw [<-hT]at h0 hlen
 have HT:=Bl.hid hT
 clear hv hvs hT hvl
 have hpl:ps.length<=9223372036854775807:=by unfold maxLen at hvc;omega
 go_enter Tryz.func100,Tryz.ntmps100
 go_wp2_with fail
 go_loop [3,11] (fun s i=>∃k N:Nat,k<=ps.length/\i= .int .i64 k/\s= .int .i64 N/\Hid (N=(ps.take k).flatten.length)/\N<=T) (fun _ i=>ps.length - (intOf i).toNat)
 case atStart=>exact⟨0,0,Nat.zero_le _,rfl,rfl,rfl,Nat.zero_le _⟩
 case round=>
  obtain⟨k,N,hk,rfl,rfl,HN,hNT⟩:=hrel
  by_cases hlt:k < ps.length
  ·obtain⟨b,o,hpe,hbl,hcell0⟩:∃b o,p=some ⟨b,o,none⟩/\b < w.heap.size/\w.cell? ⟨b,o+k,none⟩=some (vs.getD k undef):=by
    rcases Hv.out with ⟨h1,h2,h3⟩ | ⟨b,o,c',h1,h2,h3,h4⟩
    ·omega
    ·cases h1
     refine⟨b,o,rfl,rangeAt_lt h4 (fun q=>by have:=Hvl.out;rw [q]at this;simp at this;omega),h4 k _ ?_⟩
     rw [List.getD_eq_getElem?_getD,List.getElem?_eq_getElem (by rw [Hvl.out];exact hlt)];rfl
   subst hpe
   have hft:=flat_take ps k hlt
   have hRk:=Hvs.out k hlt
   obtain⟨bs,hbs⟩:∃bs,bs=ps.getD k []:=⟨_,rfl⟩
   rw [<-hbs]at hft hRk
   obtain⟨pk,ck,hfk,hnk,hck⟩:=hRk.form
   rw [hfk]at hcell0
   have hN1:Hid (N+bs.length=(ps.take (k+1)).flatten.length):=by
    show _=_
    rw [hft,List.length_append,HN.out]
   have hle:N+bs.length<=T:=by rw [hN1.out,HT.out];exact flat_len ps (k+1)
   clear hft hRk hfk hbs
   have hneg:decide ((N:Int)+(bs.length:Int) < 0)=false:=decide_eq_false (by omega)
   go_wp2_with fail
   go_round
   case rel=>exact⟨k+1,N+bs.length,by omega,by go_num,by go_num,hN1.out,hle⟩
   case measure=>simp [intOf];omega
  ·obtain rfl:k=ps.length:=by omega
   obtain rfl:N=T:=by rw [HN.out,HT.out,List.take_length]
   clear HN hNT
   go_wp2_with fail
   refine(growB_nil N w h0 hlen).mono ?_
   rintro e w1 ⟨c1,rfl,hown1,hE1⟩
   obtain⟨B,hB⟩:∃B,B=w.heap.size:=⟨_,rfl⟩
   rw [<-hB]at hown1⊢
   have HB:=Bl.hid hB
   have Hown1:=Bl.hid hown1
   have HE1:=Bl.hid hE1
   clear hown1 hE1 hB
   go_wp2_with fail
   go_loopw [6,27] (fun s i wr=>∃(k M:Nat) (p1:Option Addr) (c1:Nat),k<=ps.length/\i= .int .i64 k/\s= .slice p1 M c1/\Hid (M=(ps.take k).flatten.length)/\M<=N/\wr.ownsRow B 5 1 (.slice p1 M c1) M (ints .u8 (ps.take k).flatten)/\Ext w wr) (fun _ i _=>ps.length - (intOf i).toNat)
   case atStart=>exact⟨0,0,_,c1,Nat.zero_le _,rfl,rfl,rfl,Nat.zero_le _,Hown1.out,HE1.out⟩
   case round=>
    obtain⟨k,M,p1,c1,hk,rfl,rfl,HM,hMN,hown,hE⟩:=hrel
    have Hown:=Bl.hid hown
    have HE:=Bl.hid hE
    clear hown hE Hown1 HE1
    by_cases hlt2:k < ps.length
    ·obtain⟨b,o,hpe,hbl,hcell0⟩:∃b o,p=some ⟨b,o,none⟩/\b < wr.heap.size/\wr.cell? ⟨b,o+k,none⟩=some (vs.getD k undef):=by
      rcases Hv.out.ext HE.out with ⟨h1,h2,h3⟩ | ⟨b,o,c',h1,h2,h3,h4⟩
      ·omega
      ·cases h1
       refine⟨b,o,rfl,rangeAt_lt h4 (fun q=>by have:=Hvl.out;rw [q]at this;simp at this;omega),h4 k _ ?_⟩
       rw [List.getD_eq_getElem?_getD,List.getElem?_eq_getElem (by rw [Hvl.out];exact hlt2)];rfl
     subst hpe
     have hft:=flat_take ps k hlt2
     have hRk:=Hvs.out k hlt2
     obtain⟨bs,hbs⟩:∃bs,bs=ps.getD k []:=⟨_,rfl⟩
     rw [<-hbs]at hft hRk
     obtain⟨pk,ck,hfk,hnk,hck⟩:=hRk.form
     rw [hfk]at hcell0 hRk
     have hRk2:=hRk.ext HE.out
     have HRk:=Bl.hid hRk2
     have hN1:Hid (M+bs.length=(ps.take (k+1)).flatten.length):=by
      show _=_
      rw [hft,List.length_append,HM.out]
     have hle:M+bs.length<=N:=by rw [hN1.out,HT.out];exact flat_len ps (k+1)
     have Hft:=Bl.hid hft
     clear hft hRk hRk2 hfk hbs
     go_wp2_with (with_reducible refine stop_append ?_)
     refine go_on ?_
     refine wpL_app tBytes Hown.out HRk.out rfl rfl (by simp) (ints_one _ _) (by unfold maxLen;omega) (by omega) (by rw [HB.out];exact HE.out.size) ?_
     intro q3 d3 w2 hown2 hg2 hB2 hK2 hn2 hc2
     have Hown2:=Bl.hid hown2
     have HE2:Hid (Ext w w2):=Bl.hid (Below.trans HE.out (by rw [HB.out]at hB2;exact hB2))
     clear hown2 hg2 hB2 hK2
     go_wp2_with fail
     go_roundw
     case rel=>
      refine⟨k+1,M+bs.length,q3,d3,by omega,by go_num,rfl,hN1.out,hle,?_,HE2.out⟩
      rw [Hft.out,ints_append]
      exact Hown2.out
     case measure=>simp [intOf];omega
    ·obtain rfl:k=ps.length:=by omega
     go_wp2_with fail
     go_ret
     have h:=Hown.out
     have hM:=HM.out
     rw [List.take_length]at h hM
     rw [hM]at h⊢
     exact⟨_,rfl,by rw [<-HB.out];exact h,HE.out⟩
theorem concB_any (v:Value) (ps:List (List Int)) (w:World) (hR:Rdss w v ps) (h0:0 < ps.flatten.length) (hlen:ps.flatten.length<=1099511627776):
  Calls Tryz.prog 100 #[v] w fun e w'=>∃v',e= .returned v'/\Rd w' .u8 v' ps.flatten/\Ext w w':=
 (concB_own v ps w hR h0 hlen).mono fun _ _ ⟨v',h1,h2,h3⟩=>⟨v',h1,Rds.of_owns h2,h3⟩
theorem outer_own (v:Value) (l:List Int) (w:World) (hR:Rd w .u8 v l) (hlen:l.length<=1099511627000):
  Calls Tryz.prog 90 #[v] w fun e w'=>∃v',e= .returned v'/\w'.ownsRow w.heap.size 5 1 v' (l.length+1) (ints .u8 (0 :: l))/\Ext w w':=by
 obtain⟨p,c,hvf,hvn,hvc⟩:=hR.form
 subst hvf
 have Hv:=Bl.hid (hR.ext (ext_alloc w (.cells #[.int .u8 0] 5)))
 have Hown:=Bl.hid (owns_new w 5 #[.int .u8 0] w.heap.size 1 1 (Nat.le_refl _) (by decide) rfl)
 clear hR
 go_enter Tryz.func90,Tryz.ntmps90
 go_wp2_with (with_reducible refine stop_append ?_)
 refine go_on ?_
 refine wpL_app tBytes Hown.out Hv.out rfl rfl (by simp) (ints_one _ _) (by unfold maxLen;omega) (by omega) (by simp) ?_
 intro q d w2 hown2 hg2 hB2 hK2 hn2 hc2
 have Hown2:=Bl.hid hown2
 have HE2:Hid (Ext w w2):=Bl.hid (Below.trans (ext_alloc w _) hB2)
 clear hown2 hg2 hB2 hK2
 go_wp2_with fail
 go_ret
 refine⟨_,rfl,?_,HE2.out⟩
 have h:=Hown2.out
 rw [Nat.add_comm l.length 1];exact h
theorem outer_any (v:Value) (l:List Int) (w:World) (hR:Rd w .u8 v l) (hlen:l.length<=1099511627000):
  Calls Tryz.prog 90 #[v] w fun e w'=>∃v',e= .returned v'/\Rd w' .u8 v' (0 :: l)/\Ext w w':=
 (outer_own v l w hR hlen).mono fun _ _ ⟨v',h1,h2,h3⟩=>⟨v',h1,Rds.of_owns h2,h3⟩
structure GlobR (w:World):Prop where
 s:Glob w
 radded:∀i,i < 64->w.cell? ⟨9,i,none⟩=some (.int .u32 (kt.getD i 0))
 rbegins:∀i,i < 8->w.cell? ⟨8,i,none⟩=some (.int .u32 (iv.getD i 0))
theorem GlobR.ext {w w':World} (h:GlobR w) (hb:Ext w w'):GlobR w':=by
 have l3:=World.block_lt_of_cell? w _ (h.radded 0 (by decide))
 have l4:=World.block_lt_of_cell? w _ (h.rbegins 0 (by decide))
 exact⟨h.s.ext hb,fun i hi=>((bcell hb).1 _ _ l3).trans (h.radded i hi),fun i hi=>((bcell hb).1 _ _ l4).trans (h.rbegins i hi)⟩
instance globR_coe (w:World):Coe (GlobR w) (Glob w):=⟨GlobR.s⟩
end Go.Proofs.YtglenbikdahgjaaGreatDoor
namespace Go.Proofs.Bl
open Go Go.RowKit
def numL (x:Int):List Int:=[x / 72057594037927936 % 256,x / 281474976710656 % 256,x / 1099511627776 % 256,x / 4294967296 % 256,x / 16777216 % 256,x / 65536 % 256,x / 256 % 256,x % 256]
def twoL (x:Int):List Int:=[x / 256 % 256,x % 256]
theorem BoxC.of_owns {w:World} {base e s n c g:Nat} {xs:List Value} (h:w.ownsRow base e s (.slice (some ⟨g,0,none⟩) n c) n xs) (hne:xs≠[]):BoxC w g xs:=by
 rcases Pk.of_owns h with ⟨h1,_,_⟩ | ⟨g',cap,h1,_,hp⟩
 ·cases h1
 ·injection h1 with e1 _ e3
  injection e1 with e1
  injection e1 with e1
  subst e1 e3
  exact⟨hp.rg,fun j hj=>hp.th j (by rw [hp.len]at hj;have:=Nat.mul_le_mul_right s hp.le;omega),hne⟩
def numZ (x:Int) (k:Nat):List Int:=List.replicate (8 - k) 0++(numL x).drop (8 - k)
theorem BoxC.rd8 {w:World} {g:Nat} {l:List Int} (h:BoxC w g (ints .u8 l)) (hl:l.length=8):SlB w (.slice (some ⟨g,0,none⟩) 8 8) l:=by
 refine⟨some ⟨g,0,none⟩,8,by rw [hl],.inr ⟨g,0,8,by rw [hl],by rw [hl];exact Nat.le_refl _,by decide,h.rg⟩⟩
end Go.Proofs.Bl
namespace Go.Proofs.YtglenbikdahgjaaGreatDoor
open Go Go.RowKit Go.Proofs Go.Proofs.Bl
theorem two_any (x:Int) (w:World) (h0:0<=x) (h1:x<=65535):
  Calls Tryz.prog 102 #[.int .i64 x] w fun e w'=>∃v,e= .returned v/\SlB w' v (twoL x)/\Ext w w':=by
 go_enter Tryz.func102,Tryz.ntmps102
 go_wp2_with fail
 go_ret
 refine⟨_,rfl,⟨_,_,rfl,?_⟩,ext_alloc _ _⟩
 have h:=rds_lit w 5 .u8 (twoL x) (show 2<=maxLen by decide)
 have e:x / 256 % 256=x / 256:=by omega
 unfold twoL at h⊢
 rw [e]at h⊢
 exact h
theorem rtwo_any (x:Int) (w:World) (h0:0<=x) (h1:x<=65535):
  Calls Tryz.prog 105 #[.int .i64 x] w fun e w'=>∃v,e= .returned v/\SlB w' v (twoL x)/\Ext w w':=by
 go_enter Tryz.func105,Tryz.ntmps105
 go_wp2_with fail
 go_ret
 refine⟨_,rfl,⟨_,_,rfl,?_⟩,ext_alloc _ _⟩
 have h:=rds_lit w 5 .u8 (twoL x) (show 2<=maxLen by decide)
 have e:x / 256 % 256=x / 256:=by omega
 unfold twoL at h⊢
 rw [e]at h⊢
 exact h
theorem number_any (x : Int) (w : World) (h0 : 0 ≤ x) (h1 : x ≤ 1099511627776) :
    Calls Tryz.prog 101 #[.int .i64 x] w fun e w' => ∃ v, e = .returned v ∧ SlB w' v (numL x) ∧ Ext w w' := by
  go_enter Tryz.func101, Tryz.ntmps101
  go_wp2_with fail
  go_loopw [3, 4] (fun o i wr => ∃ (k : Nat) (p : Option Addr) (c : Nat), k ≤ 8 ∧ i = .int .i64 (7 - k) ∧ o = .slice p k c ∧ wr.ownsRow w.heap.size 5 1 (.slice p k c) k (ints .u8 ((numL x).take k)) ∧ Ext w wr) (fun _ i _ => (intOf i + 1).toNat)
  case atStart => exact ⟨0, none, 0, by omega, rfl, rfl, ⟨rfl, .inl ⟨rfl, rfl⟩⟩, Below.refl _ _⟩
  case round =>
    obtain ⟨k, p, c, hk, rfl, rfl, hown, hE⟩ := hrel
    have Hown := Bl.hid hown
    have HE := Bl.hid hE
    clear hown hE
    by_cases hk8 : k = 8
    · subst hk8
      go_wp2_with fail
      go_ret
      exact ⟨_, rfl, ⟨p, c, rfl, Rds.of_owns Hown.out⟩, HE.out⟩
    · have hc : k = 0 ∨ k = 1 ∨ k = 2 ∨ k = 3 ∨ k = 4 ∨ k = 5 ∨ k = 6 ∨ k = 7 := by omega
      clear hk hk8
      rcases hc with rfl | rfl | rfl | rfl | rfl | rfl | rfl | rfl
      all_goals
        go_wp2_with (with_reducible refine stop_append ?_)
        refine go_on ?_
        refine wpL_app tBytes (owns_ext Hown.out (ext_alloc _ _)) (rds_one wr 5 .u8 _) rfl rfl rfl (ints_one _ _) (by decide) (by decide) (Nat.le_trans HE.out.size (ext_alloc _ _).size) ?_
        intro p2 c2 w2 hown2 hg2 hB2 hK2 hn2 hc2
        rw [← ints_append] at hown2
        have Hown2 := Bl.hid hown2
        have HE2 : Hid (Ext w w2) := Bl.hid (Below.trans (HE.out.trans (ext_alloc _ _)) hB2)
        clear hown2 hg2 hB2 hK2
        go_wp2_with fail
        go_roundw
        case rel => exact ⟨_, p2, c2, by decide, by first | rfl | go_num, rfl, by
          have h := Hown2.out
          simp only [numL, List.take_succ_cons, List.take_zero, List.nil_append, List.cons_append] at h ⊢
          first | exact h | (have e : x / 72057594037927936 % 256 = x / 72057594037927936 := by omega
                             have e2 : x / 281474976710656 % 256 = x / 281474976710656 := by omega
                             have e3 : x / 1099511627776 % 256 = x / 1099511627776 := by omega
                             simp only [e, e2, e3] at h ⊢
                             exact h), HE2.out⟩
        case measure => simp [intOf]
theorem rnumber_any (x:Int) (w:World) (h0:0<=x) (h1:x<=1099511627776):
  Calls Tryz.prog 104 #[.int .i64 x] w fun e w'=>∃v,e= .returned v/\SlB w' v (numL x)/\Ext w w':=by
 obtain⟨w1,hrun,hown1,hE1,hs1⟩:=make_ints (P:=Tryz.prog) tBytes 8 (by decide) (by decide) w
 have HB1:=Bl.hid (BoxC.of_owns hown1 (fun h=>by cases h))
 have HE1:=Bl.hid hE1
 have hrun8:(Instr.makeSlice 27 (.int .i64 8) (.int .i64 8)).run Tryz.prog w= .ok (.slice (some ⟨w.heap.size,0,none⟩) 8 8) w1:=hrun
 clear hrun hown1 hE1 hs1
 go_enter Tryz.func104,Tryz.ntmps104
 go_wp2_with fail
 clear hrun8
 go_loopw [4,5] (fun u i wr=>∃(k:Nat) (y:Int),k<=8/\u= .int .u64 y/\Hid (y=x / 256^k)/\0<=y/\y<=1099511627776/\i= .int .i64 (7 - k)/\Hid (BoxC wr w.heap.size (ints .u8 (numZ x k)))/\Ext w wr) (fun _ i _=>(intOf i+1).toNat)
 case atStart=>exact⟨0,x,by omega,rfl,Bl.hid (by simp),h0,h1,rfl,HB1,HE1.out⟩
 case round=>
  obtain⟨k,y,hk,rfl,Hy,hy0,hy1,rfl,HB,hE⟩:=hrel
  have HE:=Bl.hid hE
  clear hE
  by_cases hk8:k=8
  ·subst hk8
   go_wp2_with fail
   go_ret
   exact⟨_,rfl,BoxC.rd8 HB.out rfl,HE.out⟩
  ·have hc:k=0\/k=1\/k=2\/k=3\/k=4\/k=5\/k=6\/k=7:=by omega
   clear hk hk8
   rcases hc with rfl | rfl | rfl | rfl | rfl | rfl | rfl | rfl
   ·have hq:wr.cell? ⟨w.heap.size,7,none⟩=some (.int .u8 0):=HB.out.cell (i:=7) rfl
    have hf:=HB.out.fz (i:=7) (show 7 < 8 by decide)
    have Hp:=Bl.hid (HB.out.put (i:=7) (show 7 < 8 by decide) (.int .u8 (y % 256)))
    have Hy2:Hid (y=x / 1):=Bl.hid (by have:=Hy.out;simpa using this)
    go_wp2_with fail
    go_roundw
    case rel=>
     refine⟨1,y / 256,by decide,rfl,Bl.hid (by rw [Hy2.out];show x / 1 / 256=x / 256;omega),by omega,by omega,by first | rfl | go_num,Bl.hid ?_,Below.setCell HE.out (Nat.le_refl _) _⟩
     have h:=Hp.out
     rw [ints_set]at h
     have e:=Hy2.out
     subst e
     try rw [Int.ediv_one]at h⊢
     exact h
    case measure=>simp [intOf]
   ·have hq:wr.cell? ⟨w.heap.size,6,none⟩=some (.int .u8 0):=HB.out.cell (i:=6) rfl
    have hf:=HB.out.fz (i:=6) (show 6 < 8 by decide)
    have Hp:=Bl.hid (HB.out.put (i:=6) (show 6 < 8 by decide) (.int .u8 (y % 256)))
    have Hy2:Hid (y=x / 256):=Bl.hid (by have:=Hy.out;simpa using this)
    go_wp2_with fail
    go_roundw
    case rel=>
     refine⟨2,y / 256,by decide,rfl,Bl.hid (by rw [Hy2.out];show x / 256 / 256=x / 65536;omega),by omega,by omega,by first | rfl | go_num,Bl.hid ?_,Below.setCell HE.out (Nat.le_refl _) _⟩
     have h:=Hp.out
     rw [ints_set]at h
     have e:=Hy2.out
     subst e
     try rw [Int.ediv_one]at h⊢
     exact h
    case measure=>simp [intOf]
   ·have hq:wr.cell? ⟨w.heap.size,5,none⟩=some (.int .u8 0):=HB.out.cell (i:=5) rfl
    have hf:=HB.out.fz (i:=5) (show 5 < 8 by decide)
    have Hp:=Bl.hid (HB.out.put (i:=5) (show 5 < 8 by decide) (.int .u8 (y % 256)))
    have Hy2:Hid (y=x / 65536):=Bl.hid (by have:=Hy.out;simpa using this)
    go_wp2_with fail
    go_roundw
    case rel=>
     refine⟨3,y / 256,by decide,rfl,Bl.hid (by rw [Hy2.out];show x / 65536 / 256=x / 16777216;omega),by omega,by omega,by first | rfl | go_num,Bl.hid ?_,Below.setCell HE.out (Nat.le_refl _) _⟩
     have h:=Hp.out
     rw [ints_set]at h
     have e:=Hy2.out
     subst e
     try rw [Int.ediv_one]at h⊢
     exact h
    case measure=>simp [intOf]
   ·have hq:wr.cell? ⟨w.heap.size,4,none⟩=some (.int .u8 0):=HB.out.cell (i:=4) rfl
    have hf:=HB.out.fz (i:=4) (show 4 < 8 by decide)
    have Hp:=Bl.hid (HB.out.put (i:=4) (show 4 < 8 by decide) (.int .u8 (y % 256)))
    have Hy2:Hid (y=x / 16777216):=Bl.hid (by have:=Hy.out;simpa using this)
    go_wp2_with fail
    go_roundw
    case rel=>
     refine⟨4,y / 256,by decide,rfl,Bl.hid (by rw [Hy2.out];show x / 16777216 / 256=x / 4294967296;omega),by omega,by omega,by first | rfl | go_num,Bl.hid ?_,Below.setCell HE.out (Nat.le_refl _) _⟩
     have h:=Hp.out
     rw [ints_set]at h
     have e:=Hy2.out
     subst e
     try rw [Int.ediv_one]at h⊢
     exact h
    case measure=>simp [intOf]
   ·have hq:wr.cell? ⟨w.heap.size,3,none⟩=some (.int .u8 0):=HB.out.cell (i:=3) rfl
    have hf:=HB.out.fz (i:=3) (show 3 < 8 by decide)
    have Hp:=Bl.hid (HB.out.put (i:=3) (show 3 < 8 by decide) (.int .u8 (y % 256)))
    have Hy2:Hid (y=x / 4294967296):=Bl.hid (by have:=Hy.out;simpa using this)
    go_wp2_with fail
    go_roundw
    case rel=>
     refine⟨5,y / 256,by decide,rfl,Bl.hid (by rw [Hy2.out];show x / 4294967296 / 256=x / 1099511627776;omega),by omega,by omega,by first | rfl | go_num,Bl.hid ?_,Below.setCell HE.out (Nat.le_refl _) _⟩
     have h:=Hp.out
     rw [ints_set]at h
     have e:=Hy2.out
     subst e
     try rw [Int.ediv_one]at h⊢
     exact h
    case measure=>simp [intOf]
   ·have hq:wr.cell? ⟨w.heap.size,2,none⟩=some (.int .u8 0):=HB.out.cell (i:=2) rfl
    have hf:=HB.out.fz (i:=2) (show 2 < 8 by decide)
    have Hp:=Bl.hid (HB.out.put (i:=2) (show 2 < 8 by decide) (.int .u8 (y % 256)))
    have Hy2:Hid (y=x / 1099511627776):=Bl.hid (by have:=Hy.out;simpa using this)
    go_wp2_with fail
    go_roundw
    case rel=>
     refine⟨6,y / 256,by decide,rfl,Bl.hid (by rw [Hy2.out];show x / 1099511627776 / 256=x / 281474976710656;omega),by omega,by omega,by first | rfl | go_num,Bl.hid ?_,Below.setCell HE.out (Nat.le_refl _) _⟩
     have h:=Hp.out
     rw [ints_set]at h
     have e:=Hy2.out
     subst e
     try rw [Int.ediv_one]at h⊢
     exact h
    case measure=>simp [intOf]
   ·have hq:wr.cell? ⟨w.heap.size,1,none⟩=some (.int .u8 0):=HB.out.cell (i:=1) rfl
    have hf:=HB.out.fz (i:=1) (show 1 < 8 by decide)
    have Hp:=Bl.hid (HB.out.put (i:=1) (show 1 < 8 by decide) (.int .u8 (y % 256)))
    have Hy2:Hid (y=x / 281474976710656):=Bl.hid (by have:=Hy.out;simpa using this)
    go_wp2_with fail
    go_roundw
    case rel=>
     refine⟨7,y / 256,by decide,rfl,Bl.hid (by rw [Hy2.out];show x / 281474976710656 / 256=x / 72057594037927936;omega),by omega,by omega,by first | rfl | go_num,Bl.hid ?_,Below.setCell HE.out (Nat.le_refl _) _⟩
     have h:=Hp.out
     rw [ints_set]at h
     have e:=Hy2.out
     subst e
     try rw [Int.ediv_one]at h⊢
     exact h
    case measure=>simp [intOf]
   ·have hq:wr.cell? ⟨w.heap.size,0,none⟩=some (.int .u8 0):=HB.out.cell (i:=0) rfl
    have hf:=HB.out.fz (i:=0) (show 0 < 8 by decide)
    have Hp:=Bl.hid (HB.out.put (i:=0) (show 0 < 8 by decide) (.int .u8 (y % 256)))
    have Hy2:Hid (y=x / 72057594037927936):=Bl.hid (by have:=Hy.out;simpa using this)
    go_wp2_with fail
    go_roundw
    case rel=>
     refine⟨8,y / 256,by decide,rfl,Bl.hid (by rw [Hy2.out];show x / 72057594037927936 / 256=x / 18446744073709551616;omega),by omega,by omega,by first | rfl | go_num,Bl.hid ?_,Below.setCell HE.out (Nat.le_refl _) _⟩
     have h:=Hp.out
     rw [ints_set]at h
     have e:=Hy2.out
     subst e
     try rw [Int.ediv_one]at h⊢
     exact h
    case measure=>simp [intOf]
end Go.Proofs.YtglenbikdahgjaaGreatDoor
namespace Go.Proofs.YtglenbikdahgjaaGreatDoor
open Go.RowKit Go.Proofs Go.Proofs.Bl
theorem pbytes_any (v:Value) (ds:List (List Int)) (w:World) (hR:RdD w v ds) (hd:Dig ds) (hn:ds.length<=1048576):
  Calls Tryz.prog 103 #[v] w fun e w'=>∃v',e= .returned v'/\Rd w' .u8 v' ds.flatten/\Ext w w':=by
 obtain⟨p,c,hvf,hvn,hvc⟩:=hR.form
 subst hvf
 have HR:=Bl.hid hR
 have Hd:=Bl.hid hd
 obtain⟨n,hn0⟩:∃n,n=ds.length:=⟨_,rfl⟩
 rw [<-hn0]at hn hvn⊢
 have Hn:=Bl.hid hn0
 clear hR hd hn0
 go_enter Tryz.func103,Tryz.ntmps103
 go_wp2_with fail
 go_loopw [3,8] (fun o i wr=>∃(k c1:Nat) (p1:Option Addr),k<=n/\i= .int .i64 k/\o= .slice p1 (k*32) c1/\wr.ownsRow w.heap.size 5 1 (.slice p1 (k*32) c1) (k*32) (ints .u8 (ds.take k).flatten)/\Ext w wr) (fun _ i _=>n - (intOf i).toNat)
 case atStart=>exact⟨0,0,none,Nat.zero_le _,rfl,rfl,⟨rfl,.inl ⟨rfl,rfl⟩⟩,Below.refl _ _⟩
 case round=>
  obtain⟨k,c1,p1,hk,rfl,rfl,hown,hE⟩:=hrel
  have Hown:=Bl.hid hown
  have HE:=Bl.hid hE
  clear hown hE
  by_cases hlt:k < n
  ·obtain⟨b,o,c',hp,hp1,hp2,hbl,hrg⟩:=RdD.pos (Rds.ext HR.out HE.out) Hd.out (by rw [<-Hn.out];omega)
   injection hp with hp hp3 hp4
   clear hp3 hp4
   subst hp
   have hr1:=digit_at hrg Hd.out (i:=k) (by rw [<-Hn.out];exact hlt)
   obtain⟨hll,_⟩:=Hd.out.get (i:=k) (by rw [<-Hn.out];exact hlt)
   have Htk:=Bl.hid (take_snocD ds k (by rw [<-Hn.out];exact hlt))
   obtain⟨d,hd⟩:∃d,d=ds.getD k []:=⟨_,rfl⟩
   rw [<-hd]at hr1 hll Htk
   have Hld:=Bl.hid (load_ints (P:=Tryz.prog) (ty:=54) hr1 Tryz.underlying54 (by kernel_rfl) hll)
   have Hll:=Bl.hid hll
   clear hr1 hll hd hp1 hp2 hrg hbl
   go_wp2_with (with_reducible refine stop_load (ty:=54) ?_)
   refine go_on ?_
   refine wpL_load rfl Hld.out ?_
   have HF5:=Bl.hid (fam_new wr 32 .u8 54 #[.int .u8 0,.int .u8 0,.int .u8 0,.int .u8 0,.int .u8 0,.int .u8 0,.int .u8 0,.int .u8 0,.int .u8 0,.int .u8 0,.int .u8 0,.int .u8 0,.int .u8 0,.int .u8 0,.int .u8 0,.int .u8 0,.int .u8 0,.int .u8 0,.int .u8 0,.int .u8 0,.int .u8 0,.int .u8 0,.int .u8 0,.int .u8 0,.int .u8 0,.int .u8 0,.int .u8 0,.int .u8 0,.int .u8 0,.int .u8 0,.int .u8 0,.int .u8 0] rfl)
   have Hst:=Bl.hid (store_ints (P:=Tryz.prog) (ty:=54) (k:= .u8) (l:=d) (n:=32) HF5.out.there (by kernel_rfl) Hll.out)
   have HE6:Hid (Ext wr ((wr.alloc (.cells #[.int .u8 0,.int .u8 0,.int .u8 0,.int .u8 0,.int .u8 0,.int .u8 0,.int .u8 0,.int .u8 0,.int .u8 0,.int .u8 0,.int .u8 0,.int .u8 0,.int .u8 0,.int .u8 0,.int .u8 0,.int .u8 0,.int .u8 0,.int .u8 0,.int .u8 0,.int .u8 0,.int .u8 0,.int .u8 0,.int .u8 0,.int .u8 0,.int .u8 0,.int .u8 0,.int .u8 0,.int .u8 0,.int .u8 0,.int .u8 0,.int .u8 0,.int .u8 0] 54)).setCells wr.heap.size 0 (ints .u8 d))):=Bl.hid (below_setCells _ _ _ _ (ext_alloc _ _) (Nat.le_refl _))
   have Hr7:Hid (((wr.alloc (.cells #[.int .u8 0,.int .u8 0,.int .u8 0,.int .u8 0,.int .u8 0,.int .u8 0,.int .u8 0,.int .u8 0,.int .u8 0,.int .u8 0,.int .u8 0,.int .u8 0,.int .u8 0,.int .u8 0,.int .u8 0,.int .u8 0,.int .u8 0,.int .u8 0,.int .u8 0,.int .u8 0,.int .u8 0,.int .u8 0,.int .u8 0,.int .u8 0,.int .u8 0,.int .u8 0,.int .u8 0,.int .u8 0,.int .u8 0,.int .u8 0,.int .u8 0,.int .u8 0] 54)).setCells wr.heap.size 0 (ints .u8 d)).rangeAt wr.heap.size 0 (ints .u8 d)):=Bl.hid (World.rangeAt_setCells_same _ _ _ _ (by rw [ints_length,Hll.out];exact HF5.out.there))
   go_wp2_with (with_reducible refine stop_store (ty:=54) ?_)
   refine go_on ?_
   refine wpL_store0 rfl rfl Hst.out ?_
   generalize hWS:(wr.alloc (.cells #[.int .u8 0,.int .u8 0,.int .u8 0,.int .u8 0,.int .u8 0,.int .u8 0,.int .u8 0,.int .u8 0,.int .u8 0,.int .u8 0,.int .u8 0,.int .u8 0,.int .u8 0,.int .u8 0,.int .u8 0,.int .u8 0,.int .u8 0,.int .u8 0,.int .u8 0,.int .u8 0,.int .u8 0,.int .u8 0,.int .u8 0,.int .u8 0,.int .u8 0,.int .u8 0,.int .u8 0,.int .u8 0,.int .u8 0,.int .u8 0,.int .u8 0,.int .u8 0] 54)).setCells wr.heap.size 0 (ints .u8 d)=W6 at*
   clear hWS Hst HF5 Hld
   generalize wr.heap.size=s7 at*
   have Hown2:=Bl.hid (owns_ext Hown.out HE6.out)
   have Hnew:Hid (Rd W6 .u8 (.slice (some ⟨s7,0,none⟩) 32 32) d):=Bl.hid (rd_box Hr7.out Hll.out (by decide))
   have HE2:=Bl.hid (HE.out.trans HE6.out)
   go_wp2_with (with_reducible refine stop_append ?_)
   refine go_on ?_
   have Hnew32:Hid (Rds W6 (.slice (some ⟨s7,0,none⟩) 32 32) 32 (ints .u8 d)):=Bl.hid (by have h:=Hnew.out;unfold Rd at h;rw [Hll.out]at h;exact h)
   refine wpL_app tBytes Hown2.out Hnew32.out rfl rfl (by rw [ints_length,Hll.out]) (ints_one _ _) (by unfold maxLen;omega) (by omega) HE2.out.size ?_
   intro q3 d3 w3 hown3 hg3 hB3 hK3 hn3 hc3
   have e32:k*32+32=(k+1)*32:=by omega
   rw [e32]at hown3⊢
   have Hown3:=Bl.hid hown3
   have HE3:Hid (Ext w w3):=Bl.hid (Below.trans HE2.out hB3)
   clear hown3 hg3 hB3 hK3 e32
   go_wp2_with fail
   go_roundw
   case rel=>
    refine⟨k+1,d3,q3,by omega,by go_num,rfl,?_,HE3.out⟩
    rw [Htk.out,List.flatten_append,List.flatten_singleton,ints_append]
    exact Hown3.out
   case measure=>simp [intOf];omega
  ·obtain rfl:k=n:=by omega
   have hown:=Hown.out
   rw [List.take_of_length_le (by rw [<-Hn.out];exact Nat.le_refl _)]at hown
   have Hr1:=Bl.hid (Rds.of_owns hown)
   have Hfl:Hid (ds.flatten.length=k*32):=Bl.hid (by
    have h:=hown.1
    rw [ints_length]at h;omega)
   clear hown
   go_wp2_with fail
   go_ret
   exact⟨_,rfl,by show Rds _ _ ds.flatten.length _;rw [Hfl.out];exact Hr1.out,HE.out⟩
end Go.Proofs.YtglenbikdahgjaaGreatDoor
