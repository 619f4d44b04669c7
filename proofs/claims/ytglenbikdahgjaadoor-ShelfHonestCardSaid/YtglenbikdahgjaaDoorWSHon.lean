/- Walk of the law ShelfHonest. -/
import Derived.Test.YtglenbikdahgjaaDoorWsv
import Derived.Test.YtglenbikdahgjaaDoorShH
import Derived.Test.YtglenbikdahgjaaDoorWs0
import Derived.Test.YtglenbikdahgjaaDoorWl0
import Derived.Test.YtglenbikdahgjaaDoorLet2b
import Derived.Test.YtglenbikdahgjaaDoorOpn2
import Derived.Test.YtglenbikdahgjaaDoorFoR
namespace Go.Proofs.Bl
open Go Go.RowKit
/-- a new shelf -/
theorem SvX.new {w : World} {b m sb : Nat} (hb : BoxC w b [.map (some m), .pointer (some ⟨sb, 0, none⟩)]) (hm : MapAt w m []) (hs : BoxC w sb [.bool false, .int .i64 0, .int .u64 0]) (h1 : b ≠ m) (h2 : b ≠ sb) (h3 : m ≠ sb) : SvX (fun i => i = m ∨ i = sb) (fun i => i = m ∨ i = sb) w b sh0 :=
  ⟨m, sb, [], hb, hm, ⟨false, 0, 0, hs, SeenOk.zero⟩, rfl, fun _ => trivial, fun q => q.elim h1 h2, .inl rfl, .inr rfl, h3, fun p hp => (by cases hp), fun k hk => by
    rcases hk with rfl | rfl
    · exact hm.lt
    · exact hs.lt⟩
/-- a guarded load, the guard decided -/
theorem ifp_load {P : Program} {c : Prop} [Decidable c] {b : Prop} {ev : Nat → Value} {w : World} {φ : Value → World → Prop} {d : Option Tmp} {tt ty : TypeId} {pp : String} {af : Array Edge} {g : Option (Nat × Bool)} {x : Operand} {p v : Value} (hc : c) (hx : evalE ev x = p) (hld : (Instr.loadAt ty p).run P w = .ok v w) (hφ : φ v w) :
    if c then GoodR P w φ ((execOp (evalE ev) ⟨d, .load ty x, tt, pp, af, g⟩).run P w) else b := by
  rw [if_pos hc]; exact goodR_load hx hld hφ
/-- what came in avoids what was made later -/
theorem LtC.ltw {N : Nat → Prop} {w w' : World} {cs : List Value} {l : LT} {vp vs vb : Value} {L : List Sv} (h : LtC w cs l vp vs vb L) (hE : Ext w w') (hN : ∀ i, N i → w.heap.size ≤ i) : LtW N w' (.agg (cL l vp vs vb).toArray) l :=
  ⟨vp, vs, vb, L, rfl, (LtF.of_ltc h).kept fun k hk _ => ⟨fun q => by have := hN k q; omega, hE.block k hk⟩⟩
theorem LtV.mk' {w : World} {cs : List Value} {l : LT} {vp vs vb : Value} {L : List Sv} (h : LtC w cs l vp vs vb L) : LtV w (.agg cs.toArray) l := ⟨cs, vp, vs, vb, L, rfl, h⟩
/-- the shelf of an honest run, in the round -/
def HoI (bs : List (List Int)) (B X8 b : Nat) (N Q : Nat → Prop) (s : ShT) (w : World) : Prop := SvX N Q w b s ∧ ShOk s ∧ getO s 0 = some bs ∧ (∀ i, Q i → N i) ∧ (∀ i, N i → B ≤ i ∧ i < w.heap.size) ∧ ¬ Q X8 ∧ B ≤ b
theorem HoI.ext {bs : List (List Int)} {B X8 b : Nat} {N Q : Nat → Prop} {s : ShT} {w w' : World} (h : HoI bs B X8 b N Q s w) (hE : Ext w w') : HoI bs B X8 b N Q s w' :=
  ⟨h.1.ext hE, h.2.1, h.2.2.1, h.2.2.2.1, fun i q => ⟨(h.2.2.2.2.1 i q).1, Nat.lt_of_lt_of_le (h.2.2.2.2.1 i q).2 hE.size⟩, h.2.2.2.2.2⟩
theorem HoI.go {bs : List (List Int)} {B X8 b : Nat} {N Q : Nat → Prop} {s s' : ShT} {w w' w2 : World} (h : HoI bs B X8 b N Q s w) (g : SvGo N Q w w' b s') (hE : Ext w' w2) (hX : X8 < w.heap.size) (hB : B ≤ w.heap.size) (ho : ShOk s') (hg : getO s' 0 = some bs) : ∃ N' Q', HoI bs B X8 b N' Q' s' w2 := by
  obtain ⟨_, N', Q', h1, h2, _, _, h5, h6, h7⟩ := g
  refine ⟨N', Q', h1.ext hE, ho, hg, h5, fun i q => ⟨?_, Nat.lt_of_lt_of_le (h7 i q) hE.size⟩, fun q => ?_, h.2.2.2.2.2.2⟩
  · rcases h2 i q with q | q
    · exact (h.2.2.2.2.1 i q).1
    · omega
  · rcases h6 _ q with q | q
    · exact h.2.2.2.2.2.1 q
    · omega
end Go.Proofs.Bl
namespace Go.Proofs.YtglenbikdahgjaaDoor
open Go Go.RowKit Go.Proofs

set_option maxRecDepth 100000 in
set_option maxHeartbeats 8000000 in
theorem shonest_all (v vl : Value) (bs : List (List Int)) (X : List Bl.Lv) (w : World) (S : List Nat) (a : Nat → Addr) (hR : Bl.Rdss w v bs) (hby : ∀ p ∈ bs, Bl.Byt p) (hX : Bl.RdV w vl X) (hg : GlobR w) (he : Errs S a w) (s1 : 1 ∈ S) (s3 : 3 ∈ S) (s4 : 4 ∈ S) (s7 : 7 ∈ S) (s8 : 8 ∈ S) (s15 : 15 ∈ S) :
    Calls Tryd.prog 4 #[v, vl] w fun e w' => e = .returned (.bool true) ∧ Bl.Ext w w' := by
  have hR2 := hR
  obtain ⟨ws, hv, hwl, hws⟩ := hR2
  obtain ⟨p, c, hvf, hvn, hvc⟩ := hv.form
  subst hvf
  obtain ⟨pl, cl, hlf, hln, hlc⟩ := hX.rd.form
  subst hlf
  unfold maxLen at hvc hlc
  have HR := Bl.hid hR
  have HX := Bl.hid hX
  have Hg := Bl.hid hg
  have He := Bl.hid he
  have Hby := Bl.hid hby
  have Hv := Bl.hid hv
  have Hwl := Bl.hid hwl
  have Hws := Bl.hid hws
  have HS := Bl.hid (And.intro s1 (And.intro s3 (And.intro s4 (And.intro s7 (And.intro s8 s15)))))
  obtain ⟨n, hn⟩ : ∃ n, n = bs.length := ⟨_, rfl⟩
  obtain ⟨n1, hn1⟩ : ∃ n1, n1 = X.length := ⟨_, rfl⟩
  rw [← hn] at HR Hv hvn ⊢
  rw [← hn1] at HX hln ⊢
  have Hn := Bl.hid hn
  have Hn1 := Bl.hid hn1
  clear hR hg hby hv hwl hws he hX hn hn1 s1 s3 s4 s7 s8 s15
  go_enter Tryd.func4, Tryd.ntmps4
  go_wp2_with fail
  refine (alive25 w S a He.out HS.out.1 HS.out.2.1 HS.out.2.2.1 HS.out.2.2.2.1 HS.out.2.2.2.2.1).mono ?_
  rintro e w1 ⟨rfl, hE1⟩
  have HE1 := Bl.hid hE1
  clear hE1
  by_cases hn60 : (60 : Int) < (n : Int)
  · go_wp2_with fail
    go_ret
    exact ⟨rfl, HE1.out⟩
  by_cases hn20 : (20 : Int) < (n1 : Int)
  · go_wp2_with fail
    go_ret
    exact ⟨rfl, HE1.out⟩
  have Hn60 : Hid (bs.length ≤ 60) := Bl.hid (by rw [← Hn.out]; omega)
  go_wp2_with fail
  refine (snew_any w1).mono ?_
  rintro e w2 ⟨b, m, sb, rfl, hb1, hb2, hb3, hb4, hb5, hb6, -, hB, hM, hSb, hE2⟩
  have HSv := Bl.hid (Bl.SvX.new hB hM hSb hb4 hb5 hb6)
  have HE2 := Bl.hid (HE1.out.trans hE2)
  have HN2 : Hid (∀ i, (i = m ∨ i = sb) → w.heap.size ≤ i ∧ i < w2.heap.size) := Bl.hid fun i hi => by
    have := HE1.out.size
    rcases hi with rfl | rfl
    · exact ⟨by omega, hM.lt⟩
    · exact ⟨by omega, hSb.lt⟩
  have Hb : Hid (w.heap.size ≤ b ∧ b < w2.heap.size) := Bl.hid ⟨by have := HE1.out.size; omega, hB.lt⟩
  clear hb1 hb2 hb3 hb4 hb5 hb6 hB hM hSb hE2 HE1
  have HLc : Hid (Bl.LtC w (Bl.cL (Bl.putT bs) (.slice none 0 0) (.slice none 0 0) (.slice p n c)) (Bl.putT bs) (.slice none 0 0) (.slice none 0 0) (.slice p n c) []) := Bl.hid ⟨rfl, Bl.Rd.nil _ _, Bl.RdS.nil _, rfl, HR.out, Hby.out⟩
  have HLw := Bl.hid (HLc.out.ltw HE2.out (N := fun i => i = m ∨ i = sb) fun i hi => (HN2.out i hi).1)
  have HH : Hid (Calls Tryd.prog 10 #[.pointer (some ⟨b, 0, none⟩), .agg (Bl.cL (Bl.putT bs) (.slice none 0 0) (.slice none 0 0) (.slice p n c)).toArray] w2 fun e w' => Bl.HanR (fun i => i = m ∨ i = sb) (fun i => i = m ∨ i = sb) b Bl.sh0 (Bl.putT bs) w2 e w') := Bl.hid
    (shan_any b _ _ Bl.sh0 _ _ w2 S a HSv.out Bl.ShOk.zero (fun _ q => q) (fun i hi => (HN2.out i hi).2) HLw.out (Hg.out.ext HE2.out).s (He.out.ext HE2.out) HS.out.1 HS.out.2.1 HS.out.2.2.1 HS.out.2.2.2.1 HS.out.2.2.2.2.1)
  unfold Bl.putT Bl.cL at HH
  go_wp2_with fail
  refine HH.out.mono ?_
  rintro e w3 ⟨vp, vs, vb, L, rfl, hLf, hGo⟩
  rw [show (⟨1, 0, 0, [], [], 0, 0, bs, 0⟩ : Bl.LT) = Bl.putT bs from rfl] at hLf hGo ⊢
  obtain ⟨cb, hcb⟩ : ∃ cb, cb = Bl.cL (Bl.hanL Bl.sh0 (Bl.putT bs)).1 vp vs vb := ⟨_, rfl⟩
  obtain ⟨hB4, hE4⟩ := Bl.BoxC.fresh (cs := cb) w3 26 Bl.zL (by rw [hcb]; rfl) (by rw [hcb]; exact Bl.cL_ne _ _ _ _)
  have Hst := Bl.hid (Bl.fresh_store (P := Tryd.prog) (cs := cb) w3 26 Bl.zL (by rw [hcb]; rfl) (by rw [hcb]; exact hLf.ltc.one) (ty := 26) (by rw [hcb]; kernel_rfl))
  have HE4a := Bl.hid hE4
  have hE3 : Bl.Ext w w3 := Below.trans HE2.out (hGo.1.below HE2.out.size fun i hi => (HN2.out i hi).1)
  have HE4 := Bl.hid (hE3.trans hE4)
  have HB4 := Bl.hid hB4
  have HGo := Bl.hid hGo
  have hq0 := hB4.cell (i := 0) (v := .int .i64 (Bl.hanL Bl.sh0 (Bl.putT bs)).1.kind) (by rw [hcb]; rfl)
  clear hLf hGo hB4 hE4 hE3 HH HLw
  have HK0 : Hid (Bl.chkL (Bl.putT bs) = 0 → (Bl.hanL Bl.sh0 (Bl.putT bs)).2 = true ∧ (Bl.hanL Bl.sh0 (Bl.putT bs)).1.kind = 2) := Bl.hid fun h => by
    rw [Bl.hanL_put, if_pos h]; exact ⟨rfl, rfl⟩
  have HK1 : Hid (¬ Bl.chkL (Bl.putT bs) = 0 → (Bl.hanL Bl.sh0 (Bl.putT bs)).2 = false) := Bl.hid fun h => by
    rw [Bl.hanL_put, if_neg h]
  obtain ⟨is, his⟩ : ∃ is, is = (Bl.hanL Bl.sh0 (Bl.putT bs)).2 := ⟨_, rfl⟩
  obtain ⟨kd, hkd⟩ : ∃ kd, kd = (Bl.hanL Bl.sh0 (Bl.putT bs)).1.kind := ⟨_, rfl⟩
  rw [← his] at HK0 HK1 ⊢
  rw [← hkd] at HK0 hq0
  rw [← hcb]
  clear his hkd hcb
  go_wp2_with (with_reducible refine Bl.stop_store (ty := 26) ?_)
  refine Bl.go_on ?_
  refine Bl.wpL_store0 rfl rfl Hst.out ?_
  obtain ⟨W4, hW4⟩ : ∃ W4, W4 = (w3.alloc (.cells Bl.zL 26)).setCells w3.heap.size 0 cb := ⟨_, rfl⟩
  obtain ⟨X6, hX6⟩ : ∃ X6, X6 = w3.heap.size := ⟨_, rfl⟩
  rw [← hW4] at HE4 HE4a HB4 hq0 ⊢
  rw [← hX6] at hq0 HB4 ⊢
  clear hW4 hX6 Hst
  by_cases hck : Bl.chkL (Bl.putT bs) = 0
  case neg =>
    obtain rfl := HK1.out hck
    have HCk := Bl.hid (lcheck_any _ (Bl.putT bs) W4 S a (((Bl.LtV.mk' HLc.out)).ext HE4.out) (He.out.ext HE4.out) HS.out.1 HS.out.2.1 HS.out.2.2.1 HS.out.2.2.2.1 HS.out.2.2.2.2.1)
    rw [errN_pos a _ hck] at HCk
    unfold Bl.cL at HCk
    clear hq0
    go_wp2_with fail
    refine HCk.out.mono ?_
    rintro e w5 ⟨rfl, hE5⟩
    have HE5 := Bl.hid (HE4.out.trans hE5)
    clear hE5 HCk
    go_wp2_with fail
    go_ret
    exact ⟨rfl, HE5.out⟩
  obtain ⟨rfl, rfl⟩ := HK0.out hck
  have HIa : Hid (Bl.getO (Bl.hanS Bl.sh0 (Bl.putT bs)) 0 = some bs ∧ Bl.ShOk (Bl.hanS Bl.sh0 (Bl.putT bs))) := Bl.hid ⟨Bl.getO_put0 bs hck, Bl.ShOk.zero.han Hby.out⟩
  have hn1' : 1 ≤ n := by rw [Hn.out]; exact (Bl.put_st hck rfl Hby.out).1
  have HI0 : Hid (∃ N Q, Bl.SvX N Q W4 b (Bl.hanS Bl.sh0 (Bl.putT bs)) ∧ (∀ i, Q i → N i) ∧ ∀ i, N i → w.heap.size ≤ i ∧ i < W4.heap.size) := Bl.hid (by
    obtain ⟨_, N', Q', h1, h2, _, _, h5, _, h7⟩ := HGo.out
    refine ⟨N', Q', h1.ext HE4a.out, h5, fun i q => ⟨?_, Nat.lt_of_lt_of_le (h7 i q) HE4a.out.size⟩⟩
    rcases h2 i q with q | q
    · exact (HN2.out i q).1
    · have := HE2.out.size; omega)
  clear hck HK0 HK1 HGo HE4a HLc HSv HN2 HB4
  go_wp2_with fail
  clear hq0
  refine (refroot_any _ bs W4 (Bl.Rdss.ext HR.out HE4.out) (Hg.out.ext HE4.out) Hby.out (fun q hq => by have := (HIa.out.2.get HIa.out.1).2.2 q hq; omega) (by have := Hn60.out; omega)).mono ?_
  rintro e w5 ⟨rfl, hE5⟩
  have hRDl : (Bl.rootD bs).length = 32 := Bl.rootD_length bs (by have := Hn60.out; omega)
  obtain ⟨RD, hRD⟩ : ∃ RD, RD = Bl.rootD bs := ⟨_, rfl⟩
  rw [← hRD] at hRDl ⊢
  have HRD := Bl.hid hRD
  have HRDl := Bl.hid hRDl
  have HFz := Bl.hid (fam_new w5 32 .u8 41 #[.int .u8 0, .int .u8 0, .int .u8 0, .int .u8 0, .int .u8 0, .int .u8 0, .int .u8 0, .int .u8 0, .int .u8 0, .int .u8 0, .int .u8 0, .int .u8 0, .int .u8 0, .int .u8 0, .int .u8 0, .int .u8 0, .int .u8 0, .int .u8 0, .int .u8 0, .int .u8 0, .int .u8 0, .int .u8 0, .int .u8 0, .int .u8 0, .int .u8 0, .int .u8 0, .int .u8 0, .int .u8 0, .int .u8 0, .int .u8 0, .int .u8 0, .int .u8 0] rfl)
  have HBx := Bl.hid (Bl.BoxD.of_fam HFz.out (d := RD) hRDl)
  have Hst := Bl.hid (Bl.store_ints (P := Tryd.prog) (ty := 41) (k := .u8) (l := RD) (n := 32) HFz.out.there (by kernel_rfl) hRDl)
  have HE6a : Hid (Bl.Ext W4 ((w5.alloc (.cells #[.int .u8 0, .int .u8 0, .int .u8 0, .int .u8 0, .int .u8 0, .int .u8 0, .int .u8 0, .int .u8 0, .int .u8 0, .int .u8 0, .int .u8 0, .int .u8 0, .int .u8 0, .int .u8 0, .int .u8 0, .int .u8 0, .int .u8 0, .int .u8 0, .int .u8 0, .int .u8 0, .int .u8 0, .int .u8 0, .int .u8 0, .int .u8 0, .int .u8 0, .int .u8 0, .int .u8 0, .int .u8 0, .int .u8 0, .int .u8 0, .int .u8 0, .int .u8 0] 41)).setCells w5.heap.size 0 (Bl.ints .u8 RD))) := Bl.hid (Below.trans hE5 ((Bl.below_setCells _ _ _ _ (Bl.ext_alloc _ _) (Nat.le_refl _)).mono hE5.size))
  have HX8 : Hid (W4.heap.size ≤ w5.heap.size ∧ w5.heap.size < ((w5.alloc (.cells #[.int .u8 0, .int .u8 0, .int .u8 0, .int .u8 0, .int .u8 0, .int .u8 0, .int .u8 0, .int .u8 0, .int .u8 0, .int .u8 0, .int .u8 0, .int .u8 0, .int .u8 0, .int .u8 0, .int .u8 0, .int .u8 0, .int .u8 0, .int .u8 0, .int .u8 0, .int .u8 0, .int .u8 0, .int .u8 0, .int .u8 0, .int .u8 0, .int .u8 0, .int .u8 0, .int .u8 0, .int .u8 0, .int .u8 0, .int .u8 0, .int .u8 0, .int .u8 0] 41)).setCells w5.heap.size 0 (Bl.ints .u8 RD)).heap.size) := Bl.hid ⟨hE5.size, HBx.out.lt⟩
  clear hE5 hRD hRDl
  go_wp2_with (with_reducible refine Bl.stop_store (ty := 41) ?_)
  refine Bl.go_on ?_
  refine Bl.wpL_store0 rfl rfl Hst.out ?_
  clear Hst HFz
  obtain ⟨W6, hW6⟩ : ∃ W6, W6 = (w5.alloc (.cells #[.int .u8 0, .int .u8 0, .int .u8 0, .int .u8 0, .int .u8 0, .int .u8 0, .int .u8 0, .int .u8 0, .int .u8 0, .int .u8 0, .int .u8 0, .int .u8 0, .int .u8 0, .int .u8 0, .int .u8 0, .int .u8 0, .int .u8 0, .int .u8 0, .int .u8 0, .int .u8 0, .int .u8 0, .int .u8 0, .int .u8 0, .int .u8 0, .int .u8 0, .int .u8 0, .int .u8 0, .int .u8 0, .int .u8 0, .int .u8 0, .int .u8 0, .int .u8 0] 41)).setCells w5.heap.size 0 (Bl.ints .u8 RD) := ⟨_, rfl⟩
  obtain ⟨X8, hX8⟩ : ∃ X8, X8 = w5.heap.size := ⟨_, rfl⟩
  rw [← hW6] at HBx HE6a HX8 ⊢
  rw [← hX8] at HBx HX8 ⊢
  clear hW6 hX8
  have HE6 := Bl.hid (HE4.out.trans HE6a.out)
  have HI6 : Hid (∃ N Q, Bl.HoI bs w.heap.size X8 b N Q (Bl.hanS Bl.sh0 (Bl.putT bs)) W6) := Bl.hid (by
    obtain ⟨N, Q, h1, h2, h3⟩ := HI0.out
    refine ⟨N, Q, h1.ext HE6a.out, HIa.out.2, HIa.out.1, h2, fun i q => ⟨(h3 i q).1, Nat.lt_of_lt_of_le (h3 i q).2 HE6a.out.size⟩, fun q => ?_, Hb.out.1⟩
    have := (h3 _ (h2 _ q)).2
    have := HX8.out.1
    omega)
  clear HI0 HIa HE6a HE4 HE2
  go_wp2_with fail
  go_loopw [48] (fun x wr => ∃ (k : Nat) (s : Bl.ShT) (N Q : Nat → Prop), k ≤ n1 ∧ x = .int .i64 k ∧ Hid (Bl.HoI bs w.heap.size X8 b N Q s wr) ∧ Hid (Bl.BoxD wr X8 RD) ∧ Bl.Ext w wr) (fun x _ => n1 - (intOf x).toNat)
  case atStart =>
    obtain ⟨N, Q, h⟩ := HI6.out
    exact ⟨0, _, N, Q, Nat.zero_le _, rfl, Bl.hid h, HBx, HE6.out⟩
  case round =>
    obtain ⟨k, s, N, Q, hk, rfl, HI, HBr, hE⟩ := hrel
    have HE := Bl.hid hE
    clear hE
    by_cases hlt : k < n1
    · have hkl : k < X.length := by rw [← Hn1.out]; exact hlt
      have hRX := HX.out.ext HE.out
      rw [Hn1.out] at hRX
      obtain ⟨g, o, cc, hpe, hcn, hcm, hgl, hel⟩ := hRX.pos (by omega)
      injection hpe with hp1 hp2 hp3
      subst hp1 hp3
      have hrg := hel k hkl
      have hmem := Bl.getD_mem Bl.lv0 hkl
      obtain ⟨Lw, hLw⟩ := HX.out.ok _ hmem
      obtain ⟨⟨l, zp, zs, zb⟩, hx⟩ : ∃ x, x = X.getD k Bl.lv0 := ⟨_, rfl⟩
      rw [← hx] at hrg hLw
      have HLw := Bl.hid hLw
      obtain ⟨cx, hcx⟩ : ∃ cx, cx = Bl.cL l zp zs zb := ⟨_, rfl⟩
      have hrg' : wr.rangeAt g (o + k * 9) cx := by rw [hcx]; exact hrg
      have Hld := Bl.hid (run_loadAt_mid (P := Tryd.prog) wr g (o + k * 9) 26 _ _ hrg' Tryd.underlying26 rfl (by rw [hcx]; kernel_rfl))
      obtain ⟨hB7, hE7⟩ := Bl.BoxC.fresh (cs := cx) wr 26 Bl.zL (by rw [hcx]; rfl) (by rw [hcx]; exact Bl.cL_ne _ _ _ _)
      have Hst := Bl.hid (Bl.fresh_store (P := Tryd.prog) (cs := cx) wr 26 Bl.zL (by rw [hcx]; rfl) (by rw [hcx]; exact hLw.one) (ty := 26) (by rw [hcx]; kernel_rfl))
      have HB7 := Bl.hid hB7
      have HE7a := Bl.hid hE7
      have HE7 := Bl.hid (HE.out.trans hE7)
      have Hcx := Bl.hid hcx
      have hk0 : (0 : Int) ≤ (k : Int) := by omega
      have hk1 : (k : Int) < (n1 : Int) := by omega
      clear hel hrg hrg' hx hB7 hE7 hcn hcm hRX hmem hLw hcx hkl
      go_wp2_with (with_reducible refine Bl.stop_load (ty := 26) ?_)
      refine Bl.go_on ?_
      refine Bl.wpL_load rfl Hld.out ?_
      go_wp2_with (with_reducible refine Bl.stop_store (ty := 26) ?_)
      refine Bl.go_on ?_
      refine Bl.wpL_store0 rfl rfl Hst.out ?_
      obtain ⟨W7, hW7⟩ : ∃ W7, W7 = (wr.alloc (.cells Bl.zL 26)).setCells wr.heap.size 0 cx := ⟨_, rfl⟩
      obtain ⟨X7, hX7⟩ : ∃ X7, X7 = wr.heap.size := ⟨_, rfl⟩
      rw [← hW7] at HB7 HE7 HE7a ⊢
      rw [← hX7] at HB7 ⊢
      have HX7 : Hid (X7 = wr.heap.size ∧ X7 < W7.heap.size) := Bl.hid ⟨hX7, HB7.out.lt⟩
      clear hW7 hX7 Hst Hld hgl
      have HI7 := Bl.hid (HI.out.ext HE7a.out)
      have HB7x := Bl.hid (HBr.out.ext HE7a.out)
      have Hl7 := Bl.hid (HB7.out.load (P := Tryd.prog) Tryd.underlying26 rfl (by rw [Hcx.out]; kernel_rfl))
      have hLtV : Bl.LtV W7 (.agg cx.toArray) l := by rw [Hcx.out]; exact Bl.LtV.mk' (HLw.out.ext HE7.out)
      have HLt := Bl.hid hLtV
      clear hLtV HE7a
      go_wp2_with (with_reducible refine Bl.stop_load (ty := 26) ?_)
      refine Bl.go_on ?_
      refine Bl.wpL_load rfl Hl7.out ?_
      go_wp2_with fail
      refine (long22_any _ l W7 HLt.out).mono ?_
      rintro e w8 ⟨hor, hE8⟩
      have HE8a := Bl.hid hE8
      have HE8 := Bl.hid (HE7.out.trans hE8)
      have HB8 := Bl.hid (HB7.out.ext hE8)
      have HI8 := Bl.hid (HI7.out.ext hE8)
      have HB8x := Bl.hid (HB7x.out.ext hE8)
      have HX8' : Hid (X7 < w8.heap.size ∧ X8 < w8.heap.size ∧ ¬ Q X7) := Bl.hid ⟨Nat.lt_of_lt_of_le HX7.out.2 hE8.size, HB8x.out.lt, fun q => by have := (HI.out.2.2.2.2.1 _ (HI.out.2.2.2.1 _ q)).2; have := HX7.out.1; omega⟩
      clear hE8 HB7 HI7 HB7x Hl7 HLt HE7 HI
      rcases hor with rfl | ⟨rfl, hl8⟩
      · go_wp2_with fail
        go_ret
        exact ⟨rfl, HE8.out⟩
      have Hl8 := Bl.hid (HB8.out.load (P := Tryd.prog) Tryd.underlying26 rfl (by rw [Hcx.out]; kernel_rfl))
      have HLw8 : Hid (Bl.LtW N w8 (.agg cx.toArray) l) := Bl.hid (by rw [Hcx.out]; exact HLw.out.ltw HE8.out fun i q => (HI8.out.2.2.2.2.1 i q).1)
      have HHa := Bl.hid (shan_any b N Q s _ l w8 S a HI8.out.1 HI8.out.2.1 HI8.out.2.2.2.1 (fun i q => (HI8.out.2.2.2.2.1 i q).2) HLw8.out (Hg.out.ext HE8.out).s (He.out.ext HE8.out) HS.out.1 HS.out.2.1 HS.out.2.2.1 HS.out.2.2.2.1 HS.out.2.2.2.2.1)
      clear hl8 HLw8
      go_wp2_with (with_reducible refine Bl.stop_load (ty := 26) ?_)
      refine Bl.go_on ?_
      refine Bl.wpL_load rfl Hl8.out ?_
      go_wp2_with fail
      refine HHa.out.mono ?_
      rintro e w9 ⟨vp, vs, vb, L, rfl, hLf, hGo⟩
      obtain ⟨ca, hca⟩ : ∃ ca, ca = Bl.cL (Bl.hanL s l).1 vp vs vb := ⟨_, rfl⟩
      obtain ⟨hB10, hE10⟩ := Bl.BoxC.fresh (cs := ca) w9 26 Bl.zL (by rw [hca]; rfl) (by rw [hca]; exact Bl.cL_ne _ _ _ _)
      have Hst := Bl.hid (Bl.fresh_store (P := Tryd.prog) (cs := ca) w9 26 Bl.zL (by rw [hca]; rfl) (by rw [hca]; exact hLf.ltc.one) (ty := 26) (by rw [hca]; kernel_rfl))
      have hE9 : Bl.Ext w w9 := Below.trans HE8.out (hGo.1.below HE8.out.size fun i q => (HI8.out.2.2.2.2.1 i (HI8.out.2.2.2.1 i q)).1)
      have HE10 := Bl.hid (hE9.trans hE10)
      have hbl : ∀ q ∈ l.blocks, Bl.Byt q := HLw.out.by'
      have HI10 : Hid (∃ N' Q', Bl.HoI bs w.heap.size X8 b N' Q' (Bl.hanS s l) ((w9.alloc (.cells Bl.zL 26)).setCells w9.heap.size 0 ca)) := Bl.hid (HI8.out.go hGo hE10 HX8'.out.2.1 HE8.out.size (HI8.out.2.1.han hbl) (Bl.getO_hanS HI8.out.2.2.1))
      have HB10x : Hid (Bl.BoxD ((w9.alloc (.cells Bl.zL 26)).setCells w9.heap.size 0 ca) X8 RD) := Bl.hid ((HB8x.out.same (hGo.1.block _ HX8'.out.2.1 HI8.out.2.2.2.2.2.1)).ext hE10)
      have HBl := Bl.hid ((hGo.1.box HX8'.out.2.2 HB8.out).ext hE10)
      have HLa := Bl.hid (hLf.ltc.ext hE10)
      have HBa := Bl.hid hB10
      have Hca := Bl.hid hca
      have HIds := Bl.hid (Bl.hanL_ids (s := s) (l := l))
      have HHo := Bl.hid (fun h1 h2 => Bl.hon_han (s := s) (l := l) (bs := bs) HI8.out.2.2.1 h1 h2)
      obtain ⟨A, hA⟩ : ∃ A, A = (Bl.hanL s l).1 := ⟨_, rfl⟩
      obtain ⟨is, his⟩ : ∃ is, is = (Bl.hanL s l).2 := ⟨_, rfl⟩
      rw [← his] at HIds HHo ⊢
      rw [← hA] at HIds HHo HLa Hca ⊢
      rw [← hA] at hca
      rw [← hca]
      clear hLf hGo hB10 hE10 hE9 hbl hA his hca HHa HB8 HB8x HX8' HI8 HE8 HE8a Hl8
      go_wp2_with (with_reducible refine Bl.stop_store (ty := 26) ?_)
      refine Bl.go_on ?_
      refine Bl.wpL_store0 rfl rfl Hst.out ?_
      obtain ⟨W10, hW10⟩ : ∃ W10, W10 = (w9.alloc (.cells Bl.zL 26)).setCells w9.heap.size 0 ca := ⟨_, rfl⟩
      obtain ⟨Xa, hXa⟩ : ∃ Xa, Xa = w9.heap.size := ⟨_, rfl⟩
      rw [← hW10] at HE10 HI10 HB10x HBl HLa HBa ⊢
      rw [← hXa] at HBa ⊢
      clear hW10 hXa Hst
      cases is
      case false =>
        go_wp2_with fail
        go_roundw
        case rel =>
          obtain ⟨N', Q', h⟩ := HI10.out
          exact ⟨k + 1, _, N', Q', by omega, by go_num, Bl.hid h, HB10x, HE10.out⟩
        case measure => simp [intOf]; omega
      obtain ⟨hid1, hid2⟩ := HIds.out rfl
      have hl1 := HBl.out.cell (i := 1) (v := .int .i64 l.id) (by rw [Hcx.out]; rfl)
      have hl2 := HBl.out.cell (i := 2) (v := .int .i64 l.obj) (by rw [Hcx.out]; rfl)
      have ha1 := HBa.out.cell (i := 1) (v := .int .i64 l.id) (by rw [Hca.out, ← hid1]; rfl)
      have ha2 := HBa.out.cell (i := 2) (v := .int .i64 l.obj) (by rw [Hca.out, ← hid2]; rfl)
      obtain ⟨li, hli⟩ : ∃ li, li = l.id := ⟨_, rfl⟩
      obtain ⟨lo, hlo⟩ : ∃ lo, lo = l.obj := ⟨_, rfl⟩
      rw [← hli] at hl1 ha1
      rw [← hlo] at hl2 ha2
      have Hlo := Bl.hid hlo
      clear hid1 hid2 hli hlo HIds
      by_cases hob : lo = 0
      case neg =>
        go_wp2_with fail
        clear hl1 hl2 ha1 ha2
        go_roundw
        case rel =>
          obtain ⟨N', Q', h⟩ := HI10.out
          exact ⟨k + 1, _, N', Q', by omega, by go_num, Bl.hid h, HB10x, HE10.out⟩
        case measure => simp [intOf]; omega
      subst hob
      have HH := Bl.hid (HHo.out Hlo.out.symm rfl)
      obtain ⟨pp, cp, hzp, hcp1, hcp2⟩ := HLw.out.pl.form
      obtain ⟨ps, cs, hvs, hcs1, hcs2⟩ := HLa.out.sh.rd.form
      obtain ⟨pb, cb, hvb, hcb1, hcb2⟩ := HLa.out.bl.form
      have hLs : L.length = A.shown.length := by rw [← HLa.out.sl, List.length_map]
      have ha0 := HBa.out.cell (i := 0) (v := .int .i64 A.kind) (by rw [Hca.out]; rfl)
      have ha4 := HBa.out.cell (i := 4) (v := .slice ps L.length cs) (by rw [Hca.out, ← hvs]; rfl)
      have hl3 := HBl.out.cell (i := 3) (v := .slice pp l.places.length cp) (by rw [Hcx.out, ← hzp]; rfl)
      have HPl : Hid (Bl.Rd w .i64 (.slice pp l.places.length cp) l.places) := Bl.hid (by rw [← hzp]; exact HLw.out.pl)
      have HLS : Hid (Bl.RdS W10 (.slice ps L.length cs) L) := Bl.hid (by rw [← hvs]; exact HLa.out.sh)
      have HLB : Hid (Bl.Rdss W10 (.slice pb A.blocks.length cb) A.blocks) := Bl.hid (by rw [← hvb]; exact HLa.out.bl)
      have HBy := Bl.hid HLa.out.by'
      have Ha5 := Bl.hid (HBa.out.cell (i := 5) (v := .int .i64 A.frm) (by rw [Hca.out]; rfl))
      have Ha7 := Bl.hid (HBa.out.cell (i := 7) (v := .slice pb A.blocks.length cb) (by rw [Hca.out, ← hvb]; rfl))
      have HLs := Bl.hid (And.intro hLs HLa.out.sl)
      have Hl3 := Bl.hid hl3
      obtain ⟨nS, hnS⟩ : ∃ nS, nS = L.length := ⟨_, rfl⟩
      obtain ⟨nP, hnP⟩ : ∃ nP, nP = l.places.length := ⟨_, rfl⟩
      obtain ⟨nB, hnB⟩ : ∃ nB, nB = A.blocks.length := ⟨_, rfl⟩
      obtain ⟨ak, hak⟩ : ∃ ak, ak = A.kind := ⟨_, rfl⟩
      have hle : ¬ ((nP : Int) < (nS : Int)) := by have := HH.out.le; rw [hnP, hnS, hLs]; omega
      have Hnk : Hid (ak = 4 → (nS : Int) = (nP : Int)) := Bl.hid fun h => by
        rw [hnP, hnS, hLs]
        exact Decidable.byContradiction fun q => HH.out.kd ⟨by rw [← hak]; exact h, q⟩
      rw [← hak] at ha0
      rw [← hnS] at ha4 HLS
      rw [← hnP] at hl3 Hl3 HPl
      rw [← hnB] at HLB Ha7
      rw [← hnP] at hzp
      have HzP := Bl.hid hzp
      have HnS := Bl.hid hnS
      have Hak := Bl.hid hak
      have HnP := Bl.hid hnP
      have HnB := Bl.hid hnB
      unfold maxLen at hcs2 hcb2 hcp2
      have hm23 : nS ≤ 9223372036854775807 := by rw [HnS.out]; omega
      clear hzp hvs hvb hLs hnS hnP hnB hak hcp1 hcs1 hcb1 HHo hcs2
      have HLd8 : Hid (∀ w2, Bl.Ext W10 w2 → (Instr.loadAt 41 (.pointer (some ⟨X8, 0, none⟩))).run Tryd.prog w2 = .ok (.agg (Bl.ints .u8 RD).toArray) w2) := Bl.hid fun w2 h2 => (HB10x.out.ext h2).load Tryd.underlying41 (by kernel_rfl)
      have H45 : Hid ((ak = 4 → nB = 0) ∧ (¬ ak = 4 → nS = 0)) := Bl.hid ⟨fun q => by rw [HnB.out]; exact HH.out.k4 (Hak.out ▸ q), fun q => by rw [HnS.out, HLs.out.1]; exact HH.out.k5 (Hak.out ▸ q)⟩
      by_cases hk4 : ak = 4
      case pos =>
        have hnn := Hnk.out hk4
        have HB0 := Bl.hid (H45.out.1 hk4)
        go_wp2_with fail
        clear ha0 ha4 hl3 hl1 hl2 ha1 ha2
        go_loopw [120] (fun y wq => ∃ j : Nat, j ≤ nS ∧ y = .int .i64 j ∧ Bl.Ext W10 wq) (fun y _ => nS - (intOf y).toNat)
        case atStart => exact ⟨0, Nat.zero_le _, rfl, Below.refl _ _⟩
        case round =>
          obtain ⟨j, hj, rfl, hE⟩ := hrel
          have HEq := Bl.hid hE
          have HEw := Bl.hid (HE10.out.trans hE)
          clear hE
          by_cases hlt2 : j < nS
          · have hjL : j < L.length := by rw [← HnS.out]; exact hlt2
            have hRq := HLS.out.ext HEq.out
            rw [HnS.out] at hRq
            obtain ⟨g2, o2, c2, hpe2, _, _, hgl2, hel2⟩ := hRq.pos (by omega)
            injection hpe2 with hq1 hq2 hq3
            subst hq1 hq3
            clear hq2
            have hrg := hel2 j hjL
            have hok := HLS.out.ok _ (Bl.getD_mem Bl.s0 hjL)
            have hjA : j < A.shown.length := by rw [← HLs.out.1]; exact hjL
            have hpl : A.shown.getD j Bl.h0 = Bl.plS (L.getD j Bl.s0) := by rw [← HLs.out.2]; exact Bl.plS_getD L j
            obtain ⟨f1, f2, f3, f4, f5⟩ := HH.out.sh j hjA
            rw [hpl] at f1 f2 f3 f4 f5
            obtain ⟨⟨pz, ⟨vst, st⟩, vpa, pa⟩, hx⟩ : ∃ x, x = L.getD j Bl.s0 := ⟨_, rfl⟩
            rw [← hx] at hrg hok f1 f2 f3 f4 f5
            have f1' : pz = l.places.getD j 0 := f1
            have f2' : 0 ≤ pz := f2
            have f3' : pz < bs.length := f3
            have f4' : st = bs.getD pz.toNat [] := f4
            have f5' : pa = Bl.pathD bs pz.toNat := f5
            clear f1 f2 f3 f4 f5 hx hpl hel2 hRq
            obtain ⟨q, rfl⟩ := Int.eq_ofNat_of_zero_le f2'
            rw [Int.toNat_natCast] at f4' f5'
            have hqb : q < bs.length := by omega
            have hqn : q < n := by rw [Hn.out]; exact hqb
            obtain ⟨p1, c1, hvst, _, _⟩ := hok.st.form
            obtain ⟨p2, c2, hvpa, _, _⟩ := hok.pa.form
            have hst1 : vst = .slice p1 st.length c1 := hvst
            have hpa1 : vpa = .slice p2 pa.length c2 := hvpa
            subst hst1
            subst hpa1
            have HSt : Hid (Bl.Rd W10 .u8 (.slice p1 st.length c1) st) := Bl.hid hok.st
            have HPa : Hid (Bl.RdD W10 (.slice p2 pa.length c2) pa) := Bl.hid hok.pa
            have HBs : Hid (Bl.Byt st ∧ Bl.Dig pa) := Bl.hid ⟨hok.bs, hok.dg⟩
            obtain ⟨cx3, hcx3⟩ : ∃ cx3 : List Value, cx3 = [.int .i64 (q : Int), .slice p1 st.length c1, .slice p2 pa.length c2] := ⟨_, rfl⟩
            have hrg' : wr.rangeAt g2 (o2 + j * 3) cx3 := by rw [hcx3]; exact hrg
            have Hld := Bl.hid (run_loadAt_mid (P := Tryd.prog) wr g2 (o2 + j * 3) 46 _ _ hrg' Tryd.underlying46 rfl (by rw [hcx3]; kernel_rfl))
            obtain ⟨hB11, hE11⟩ := Bl.BoxC.fresh (cs := cx3) wr 46 Bl.zSh (by rw [hcx3]; rfl) (by rw [hcx3]; exact List.cons_ne_nil _ _)
            have Hst := Bl.hid (Bl.fresh_store (P := Tryd.prog) (cs := cx3) wr 46 Bl.zSh (by rw [hcx3]; rfl) (by rw [hcx3]; intro c hc; simp only [List.mem_cons, List.not_mem_nil, or_false] at hc; rcases hc with rfl | rfl | rfl <;> rfl) (ty := 46) (by rw [hcx3]; kernel_rfl))
            have HB11 := Bl.hid hB11
            have HE11q := Bl.hid (HEq.out.trans hE11)
            have HE11 := Bl.hid (HEw.out.trans hE11)
            have Hcx3 := Bl.hid hcx3
            have hj0 : (0 : Int) ≤ (j : Int) := by omega
            have hj1 : (j : Int) < (nS : Int) := by omega
            have hjP : j < nP := by omega
            -- the place, and the block that was put
            have hRp := HPl.out.ext HE11.out
            obtain ⟨bp, op, cp', hpp, _, _, hbpl, hpc⟩ := Bl.Rds.pos hRp (by rw [← HnP.out]; omega) (fun q => by have := congrArg List.length q; rw [Bl.ints_length, ← HnP.out] at this; simp at this; omega)
            injection hpp with hpp1 hpp2 hpp3
            subst hpp1 hpp3
            clear hpp2
            have hcp := hpc j (.int .i64 (q : Int)) (by rw [Bl.ints_get _ _ _ (by rw [← HnP.out]; exact hjP), ← f1'])
            obtain ⟨bb, ob, hpe, hbl, hcell0⟩ := Bl.Rdss.cell' (ps := bs) (n := n) (by have := Hv.out.ext HE11.out; rw [Hn.out] at this ⊢; exact this) Hwl.out q hqb
            subst hpe
            have hRk0 := Hws.out q hqb
            obtain ⟨pk, ck, hfk, _, _⟩ := hRk0.form
            rw [← f4'] at hfk hRk0
            rw [hfk] at hcell0
            have HRk : Hid (Bl.Rd w .u8 (.slice pk st.length ck) st) := Bl.hid (by rw [← hfk]; exact hRk0)
            have HCk : Hid (∀ w2, Bl.Ext W10 w2 → Calls Tryd.prog 13 #[.agg (Bl.ints .u8 RD).toArray, .int .i64 n, .int .i64 q, .slice p1 st.length c1, .slice p2 pa.length c2] w2 fun e w' => e = .returned .nilIface ∧ Bl.Ext w2 w') := Bl.hid fun w2 h2 => by
              have h := pcheck_any RD n q _ _ st pa w2 S a (He.out.ext (HE10.out.trans h2)) HS.out.1 HS.out.2.2.2.2.1 HS.out.2.2.2.2.2 HRDl.out (HSt.out.ext h2) HBs.out.1 (by rw [f4']; have := Hn60.out; have h16 := (HI10.out.choose_spec.choose_spec.2.1.get HI10.out.choose_spec.choose_spec.2.2.1).2.2 _ (Bl.getD_mem [] hqb); omega) (Bl.Rds.ext HPa.out h2) HBs.out.2 (Hg.out.ext (HE10.out.trans h2)).s
              have hz := Bl.chk_pathD bs (q : Int) (by omega) f3' (by have := Hn60.out; omega)
              rw [Int.toNat_natCast, ← f4', ← f5', ← HRD.out, ← Hn.out] at hz
              rw [hz, errN_zero] at h
              exact h
            have Hcva : Hid (∀ w2, Bl.Ext W10 w2 → (convert 43 9 (.slice p1 st.length c1)).run Tryd.prog w2 = .ok (.string (Bl.bstr st)) w2) := Bl.hid fun w2 h2 => Bl.conv_bytes (HSt.out.ext h2) Tryd.underlying43 Tryd.underlying5 Tryd.underlying9
            have Hcvb : Hid (∀ w2, Bl.Ext W10 w2 → (convert 43 9 (.slice pk st.length ck)).run Tryd.prog w2 = .ok (.string (Bl.bstr st)) w2) := Bl.hid fun w2 h2 => Bl.conv_bytes (HRk.out.ext (HE10.out.trans h2)) Tryd.underlying43 Tryd.underlying5 Tryd.underlying9
            have hq0 : (0 : Int) ≤ (q : Int) := by omega
            have hq1 : (q : Int) < (n : Int) := by omega
            have hqn0 : ¬ (q : Int) < 0 := by omega
            have hqn1 : ¬ (n : Int) ≤ (q : Int) := by omega
            have hqN : ¬ n ≤ q := by omega
            have hjp0 : (j : Int) < (nP : Int) := by omega
            have HBl11 := Bl.hid (HBl.out.ext HE11q.out)
            have hl3 := HBl11.out.cell (i := 3) (v := .slice (some ⟨bp, op, none⟩) nP cp) (by rw [Hcx.out]; exact congrArg some (HzP.out))
            obtain ⟨nst, hnst⟩ : ∃ nst, nst = st.length := ⟨_, rfl⟩
            obtain ⟨npa, hnpa⟩ : ∃ npa, npa = pa.length := ⟨_, rfl⟩
            rw [← hnst] at Hcx3 HCk Hcva Hcvb hcell0
            rw [← hnpa] at Hcx3 HCk
            obtain ⟨sv, hsv⟩ : ∃ sv, sv = Bl.bstr st := ⟨_, rfl⟩
            rw [← hsv] at Hcva Hcvb
            clear hRk0 hfk hrg hrg' hok hcx3 hB11 hE11 f1' f2' f3' f4' f5' hRp hpc hqb hnst hnpa hsv HSt HPa HBs HRk hjL hjA
            go_wp2_with (with_reducible refine Bl.stop_load (ty := 46) ?_)
            refine Bl.go_on ?_
            refine Bl.wpL_load rfl Hld.out ?_
            go_wp2_with (with_reducible refine Bl.stop_store (ty := 46) ?_)
            refine Bl.go_on ?_
            refine Bl.wpL_store0 rfl rfl Hst.out ?_
            obtain ⟨W11, hW11⟩ : ∃ W11, W11 = (wr.alloc (.cells Bl.zSh 46)).setCells wr.heap.size 0 cx3 := ⟨_, rfl⟩
            obtain ⟨X14, hX14⟩ : ∃ X14, X14 = wr.heap.size := ⟨_, rfl⟩
            rw [← hW11] at HB11 HE11 HE11q hcp hcell0 hl3 HBl11 hbpl hbl ⊢
            rw [← hX14] at HB11 ⊢
            clear hW11 hX14 Hst Hld
            have hx0 := HB11.out.cell (i := 0) (v := .int .i64 q) (by rw [Hcx3.out]; rfl)
            have hx1 := HB11.out.cell (i := 1) (v := .slice p1 nst c1) (by rw [Hcx3.out]; rfl)
            have hx2 := HB11.out.cell (i := 2) (v := .slice p2 npa c2) (by rw [Hcx3.out]; rfl)
            have hbX := HB11.out.lt
            have hbY := HBl11.out.lt
            go_wp2_with fail
            apply Bl.wp_region_ev 44 [125, 126, 127, 128, 129, 130, 131, 132, 133, 134, 135, 136, 137, 138, 139, 140, 141, 142, 143, 144, 145, 146, 147, 148, 149, 150, 151, 152, 153, 154, 155, 156, 157, 158, 159, 160, 161, 162, 163, 164, 165, 166, 167, 168] [Bl.eqv _, Bl.eqv _, Bl.eqv _, Bl.eqv _, Bl.eqv _, Bl.eqv _, Bl.eqv _, Bl.eqv _, Bl.eqv _, Bl.eqv _, Bl.eqv _, Bl.eqv _, Bl.eqv _, Bl.eqv _, Bl.eqv _, Bl.eqv _, Bl.eqv _, Bl.eqv _, Bl.eqv _, Bl.eqv _, Bl.eqv _, Bl.eqv _, Bl.eqv _, Bl.eqv _, Bl.eqv _, Bl.eqv _, Bl.eqv _, Bl.eqv _, Bl.eqv _, Bl.eqv _, Bl.eqv _, Bl.eqv _, Bl.eqv _, Bl.eqv _, Bl.eqv _, Bl.eqv _, Bl.eqv _, Bl.eqv _, Bl.eqv _, Bl.eqv _, Bl.eqv _, Bl.eqv _, Bl.eqv _, Bl.eqv _] (by kernel_rfl) (by kernel_rfl) (by kernel_rfl) (by kernel_rfl)
            case hsteps =>
              refine ⟨?_, ?_, ?_, ?_, ?_, ?_, ?_, ?_, ?_, ?_, ?_, ?_, ?_, ?_, ?_, ?_, ?_, ?_, ?_, ?_, ?_, ?_, ?_, ?_, ?_, ?_, ?_, ?_, ?_, ?_, ?_, ?_, ?_, ?_, ?_, ?_, ?_, ?_, ?_, ?_, ?_, ?_, ?_, ?_, trivial⟩
              all_goals
                intro ev w1 hext hb hd
                have e0 := hb 0 (by decide)
                have e8 := hb 8 (by decide)
                have e10 := hb 10 (by decide)
                have e13 := hb 13 (by decide)
                have e14 := hb 14 (by decide)
                clear hb
                simp only [Array.getD_eq_getD_getElem?, List.getElem?_toArray, List.getElem?_cons_succ, List.getElem?_cons_zero, Option.getD_some] at e0 e8 e10 e13 e14
                simp only [Bl.DepsE, List.getElem?_cons_succ, List.getElem?_cons_zero, Option.bind_some, List.getD_cons_succ, List.getD_cons_zero, Bl.eqv, and_true] at hd
                have hc := (Bl.bcell hext).1
                have r0 := (hc _ 0 hbX).trans hx0
                have r1 := (hc _ 1 hbX).trans hx1
                have r2 := (hc _ 2 hbX).trans hx2
                have r3 := (hc _ 3 hbY).trans hl3
                have r4 := (hc _ (op + j) hbpl).trans hcp
                have r5 := (hc _ (ob + q) hbl).trans hcell0
                have c1' := Hcva.out _ (HE11q.out.trans hext)
                have c2' := Hcvb.out _ (HE11q.out.trans hext)
                simp only [Bl.Good, Region.wanted, Bl.yieldE, List.getElem?_cons_succ, List.getElem?_cons_zero, Option.bind_some, hd, beq_self_eq_true, if_true]
                first
                | ((with_reducible refine Bl.ifp_load ?_ ?_ (HLd8.out _ (HE11q.out.trans hext)) ?_); (first | exact rfl | (go_simp; done) | (simp; done) | decide); exact e8; exact rfl)
                | (go_simp; first | (go_at_call 13; (with_reducible refine (HCk.out _ (HE11q.out.trans hext)).mono ?_); rintro e w2 ⟨rfl, hE2⟩; exact ⟨_, rfl, hE2, rfl⟩) | exact rfl | exact ⟨Below.refl _ _, rfl⟩ | exact ⟨Below.refl _ _, rfl⟩)
            case hmono => exact ⟨Bl.mono_eqv _, Bl.mono_eqv _, Bl.mono_eqv _, Bl.mono_eqv _, Bl.mono_eqv _, Bl.mono_eqv _, Bl.mono_eqv _, Bl.mono_eqv _, Bl.mono_eqv _, Bl.mono_eqv _, Bl.mono_eqv _, Bl.mono_eqv _, Bl.mono_eqv _, Bl.mono_eqv _, Bl.mono_eqv _, Bl.mono_eqv _, Bl.mono_eqv _, Bl.mono_eqv _, Bl.mono_eqv _, Bl.mono_eqv _, Bl.mono_eqv _, Bl.mono_eqv _, Bl.mono_eqv _, Bl.mono_eqv _, Bl.mono_eqv _, Bl.mono_eqv _, Bl.mono_eqv _, Bl.mono_eqv _, Bl.mono_eqv _, Bl.mono_eqv _, Bl.mono_eqv _, Bl.mono_eqv _, Bl.mono_eqv _, Bl.mono_eqv _, Bl.mono_eqv _, Bl.mono_eqv _, Bl.mono_eqv _, Bl.mono_eqv _, Bl.mono_eqv _, Bl.mono_eqv _, Bl.mono_eqv _, Bl.mono_eqv _, Bl.mono_eqv _, Bl.mono_eqv _, trivial⟩
            case hend =>
              intro u w1 hext hend
              simp only [Bl.EndE, List.getElem?_cons_succ, List.getElem?_cons_zero, Option.bind_some, List.getD_cons_succ, List.getD_cons_zero, Bl.eqv, true_and] at hend
              simp only [Bl.fillAct, List.setIfInBounds_toArray, List.set_cons_succ, List.set_cons_zero, List.drop_succ_cons, List.drop_zero, hend]
              have HEf := Bl.hid (HE11q.out.trans hext)
              clear hext hend
              go_wp2_with fail
              go_roundw
              case rel => exact ⟨j + 1, by omega, by go_num, HEf.out⟩
              case measure => simp [intOf]; omega
          · obtain rfl : j = nS := by omega
            have HBa7 := Bl.hid (HBa.out.ext HEq.out)
            have ha7 := (Bl.bcell HEq.out).1 _ 7 HBa.out.lt |>.trans Ha7.out
            go_wp2_with fail
            clear ha7
            go_loopw [174] (fun y wq => ∃ j : Nat, j ≤ nB ∧ y = .int .i64 j ∧ Bl.Ext W10 wq) (fun y _ => nB - (intOf y).toNat)
            case atStart => exact ⟨0, Nat.zero_le _, rfl, HEq.out⟩
            case round =>
              obtain ⟨j, hj, rfl, hE⟩ := hrel
              have HEq := Bl.hid hE
              have HEw := Bl.hid (HE10.out.trans hE)
              clear hE
              by_cases hlt3 : j < nB
              · exact absurd hlt3 (by have := HB0.out; omega)
              · obtain rfl : j = nB := by omega
                have HBy8 := Bl.hid (HB10x.out.ext HEq.out)
                go_wp2_with fail
                go_roundw
                case rel =>
                  obtain ⟨N', Q', h⟩ := HI10.out
                  exact ⟨k + 1, _, N', Q', by omega, by go_num, Bl.hid (h.ext HEq.out), HBy8, HEw.out⟩
                case measure => simp [intOf]; omega
      case neg =>
        have HS0 := Bl.hid (H45.out.2 hk4)
        go_wp2_with fail
        clear ha0 ha4 hl3 hl1 hl2 ha1 ha2
        go_loopw [120] (fun y wq => ∃ j : Nat, j ≤ nS ∧ y = .int .i64 j ∧ Bl.Ext W10 wq) (fun y _ => nS - (intOf y).toNat)
        case atStart => exact ⟨0, Nat.zero_le _, rfl, Below.refl _ _⟩
        case round =>
          obtain ⟨j, hj, rfl, hE⟩ := hrel
          have HEq := Bl.hid hE
          have HEw := Bl.hid (HE10.out.trans hE)
          clear hE
          by_cases hlt2 : j < nS
          · exact absurd hlt2 (by have := HS0.out; omega)
          · obtain rfl : j = nS := by omega
            have HBa7 := Bl.hid (HBa.out.ext HEq.out)
            have ha7 := (Bl.bcell HEq.out).1 _ 7 HBa.out.lt |>.trans Ha7.out
            go_wp2_with fail
            clear ha7
            go_loopw [174] (fun y wq => ∃ j : Nat, j ≤ nB ∧ y = .int .i64 j ∧ Bl.Ext W10 wq) (fun y _ => nB - (intOf y).toNat)
            case atStart => exact ⟨0, Nat.zero_le _, rfl, HEq.out⟩
            case round =>
              obtain ⟨j, hj, rfl, hE⟩ := hrel
              have HEq := Bl.hid hE
              have HEw := Bl.hid (HE10.out.trans hE)
              clear hE
              by_cases hlt3 : j < nB
              · have hjA : j < A.blocks.length := by rw [← HnB.out]; exact hlt3
                obtain ⟨f2, f3, f4⟩ := HH.out.bl j hjA
                obtain ⟨fr, hfr⟩ := Int.eq_ofNat_of_zero_le f2
                obtain ⟨q, hq⟩ : ∃ q, q = fr + j := ⟨_, rfl⟩
                have hqi : A.frm + (j : Int) = (q : Int) := by omega
                rw [hqi] at f3 f4
                rw [Int.toNat_natCast] at f4
                have hqb : q < bs.length := by omega
                obtain ⟨wb, hvb, hwbl, hwbs⟩ := HLB.out
                obtain ⟨b2, o2, hpe2, hbl2, hcell2⟩ := Bl.Rdss.cell' (ps := A.blocks) (n := nB) (by have := hvb.ext HEq.out; rw [HnB.out] at this ⊢; exact this) hwbl j hjA
                subst hpe2
                have hRb := hwbs j hjA
                obtain ⟨p1, c1, hf1, _, _⟩ := hRb.form
                rw [hf1] at hcell2 hRb
                obtain ⟨bb, ob, hpe, hbl, hcell0⟩ := Bl.Rdss.cell' (ps := bs) (n := n) (by have := Hv.out.ext HEw.out; rw [Hn.out] at this ⊢; exact this) Hwl.out q hqb
                subst hpe
                have hRk := Hws.out q hqb
                obtain ⟨pk, ck, hfk, _, _⟩ := hRk.form
                rw [hfk] at hcell0 hRk
                rw [← f4] at hcell0 hRk
                obtain ⟨st, hst⟩ : ∃ st, st = A.blocks.getD j [] := ⟨_, rfl⟩
                rw [← hst] at hcell0 hRk hRb hcell2
                have Hcva : Hid (∀ w2, Bl.Ext W10 w2 → (convert 43 9 (.slice p1 st.length c1)).run Tryd.prog w2 = .ok (.string (Bl.bstr st)) w2) := Bl.hid fun w2 h2 => Bl.conv_bytes (hRb.ext h2) Tryd.underlying43 Tryd.underlying5 Tryd.underlying9
                have Hcvb : Hid (∀ w2, Bl.Ext W10 w2 → (convert 43 9 (.slice pk st.length ck)).run Tryd.prog w2 = .ok (.string (Bl.bstr st)) w2) := Bl.hid fun w2 h2 => Bl.conv_bytes (hRk.ext (HE10.out.trans h2)) Tryd.underlying43 Tryd.underlying5 Tryd.underlying9
                obtain ⟨nst, hnst⟩ : ∃ nst, nst = st.length := ⟨_, rfl⟩
                rw [← hnst] at Hcva Hcvb hcell0 hcell2
                obtain ⟨sv, hsv⟩ : ∃ sv, sv = Bl.bstr st := ⟨_, rfl⟩
                rw [← hsv] at Hcva Hcvb
                obtain ⟨fm, hfm⟩ : ∃ fm, fm = A.frm := ⟨_, rfl⟩
                have ha5 := ((Bl.bcell HEq.out).1 _ 5 HBa.out.lt).trans Ha5.out
                rw [← hfm] at ha5 hqi f2
                have hq0 : (0 : Int) ≤ (q : Int) := by omega
                have hq1 : (q : Int) < (n : Int) := by rw [Hn.out]; exact f3
                have hf0 : ¬ fm < 0 := by omega
                have hqn1 : ¬ (n : Int) ≤ (q : Int) := by omega
                have hqn : q < n := by omega
                have hqN : ¬ n ≤ q := by omega
                have hwr : IntKind.i64.wrap (q : Int) = (q : Int) := by
                  have := Hn60.out
                  simp only [IntKind.wrap, IntKind.bits, IntKind.signed]
                  simp
                  omega
                have hj0 : (0 : Int) ≤ (j : Int) := by omega
                have hj1 : (j : Int) < (nB : Int) := by omega
                have hbY := HBa7.out.lt
                have hbY2 : Xa < wr.heap.size := Nat.lt_of_lt_of_le HBa.out.lt HEq.out.size
                clear f2 f3 f4 hfr hq hqb hvb hwbl hwbs hRb hf1 hRk hfk hst hnst hsv hfm hjA
                go_wp2_with fail
                apply Bl.wp_region_ev 24 [179, 180, 181, 182, 183, 184, 185, 186, 187, 188, 189, 190, 191, 192, 193, 194, 195, 196, 197, 198, 199, 200, 201, 202] [Bl.eqv _, Bl.eqv _, Bl.eqv _, Bl.eqv _, Bl.eqv _, Bl.eqv _, Bl.eqv _, Bl.eqv _, Bl.eqv _, Bl.eqv _, Bl.eqv _, Bl.eqv _, Bl.eqv _, Bl.eqv _, Bl.eqv _, Bl.eqv _, Bl.eqv _, Bl.eqv _, Bl.eqv _, Bl.eqv _, Bl.eqv _, Bl.eqv _, Bl.eqv _, Bl.eqv _] (by kernel_rfl) (by kernel_rfl) (by kernel_rfl) (by kernel_rfl)
                case hsteps =>
                  refine ⟨?_, ?_, ?_, ?_, ?_, ?_, ?_, ?_, ?_, ?_, ?_, ?_, ?_, ?_, ?_, ?_, ?_, ?_, ?_, ?_, ?_, ?_, ?_, ?_, trivial⟩
                  all_goals
                    intro ev w1 hext hb hd
                    have e0 := hb 0 (by decide)
                    have e11 := hb 11 (by decide)
                    have e15 := hb 15 (by decide)
                    have e16 := hb 16 (by decide)
                    clear hb
                    simp only [Array.getD_eq_getD_getElem?, List.getElem?_toArray, List.getElem?_cons_succ, List.getElem?_cons_zero, Option.getD_some] at e0 e11 e15 e16
                    simp only [Bl.DepsE, List.getElem?_cons_succ, List.getElem?_cons_zero, Option.bind_some, List.getD_cons_succ, List.getD_cons_zero, Bl.eqv, and_true] at hd
                    have hc := (Bl.bcell hext).1
                    have r0 := (hc _ 5 hbY2).trans ha5
                    have r5 := (hc _ (ob + q) hbl).trans hcell0
                    have c1' := Hcva.out _ (HEq.out.trans hext)
                    have c2' := Hcvb.out _ (HEq.out.trans hext)
                    simp only [Bl.Good, Region.wanted, Bl.yieldE, List.getElem?_cons_succ, List.getElem?_cons_zero, Option.bind_some, hd, beq_self_eq_true, if_true]
                    go_simp
                    first | exact rfl | exact ⟨Below.refl _ _, rfl⟩ | exact ⟨Below.refl _ _, rfl⟩
                case hmono => exact ⟨Bl.mono_eqv _, Bl.mono_eqv _, Bl.mono_eqv _, Bl.mono_eqv _, Bl.mono_eqv _, Bl.mono_eqv _, Bl.mono_eqv _, Bl.mono_eqv _, Bl.mono_eqv _, Bl.mono_eqv _, Bl.mono_eqv _, Bl.mono_eqv _, Bl.mono_eqv _, Bl.mono_eqv _, Bl.mono_eqv _, Bl.mono_eqv _, Bl.mono_eqv _, Bl.mono_eqv _, Bl.mono_eqv _, Bl.mono_eqv _, Bl.mono_eqv _, Bl.mono_eqv _, Bl.mono_eqv _, Bl.mono_eqv _, trivial⟩
                case hend =>
                  intro u w1 hext hend
                  simp only [Bl.EndE, List.getElem?_cons_succ, List.getElem?_cons_zero, Option.bind_some, List.getD_cons_succ, List.getD_cons_zero, Bl.eqv, true_and] at hend
                  simp only [Bl.fillAct, List.setIfInBounds_toArray, List.set_cons_succ, List.set_cons_zero, List.drop_succ_cons, List.drop_zero, hend]
                  have HEf := Bl.hid (HEq.out.trans hext)
                  clear hext hend
                  go_wp2_with fail
                  go_roundw
                  case rel => exact ⟨j + 1, by omega, by go_num, HEf.out⟩
                  case measure => simp [intOf]; omega
              · obtain rfl : j = nB := by omega
                have HBy8 := Bl.hid (HB10x.out.ext HEq.out)
                go_wp2_with fail
                go_roundw
                case rel =>
                  obtain ⟨N', Q', h⟩ := HI10.out
                  exact ⟨k + 1, _, N', Q', by omega, by go_num, Bl.hid (h.ext HEq.out), HBy8, HEw.out⟩
                case measure => simp [intOf]; omega
    · obtain rfl : k = n1 := by omega
      go_wp2_with fail
      go_ret
      exact ⟨rfl, HE.out⟩
end Go.Proofs.YtglenbikdahgjaaDoor
