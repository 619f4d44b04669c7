/- Walks of baileeenum.SameLists, baileelaw12.Long (decided). -/
import Derived.Test.YtmfooocdnoflaaaDoorWl0
import Derived.Test.YtmfooocdnoflaaaDoorLib0
import Derived.Test.YtmfooocdnoflaaaDoorSamL
import Derived.Test.YtmfooocdnoflaaaDoorShaR
namespace Go.Proofs.YtmfooocdnoflaaaDoor
open Go.RowKit Go.Proofs

set_option maxRecDepth 100000 in
set_option maxHeartbeats 400000 in
theorem long_dec (v : Value) (ps : List (List Int)) (w : World) (most : Nat) (hR : Bl.Rdss w v ps) :
    Calls Tryd.prog 19 #[v, .int .i64 most] w fun e w' => e = .returned (.bool (Bl.longB ps most)) ∧ w' = w := by
  obtain ⟨ws, hv, hwl, hws⟩ := hR
  obtain ⟨p, c, hvf, hvn, hvc⟩ := hv.form
  subst hvf
  have Hv := Bl.hid hv
  have Hws := Bl.hid hws
  have Hwl := Bl.hid hwl
  clear hv hws hwl
  unfold maxLen at hvc
  by_cases hlong : most < ps.length
  · have Hr := Bl.hid (Bl.longB_long ps most hlong)
    go_enter Tryd.func19, Tryd.ntmps19
    go_wp2_with fail
    go_ret
    exact ⟨by rw [Hr.out]; rfl, rfl⟩
  · go_enter Tryd.func19, Tryd.ntmps19
    go_wp2_with fail
    go_loopw [13] (fun i wr => ∃ k : Nat, k ≤ ps.length ∧ i = .int .i64 k ∧ wr = w ∧ Hid (∀ j, j < k → (ps.getD j []).length ≤ 200)) (fun i _ => ps.length - (intOf i).toNat)
    case atStart => exact ⟨0, Nat.zero_le _, rfl, rfl, Bl.hid fun j hj => absurd hj (Nat.not_lt_zero _)⟩
    case round =>
      obtain ⟨k, hk, rfl, hwr, Hall⟩ := hrel
      subst hwr
      by_cases hlt : k < ps.length
      · obtain ⟨b, o, hpe, hbl, hcell⟩ := Bl.Rdss.cell' Hv.out Hwl.out k hlt
        subst hpe
        have hRk := Hws.out k hlt
        obtain ⟨bs, hbs⟩ : ∃ bs, bs = ps.getD k [] := ⟨_, rfl⟩
        rw [← hbs] at hRk
        obtain ⟨pk, ck, hfk, hnk, hck⟩ := hRk.form
        rw [hfk] at hcell
        have Hbs := Bl.hid hbs
        clear hRk hfk hbs
        by_cases h200 : (200 : Int) < (bs.length : Int)
        · have Hr := Bl.hid (Bl.longB_one ps most k hlt (by rw [← Hbs.out]; omega))
          go_wp2_with fail
          go_ret
          exact ⟨by rw [Hr.out]; rfl, rfl⟩
        · go_wp2_with fail
          go_roundw
          case rel =>
            refine ⟨k + 1, by omega, by go_num, trivial, Bl.hid fun j hj => ?_⟩
            by_cases hjk : j = k
            · subst hjk; rw [← Hbs.out]; omega
            · exact Hall.out j (by omega)
          case measure => simp [intOf]; omega
      · obtain rfl : k = ps.length := by omega
        have Hr : Hid (Bl.longB ps most = false) := Bl.hid (Bl.longB_no (by omega) (fun q hq => by
          obtain ⟨j, hj, rfl⟩ := List.getElem_of_mem hq
          have := Hall.out j hj
          rwa [List.getD_eq_getElem?_getD, List.getElem?_eq_getElem hj] at this))
        go_wp2_with fail
        go_ret
        exact ⟨by rw [Hr.out]; rfl, rfl⟩

end Go.Proofs.YtmfooocdnoflaaaDoor
