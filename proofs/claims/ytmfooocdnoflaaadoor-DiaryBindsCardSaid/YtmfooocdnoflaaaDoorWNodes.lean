/- Walks of baileelaw12.alive and baileelaw12.TreeNodes. -/
import Derived.Test.YtmfooocdnoflaaaDoorWt0
import Derived.Test.YtmfooocdnoflaaaDoorBA1
import Derived.Test.YtmfooocdnoflaaaDoorLib0
namespace Go.Proofs.Bl
open Go Go.RowKit
theorem bstr_cons0 (l : List Int) : ((bstr (0 :: l)).toList == ((⟨#[0]⟩ : ByteArray) ++ bstr l).toList) = true := by
  have h : bstr (0 :: l) = (⟨#[0]⟩ : ByteArray) ++ bstr l := by
    rw [show (⟨#[0]⟩ : ByteArray) = bstr [0] from rfl, bstr_append]; rfl
  rw [h]; simp
end Go.Proofs.Bl
namespace Go.Proofs.YtmfooocdnoflaaaDoor
open Go.RowKit Go.Proofs

theorem split_5 (w : World) : Calls Tryd.prog 57 #[.int .i64 5] w fun e w' => e = .returned (.int .i64 4) ∧ w = w' :=
  (split_any 5 w (by omega)).mono fun e w' ⟨he, hw⟩ => ⟨by rw [he]; exact ret_i (by decide +kernel), hw⟩

end Go.Proofs.YtmfooocdnoflaaaDoor
