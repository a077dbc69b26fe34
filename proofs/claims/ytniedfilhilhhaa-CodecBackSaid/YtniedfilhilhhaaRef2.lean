/- The reference of layer 1: With, walked. -/
import Derived.Test.YtniedfilhilhhaaRef1
namespace Go.Proofs.Ytniedfilhilhhaa
open Go.RowKit

set_option maxRecDepth 100000 in
set_option maxHeartbeats 800000 in
theorem rwith_any (w : World) (bs : List UInt8) (hl : bs.length ≤ 200) : Calls Try.prog 30 #[.string ⟨bs.toArray⟩] w (Says w (put bs.length ++ bs)) := by
  have hp : Hid ((put bs.length).length ≤ 10) := put_ten (by omega)
  have hadd := fun W => run_text_add (P := Try.prog) W (put bs.length) bs (put bs.length ++ bs) rfl (by have := hp.out; unfold room; rw [List.length_append]; omega)
  have hs : (⟨bs.toArray⟩ : ByteArray).size = bs.length := by show bs.toArray.size = _; simp
  go_enter Try.func30, Try.ntmps30
  go_wp2_with fail
  refine (rput_any bs.length w (by unfold Hid; omega)).mono ?_
  rintro e w1 ⟨rfl, hb⟩
  have HB := Lib.hid hb
  clear hb
  go_wp2
  go_ret
  exact ⟨rfl, HB.out⟩

end Go.Proofs.Ytniedfilhilhhaa
