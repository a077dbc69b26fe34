/- slices.Clone over bytes: the answer owns the same bytes in memory of its own, and nothing that was there has changed. -/
import Derived.Test.YtniedfilhilhhaaProg
import Derived.Test.YtniedfilhilhhaaBase
import Derived.Lib.Hide
namespace Go.Proofs.Ytniedfilhilhhaa
open Go.RowKit

theorem info5 : (Try.prog.info? 5).map (fun i => (i.zero, i.size, i.bytes)) = some (some (.int .u8 0), 1, 1) := by kernel_rfl

/-- Behind a call that answers bytes of its own. -/
def Fresh (w : World) (bs : List UInt8) (e : Ending) (w' : World) : Prop :=
  ∃ A' c', e = .returned (.slice A' bs.length c') ∧ w'.ownsRow w.heap.size 5 1 (.slice A' bs.length c') bs.length (bs.map bv) ∧ Below w.heap.size w w'

set_option maxHeartbeats 400000 in
set_option maxRecDepth 100000 in
theorem clone_any (w : World) (Q : Nat → Prop) (A : Option Addr) (c : Nat) (bs : List UInt8) (hr : Lies w Q A (bs.map bv)) (hb : bs.length ≤ room) :
    Calls Try.prog 49 #[.slice A bs.length c] w (Fresh w bs) := by
  obtain ⟨i0, hi, hz0, hz1, hz2⟩ := info_parts info5
  cases A with
  | none =>
    have hl : bs = [] := by
      by_cases hn : bs = []
      · exact hn
      · obtain ⟨_, h', _⟩ := hr (by simpa using hn)
        cases h'
    subst hl
    clear hr hb hi hz0 hz1 hz2
    have hnil := fun (W : World) => Lib.run_eql_slice_nil (P := Try.prog) W 35 5 none 0 c 0 0 Try.underlying35
    go_enter Try.func49, Try.ntmps49
    go_wp2
    go_ret
    exact ⟨none, 0, rfl, World.ownsRow_nil _ _ _ _, Below.refl _ _⟩
  | some ad =>
    have hnil := fun (W : World) => Lib.run_eql_slice_nil (P := Try.prog) W 35 5 (some ad) bs.length c 0 0 Try.underlying35
    have HR := Lib.hid hr
    have HB := Lib.hid hb
    clear hr hb
    go_enter Try.func49, Try.ntmps49
    go_wp2_with (at_builtin; refine wpList_append_src _ rfl (.tmp 5) (.tmp 6) 35 rfl w.heap.size 5 i0 (.int .u8 0) 1 1 Try.underlying35 hi hz0 hz1 hz2 rfl (by decide) _ 0 [] rfl (World.ownsRow_made w #[] 0 (Nat.le_refl _) (Nat.zero_le _) rfl) Q (some ad) bs.length c (bs.map bv) rfl ?hl ?hs (bv_one _) ?c3 ?c4 ?c5 ?_)
    case hl => simp
    case hs => exact HR.out.chg ((Chg.refl (fun _ => False) w).alloc _) (fun _ _ h => h)
    case c3 => have := room_max HB.out; omega
    case c4 => have := room_le HB.out; omega
    case c5 => simp
    intro A' c' w1 hown hgrow _
    go_wp2
    go_ret
    refine ⟨A', c', ?_, ?_, ?_⟩
    · simp
    · simpa using hown
    · exact ((Below.refl _ _).alloc (Nat.le_refl _) _).grown hgrow (by simp) (by simp [Value.ownBlock])

end Go.Proofs.Ytniedfilhilhhaa
