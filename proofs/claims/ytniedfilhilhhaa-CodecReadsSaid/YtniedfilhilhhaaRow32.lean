/- Two digests that are the same, compared. -/
import Derived.Test.YtniedfilhilhhaaRead5
import Derived.DeepKeys
namespace Go.Proofs.Ytniedfilhilhhaa
open Go.RowKit

theorem inf5 : ∃ i, Try.prog.info? 5 = some i := by
  have h := size5'
  cases hq : Try.prog.info? 5 with
  | none => rw [hq] at h; simp at h
  | some i => exact ⟨i, rfl⟩
theorem cells5 : Try.prog.cellsOf 5 = 1 := by kernel_rfl

theorem items_same (w : World) (d : Nat) (xs : List UInt8) : ∀ l : List Nat, (∀ j ∈ l, j < xs.length) → (Op.eqItems (d + 1) 5 1 (xs.map bv).toArray (xs.map bv).toArray l).run Try.prog w = .ok true w := by
  intro l
  induction l with
  | nil => intro _; simp [Op.eqItems]
  | cons j l ih =>
    intro h
    have hj := h j (by simp)
    have hp : (part 5 (xs.map bv).toArray (j * 1)).run Try.prog w = .ok (bv xs[j]) w := run_part_plain w (by kernel_rfl) (by simp [hj])
    simp only [Op.eqItems, Sem.run_bind, hp, Result.andThen_ok]
    have he : (Op.equalIn (d + 1) 5 (bv xs[j]) (bv xs[j])).run Try.prog w = .ok true w := by
      unfold bv
      rw [run_equalIn_int w d 5 .u8 .u8 _ _ Try.underlying5]
      simp
    rw [he]
    simpa using ih (fun j hj => h j (by simp [hj]))

theorem ids_same (w : World) (xs : List UInt8) (h : xs.length = 32) : (Op.equalIn 10000 86 (.agg (xs.map bv).toArray) (.agg (xs.map bv).toArray)).run Try.prog w = .ok true w := by
  obtain ⟨i, hi⟩ := inf5
  rw [show (10000 : Nat) = 9998 + 1 + 1 from rfl, run_equalIn_array w 9999 _ _ Try.underlying86 hi, cells5, items_same w 9998 xs _ (by intro j hj; simpa [h] using hj)]

end Go.Proofs.Ytniedfilhilhhaa
