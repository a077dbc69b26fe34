/- BlocksTorn without the program: the disk's states, one by one, and what is read at the end; and the disk's calls at nil. -/
import Derived.Test.YtniedfilhilhhaaLike
namespace Go.Proofs.Ytniedfilhilhhaa
open Go.RowKit

/-- The blocks as they are laid at first. -/
def base (k : Nat) : List (List UInt8) := (List.range k).map fun j => fill j 128
/-- The first j of them laid, noughts behind. -/
def laid (k j : Nat) : List (List UInt8) := (base k).take j ++ List.replicate (k - j) zrow
theorem base_len (k : Nat) : (base k).length = k := by simp [base]
theorem base_at (k j : Nat) (h : j < k) : (base k)[j]? = some (fill j 128) := by simp [base, h]
theorem laid_zero (k : Nat) : laid k 0 = (fresh k).l := by simp [laid, fresh_l]
theorem laid_all (k : Nat) : laid k k = base k := by
  unfold laid
  rw [List.take_of_length_le (by rw [base_len]; exact Nat.le_refl _)]
  simp
theorem laid_len (k j : Nat) (h : j ≤ k) : (laid k j).length = k := by simp [laid, base_len]; omega
theorem laid_set (k j : Nat) (h : j < k) : (laid k j).set j (fill j 128) = laid k (j + 1) := by
  unfold laid
  have hl : ((base k).take j).length = j := by simp [base_len]; omega
  have e : k - j = (k - (j + 1)) + 1 := by omega
  have hb := base_at k j h
  rw [List.set_append_right _ _ (by omega), hl, Nat.sub_self, e, List.replicate_succ, List.set_cons_zero, List.take_add_one, hb]
  simp

/-- While they are laid. -/
def dl (k j : Nat) : DS := ⟨laid k j, -1, 0, false⟩
theorem dl_write (k j : Nat) (h : j < k) : (dl k j).write (j : Int) (fill j 128) = (dl k (j + 1), 0) := by
  have hf : (dl k j).fine j = 0 := by
    unfold DS.fine
    rw [if_neg (by simp [dl]), if_neg]
    show ¬ ((j : Int) < 0 ∨ ((laid k j).length : Int) ≤ j)
    rw [laid_len k j (by omega)]
    omega
  unfold DS.write
  rw [if_neg (by rw [hf]; simp), if_neg (by rw [fill_len]; simp), if_neg (by simp [dl])]
  simp only [dl, Int.toNat_natCast, laid_set k j h]
  rfl

/-- While block b is written, s of times; t bytes of the next one will be. -/
def dw (k b s t j : Nat) : DS := ⟨if j = 0 then base k else (base k).set b (fill 99 128), (s : Int) - j, t, false⟩
theorem dw_len (k b s t j : Nat) : (dw k b s t j).l.length = k := by unfold dw; dsimp only; split <;> simp [base_len]
theorem stopped (k b s : Nat) (torn : Int) : (dl k k).stop (s : Int) torn = dw k b s (min (max torn 0) 128).toNat 0 := by
  unfold DS.stop dl dw
  rw [laid_all]
  simp
  omega
theorem dw_fine (k b s t j i : Nat) (h : i < k) : (dw k b s t j).fine (i : Int) = 0 := by
  unfold DS.fine
  rw [if_neg (by simp [dw]), if_neg (by rw [dw_len]; omega)]
theorem dw_write (k b s t j : Nat) (h : j < s) (hb : b < k) : (dw k b s t j).write (b : Int) (fill 99 128) = (dw k b s t (j + 1), 0) := by
  have hf := dw_fine k b s t j b hb
  unfold DS.write
  rw [if_neg (by rw [hf]; simp), if_neg (by rw [fill_len]; simp), if_neg (by show ¬ (s : Int) - j = 0; omega)]
  simp only [dw, Int.toNat_natCast]
  congr 1
  congr 1
  · split <;> simp
  · push_cast
    omega

/-- The block at which it stopped. -/
def torn (at_ t : Nat) : List UInt8 := (fill 200 128).take t ++ (fill at_ 128).drop t
/-- Behind that write, and a new beginning. -/
def dend (k b s t at_ : Nat) (down : Bool) (left : Int) : DS := ⟨(dw k b s t s).l.set at_ (torn at_ t), left, t, down⟩
theorem dw_at (k b s t i : Nat) (hi : i < k) (hne : i ≠ b ∨ s = 0) : (dw k b s t s).l[i]? = some (fill i 128) := by
  unfold dw
  dsimp only
  split
  · exact base_at k i hi
  · rcases hne with h | h
    · rw [List.getElem?_set_ne (by omega)]
      exact base_at k i hi
    · contradiction
theorem dend_write (k b s t at_ : Nat) (hat : at_ < k) (hne : at_ ≠ b) : (dw k b s t s).write (at_ : Int) (fill 200 128) = (dend k b s t at_ true 0, 30) := by
  have hf := dw_fine k b s t s at_ hat
  have ha := dw_at k b s t at_ hat (.inl hne)
  unfold DS.write
  rw [if_neg (by rw [hf]; simp), if_neg (by rw [fill_len]; simp), if_pos (by show (s : Int) - s = 0; omega)]
  simp only [Int.toNat_natCast, ha]
  simp only [Option.getD_some, dend, torn]
  congr 1
  simp [dw]
theorem dend_restart (k b s t at_ : Nat) : (dend k b s t at_ true 0).restart = dend k b s t at_ false (-1) := rfl
theorem dend_len (k b s t at_ : Nat) (d : Bool) (x : Int) : (dend k b s t at_ d x).l.length = k := by simp [dend, dw_len]
theorem dend_fine (k b s t at_ i : Nat) (x : Int) (h : i < k) : (dend k b s t at_ false x).fine (i : Int) = 0 := by
  unfold DS.fine
  rw [if_neg (by simp [dend]), if_neg (by rw [dend_len]; omega)]
theorem dend_read_at (k b s t at_ : Nat) (x : Int) (h : at_ < k) : (dend k b s t at_ false x).read (at_ : Int) = torn at_ t := by
  unfold DS.read
  rw [if_pos (dend_fine k b s t at_ at_ x h), Int.toNat_natCast]
  simp [dend, dw_len, h]
theorem dend_read (k b s t at_ i : Nat) (x : Int) (h : i < k) (h1 : i ≠ at_) (h2 : i ≠ b ∨ s = 0) : (dend k b s t at_ false x).read (i : Int) = fill i 128 := by
  unfold DS.read
  rw [if_pos (dend_fine k b s t at_ i x h), Int.toNat_natCast]
  unfold dend
  dsimp only
  rw [List.getElem?_set_ne (by omega), dw_at k b s t i h h2]
  rfl

theorem dread_none (w : World) (i : Int) : Calls Try.prog 18 #[.pointer none, .int .i64 i] w fun e w' => e = .returned (.tuple #[.slice none 0 0, .int .i64 1]) ∧ w = w' := by
  go_enter Try.func18, Try.ntmps18
  go_wp2_with fail
  refine (fine_none w i).mono ?_
  rintro e w1 ⟨rfl, rfl⟩
  go_wp2
  exact bodyPost_ret (v := .tuple #[.slice none 0 0, .int .i64 1]) (by simp [results, Try.results18, go_sem]) rfl ⟨rfl, rfl⟩
theorem dwrite_none (w : World) (i : Int) : Calls Try.prog 14 #[.pointer none, .int .i64 i, .slice none 0 0] w fun e w' => e = .returned (.int .i64 1) ∧ w = w' := by
  go_enter Try.func14, Try.ntmps14
  go_wp2_with fail
  refine (fine_none w i).mono ?_
  rintro e w1 ⟨rfl, rfl⟩
  go_wp2
  go_ret
  exact ⟨rfl, rfl⟩

end Go.Proofs.Ytniedfilhilhhaa
