/- Numbers of seven bits a digit: plain facts. -/
import Derived.Laws.BitsAllLaws
import Derived.Laws.BitsLemmas
namespace Go.Proofs.Ytniedfilhilhhaa

theorem pow_seven (k : Nat) : 128 ^ k = 2 ^ (7 * k) := by rw [Nat.pow_mul]

theorem digit_small {k b : Nat} (hk : k < 9 ∨ k = 9 ∧ b ≤ 1) : b % 128 * 128 ^ k < 18446744073709551616 := by
  rcases hk with hk | ⟨rfl, hb⟩
  · have h1 : 128 ^ k ≤ 128 ^ 8 := Nat.pow_le_pow_right (by decide) (by omega)
    have h2 : b % 128 ≤ 127 := by omega
    calc b % 128 * 128 ^ k ≤ 127 * 128 ^ 8 := Nat.mul_le_mul h2 h1
      _ < 18446744073709551616 := by decide
  · have h2 : b % 128 ≤ 1 := by omega
    calc b % 128 * 128 ^ 9 ≤ 1 * 128 ^ 9 := Nat.mul_le_mul_right _ h2
      _ < 18446744073709551616 := by decide

theorem pow_small {k : Nat} (hk : k ≤ 9) : 128 ^ k < 18446744073709551616 := by
  calc 128 ^ k ≤ 128 ^ 9 := Nat.pow_le_pow_right (by decide) hk
    _ < 18446744073709551616 := by decide

theorem digit_or {X k b : Nat} (hX : X < 128 ^ k) (hb : b < 256) (hk : k < 9 ∨ k = 9 ∧ b ≤ 1) :
    bits .or .u64 (X : Int) (IntKind.u64.wrap (IntKind.u64.wrap (bits .and .u8 (b : Int) 127) * 2 ^ (7 * k))) = ((X + b % 128 * 128 ^ k : Nat) : Int) := by
  have h1 := digit_small hk
  have h9 : k ≤ 9 := by omega
  have h2 := pow_small h9
  have e1 : bits .and .u8 (b : Int) 127 = ((b % 128 : Nat) : Int) := by
    rw [show (127 : Int) = ((127 : Nat) : Int) from rfl, u8_and_nat b 127 hb (by decide), nat_mask7]
  have e2 : (((b % 128 : Nat) : Int) % 18446744073709551616) = ((b % 128 : Nat) : Int) := by omega
  have e3 : ((b % 128 : Nat) : Int) * 2 ^ (7 * k) = ((b % 128 * 128 ^ k : Nat) : Int) := by rw [pow_seven]; simp
  rw [e1, IntKind.wrap_u64, IntKind.wrap_u64, e2, e3]
  rw [show (((b % 128 * 128 ^ k : Nat) : Int) % 18446744073709551616) = ((b % 128 * 128 ^ k : Nat) : Int) by omega]
  rw [u64_or_nat X _ (by omega) h1, Nat.or_comm, nat_join (7 * k) (b % 128 * 128 ^ k) X (by rw [pow_seven]; exact Nat.mul_mod_left _ _) (by rw [← pow_seven]; exact hX), Nat.add_comm]

theorem digit_lt {X k b : Nat} (hX : X < 128 ^ k) : X + b % 128 * 128 ^ k < 128 ^ (k + 1) := by
  have h2 : b % 128 ≤ 127 := by omega
  have h3 := Nat.mul_le_mul_right (128 ^ k) h2
  rw [Nat.pow_succ]
  omega

end Go.Proofs.Ytniedfilhilhhaa
