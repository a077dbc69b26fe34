/- Numbers put one behind the other are read one by one; cut anywhere, those that are whole: the plain law. -/
import Derived.Test.YtniedfilhilhhaaOnePlain
namespace Go.Proofs.Ytniedfilhilhhaa

theorem take_of_cons (b : UInt8) (r : List UInt8) : (RS.mk (b :: r) 0).take 1 = (⟨r, 0⟩, some [b]) := by
  rw [take_ok rfl (by decide) (by simp; omega)]
  simp
theorem take_of_nil : (RS.mk [] 0).take 1 = (⟨[], 10⟩, none) := by
  rw [take_long rfl (by decide) (by simp)]
  rfl

theorem step_more {m k X : Nat} {b : UInt8} {r : List UInt8} (h1 : ¬ (k = 9 ∧ 1 < b.toNat ∨ 0 < k ∧ b.toNat = 0)) (h2 : ¬ b.toNat < 128) :
    uintGo (m + 1) ⟨b :: r, 0⟩ k X = uintGo m ⟨r, 0⟩ (k + 1) (X + b.toNat % 128 * 128 ^ k) := by
  rw [uintGo, take_of_cons]
  simp only
  rw [if_neg h1, if_neg h2]
theorem step_last {m k X : Nat} {b : UInt8} {r : List UInt8} (h1 : ¬ (k = 9 ∧ 1 < b.toNat ∨ 0 < k ∧ b.toNat = 0)) (h2 : b.toNat < 128) :
    uintGo (m + 1) ⟨b :: r, 0⟩ k X = (⟨r, 0⟩, X + b.toNat % 128 * 128 ^ k) := by
  rw [uintGo, take_of_cons]
  simp only
  rw [if_neg h1, if_pos h2]
theorem step_none {m k X : Nat} : uintGo (m + 1) ⟨[], 0⟩ k X = (⟨[], 10⟩, 0) := by
  rw [uintGo, take_of_nil]

theorem ofNat_small {x : Nat} (h : x < 256) : (UInt8.ofNat x).toNat = x := by rw [UInt8.toNat_ofNat']; omega

theorem pow_nine {y : Nat} (h : y * 128 ^ 9 < 18446744073709551616) : y ≤ 1 := by
  have h3 : (128 : Nat) ^ 9 = 9223372036854775808 := by decide
  rw [h3] at h
  omega
theorem pow_down {y k : Nat} (h : y * 128 ^ k < 18446744073709551616) : y / 128 * 128 ^ (k + 1) < 18446744073709551616 := by
  have h1 : y / 128 * 128 ≤ y := Nat.div_mul_le_self y 128
  have h2 := Nat.mul_le_mul_right (128 ^ k) h1
  rw [Nat.pow_succ, Nat.mul_comm (128 ^ k) 128, ← Nat.mul_assoc]
  omega
theorem pow_join (X y k : Nat) : X + (y % 128 + 128) % 128 * 128 ^ k + y / 128 * 128 ^ (k + 1) = X + y * 128 ^ k := by
  have e2 : (y % 128 + 128) % 128 = y % 128 := by omega
  have e3 : y % 128 * 128 ^ k + y / 128 * 128 ^ (k + 1) = y * 128 ^ k := by
    rw [Nat.pow_succ, Nat.mul_comm (128 ^ k) 128, ← Nat.mul_assoc, ← Nat.add_mul]
    congr 1
    omega
  rw [e2, Nat.add_assoc, e3]

theorem uintGo_put : ∀ (m k y X : Nat) (r : List UInt8), m + k = 9 → (0 < k → 0 < y) → y * 128 ^ k < 18446744073709551616 → uintGo (m + 1) ⟨put y ++ r, 0⟩ k X = (⟨r, 0⟩, X + y * 128 ^ k) := by
  intro m
  induction m with
  | zero =>
    intro k y X r hk h0 hy
    obtain rfl : k = 9 := by omega
    have := pow_nine hy
    have h1 := h0 (by omega)
    rw [put_small (by omega)]
    have e := ofNat_small (x := y) (by omega)
    rw [List.singleton_append, step_last (by rw [e]; omega) (by rw [e]; omega), e, Nat.mod_eq_of_lt (by omega)]
  | succ m ih =>
    intro k y X r hk h0 hy
    by_cases hs : y < 128
    · rw [put_small hs]
      have e := ofNat_small (x := y) (by omega)
      rw [List.singleton_append, step_last (by rw [e]; omega) (by rw [e]; omega), e, Nat.mod_eq_of_lt (by omega)]
    · rw [put_big hs, List.cons_append]
      have e := ofNat_small (x := y % 128 + 128) (by omega)
      rw [step_more (by rw [e]; omega) (by rw [e]; omega), e, ih (k + 1) (y / 128) _ r (by omega) (by omega) (pow_down hy), pow_join]

theorem uintGo_cut : ∀ (m k y X j : Nat), m + k = 9 → (0 < k → 0 < y) → y * 128 ^ k < 18446744073709551616 → j < (put y).length → uintGo (m + 1) ⟨(put y).take j, 0⟩ k X = (⟨[], 10⟩, 0) := by
  intro m
  induction m with
  | zero =>
    intro k y X j hk h0 hy hj
    obtain rfl : k = 9 := by omega
    have := pow_nine hy
    rw [put_small (by omega)] at hj ⊢
    obtain rfl : j = 0 := by simpa using hj
    exact step_none
  | succ m ih =>
    intro k y X j hk h0 hy hj
    by_cases hs : y < 128
    · rw [put_small hs] at hj ⊢
      obtain rfl : j = 0 := by simpa using hj
      exact step_none
    · rw [put_big hs] at hj ⊢
      cases j with
      | zero => exact step_none
      | succ j =>
        have e := ofNat_small (x := y % 128 + 128) (by omega)
        rw [List.take_succ_cons, step_more (by rw [e]; omega) (by rw [e]; omega), e]
        exact ih (k + 1) (y / 128) _ j (by omega) (by omega) (pow_down hy) (by simpa using hj)

/-- What was put is read as it was. -/
theorem uint_put {x : Nat} (h : x < 18446744073709551616) (r : List UInt8) : (RS.mk (put x ++ r) 0).uint = (⟨r, 0⟩, x) := by
  have := uintGo_put 9 0 x 0 r (by omega) (by omega) (by omega)
  simpa [RS.uint] using this
/-- What was cut is short. -/
theorem uint_cut {x j : Nat} (h : x < 18446744073709551616) (hj : j < (put x).length) : (RS.mk ((put x).take j) 0).uint = (⟨[], 10⟩, 0) :=
  uintGo_cut 9 0 x 0 j (by omega) (by omega) (by omega) hj

/-- Numbers, one behind the other. -/
def enc (l : List Nat) : List UInt8 := (l.map put).flatten
theorem enc_snoc (l : List Nat) (i : Nat) (h : i < l.length) : enc (l.take (i + 1)) = enc (l.take i) ++ put l[i] := by
  unfold enc
  rw [List.take_succ_eq_append_getElem h]
  simp only [List.map_append, List.map_cons, List.map_nil, List.flatten_append, List.flatten_cons, List.flatten_nil, List.append_nil]
theorem enc_len (l : List Nat) (h : ∀ x ∈ l, x < 18446744073709551616) : (enc l).length ≤ 10 * l.length := by
  induction l with
  | nil => simp [enc]
  | cons a l ih =>
    have h1 := put_ten (h a (by simp))
    have h2 := ih (fun x hx => h x (by simp [hx]))
    unfold enc at h2 ⊢
    simp only [List.map_cons, List.flatten_cons, List.length_append, List.length_cons]
    omega
theorem enc_split (l : List Nat) (i : Nat) : enc l = enc (l.take i) ++ enc (l.drop i) := by
  unfold enc
  rw [← List.flatten_append, ← List.map_append, List.take_append_drop]
theorem enc_cons (l : List Nat) (i : Nat) (h : i < l.length) : enc (l.drop i) = put l[i] ++ enc (l.drop (i + 1)) := by
  unfold enc
  rw [List.drop_eq_getElem_cons h]
  simp only [List.map_cons, List.flatten_cons]

/-- What the reader has left when it comes to the i-th number. -/
def rest (l : List Nat) (k i : Nat) : List UInt8 := (enc (l.drop i)).take (k - (enc (l.take i)).length)

theorem rest_zero (l : List Nat) (k : Nat) : rest l k 0 = (enc l).take k := by simp [rest, enc]

/-- The i-th number is whole. -/
theorem rest_whole {l : List Nat} {k i : Nat} (h : i < l.length) (hx : l[i] < 18446744073709551616) (hk : (enc (l.take (i + 1))).length ≤ k) :
    (RS.mk (rest l k i) 0).uint = (⟨rest l k (i + 1), 0⟩, l[i]) := by
  have hs := enc_snoc l i h
  have hlen : (enc (l.take (i + 1))).length = (enc (l.take i)).length + (put l[i]).length := by rw [hs, List.length_append]
  have e : rest l k i = put l[i] ++ rest l k (i + 1) := by
    unfold rest
    rw [enc_cons l i h, List.take_append, List.take_of_length_le (by omega)]
    congr 2
    omega
  rw [e]
  exact uint_put hx _

/-- The i-th number is cut. -/
theorem rest_cut {l : List Nat} {k i : Nat} (h : i < l.length) (hx : l[i] < 18446744073709551616) (h0 : (enc (l.take i)).length ≤ k) (hk : k < (enc (l.take (i + 1))).length) :
    (RS.mk (rest l k i) 0).uint = (⟨[], 10⟩, 0) := by
  have hs := enc_snoc l i h
  have hlen : (enc (l.take (i + 1))).length = (enc (l.take i)).length + (put l[i]).length := by rw [hs, List.length_append]
  have e : rest l k i = (put l[i]).take (k - (enc (l.take i)).length) := by
    unfold rest
    rw [enc_cons l i h, List.take_append_of_le_length (by omega)]
  rw [e]
  exact uint_cut hx (by omega)

theorem rest_end (l : List Nat) (k : Nat) : rest l k l.length = [] := by simp [rest, enc]

end Go.Proofs.Ytniedfilhilhhaa
