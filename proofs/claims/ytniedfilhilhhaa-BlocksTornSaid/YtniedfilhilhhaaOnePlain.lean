/- What is read as a number, whole, is what this number is put as: the plain law. -/
import Derived.Test.YtniedfilhilhhaaRead4
import Derived.Test.YtniedfilhilhhaaWrite1
namespace Go.Proofs.Ytniedfilhilhhaa

theorem fail_e {s : RS} {x : Int} (hx : x ≠ 0) : (s.fail x).e ≠ 0 := by
  unfold RS.fail
  split
  · exact hx
  · assumption

/-- A step of the reader at one byte. -/
theorem take_cons {s : RS} {b : UInt8} {t : RS} (h : s.take 1 = (t, some [b])) : s.e = 0 ∧ s.l = b :: t.l ∧ t.e = 0 := by
  by_cases he : s.e = 0
  · by_cases hl : (1 : Int) > s.l.length
    · rw [take_long he (by decide) hl] at h; injection h with _ h; cases h
    · rw [take_ok he (by decide) hl] at h
      injection h with h1 h2
      cases hs : s.l with
      | nil => rw [hs] at hl; simp at hl
      | cons c r =>
        rw [hs] at h1 h2
        simp at h2
        subst h1 h2
        exact ⟨he, by simp, he⟩
  · rw [take_err he] at h; injection h with _ h; cases h

theorem take_no {s : RS} (he : s.e = 0) (h : (s.take 1).2 = none) : (s.take 1).1.e ≠ 0 := by
  by_cases hl : (1 : Int) > s.l.length
  · rw [take_long he (by decide) hl]; exact fail_e (by decide)
  · rw [take_ok he (by decide) hl] at h; cases h

/-- The three ways of a digit. -/
theorem uintGo_step (m k : Nat) (s : RS) (X : Nat) :
    (∃ b t, s.take 1 = (t, some [b]) ∧ ((k = 9 ∧ 1 < b.toNat ∨ 0 < k ∧ b.toNat = 0) ∧ uintGo (m + 1) s k X = (t.fail 11, 0) ∨
      ¬ (k = 9 ∧ 1 < b.toNat ∨ 0 < k ∧ b.toNat = 0) ∧ b.toNat < 128 ∧ uintGo (m + 1) s k X = (t, X + b.toNat % 128 * 128 ^ k) ∨
      ¬ (k = 9 ∧ 1 < b.toNat ∨ 0 < k ∧ b.toNat = 0) ∧ ¬ b.toNat < 128 ∧ uintGo (m + 1) s k X = uintGo m t (k + 1) (X + b.toNat % 128 * 128 ^ k))) ∨
    (s.take 1).2 = none ∧ uintGo (m + 1) s k X = ((s.take 1).1, 0) := by
  rcases take_one s with ⟨b, ht⟩ | ht
  · have hs1 : s.take 1 = ((s.take 1).1, some [b]) := by rw [← ht]
    left
    refine ⟨b, _, hs1, ?_⟩
    rw [uintGo, hs1]
    simp only
    by_cases h1 : k = 9 ∧ 1 < b.toNat ∨ 0 < k ∧ b.toNat = 0
    · exact .inl ⟨h1, by rw [if_pos h1]⟩
    · by_cases h2 : b.toNat < 128
      · exact .inr (.inl ⟨h1, h2, by rw [if_neg h1, if_pos h2]⟩)
      · exact .inr (.inr ⟨h1, h2, by rw [if_neg h1, if_neg h2]⟩)
  · right
    have hs1 : s.take 1 = ((s.take 1).1, none) := by rw [← ht]
    refine ⟨ht, ?_⟩
    rw [uintGo, hs1]

theorem uintGo_lt : ∀ (m k : Nat) (s : RS) (X : Nat), m + k = 9 → X < 128 ^ k → (uintGo (m + 1) s k X).2 < 18446744073709551616 := by
  intro m
  induction m with
  | zero =>
    intro k s X hk hX
    obtain rfl : k = 9 := by omega
    rcases uintGo_step 0 9 s X with ⟨b, t, _, ⟨_, h⟩ | ⟨hb, hlt, h⟩ | ⟨hb, hlt, h⟩⟩ | ⟨_, h⟩
    · rw [h]; simp
    · rw [h]
      have : b.toNat % 128 ≤ 1 := by omega
      have h2 := Nat.mul_le_mul_right (128 ^ 9) this
      have h3 : (128 : Nat) ^ 9 = 9223372036854775808 := by decide
      simp only
      omega
    · omega
    · rw [h]; simp
  | succ m ih =>
    intro k s X hk hX
    rcases uintGo_step (m + 1) k s X with ⟨b, t, _, ⟨_, h⟩ | ⟨hb, hlt, h⟩ | ⟨hb, hlt, h⟩⟩ | ⟨_, h⟩
    · rw [h]; simp
    · rw [h]
      have h1 := digit_lt (b := b.toNat) hX
      have h2 := pow_small (k := k + 1) (by omega)
      simp only
      omega
    · rw [h]; exact ih (k + 1) t _ (by omega) (digit_lt hX)
    · rw [h]; simp
theorem uint_lt (s : RS) : s.uint.2 < 18446744073709551616 := uintGo_lt 9 0 s 0 (by omega) (by decide)

theorem ofNat_toNat (b : UInt8) : UInt8.ofNat b.toNat = b := UInt8.ofNat_toNat

/-- What was read without an error is what the number's digits are. -/
theorem uintGo_back : ∀ (m k : Nat) (s : RS) (X : Nat), m + k = 9 → (uintGo (m + 1) s k X).1.e = 0 → s.e = 0 →
    ∃ y, (0 < k → 0 < y) ∧ (uintGo (m + 1) s k X).2 = X + y * 128 ^ k ∧ s.l = put y ++ (uintGo (m + 1) s k X).1.l := by
  intro m
  induction m with
  | zero =>
    intro k s X hk he hs
    rcases uintGo_step 0 k s X with ⟨b, t, ht, ⟨_, h⟩ | ⟨hb, hlt, h⟩ | ⟨hb, hlt, h⟩⟩ | ⟨hn, h⟩
    · rw [h] at he; exact absurd he (fail_e (by decide))
    · obtain ⟨_, h2, _⟩ := take_cons ht
      rw [h]
      refine ⟨b.toNat, by omega, by rw [Nat.mod_eq_of_lt hlt], ?_⟩
      rw [put_small hlt, h2, ofNat_toNat]
      rfl
    · omega
    · rw [h] at he; exact absurd he (take_no hs hn)
  | succ m ih =>
    intro k s X hk he hs
    rcases uintGo_step (m + 1) k s X with ⟨b, t, ht, ⟨_, h⟩ | ⟨hb, hlt, h⟩ | ⟨hb, hlt, h⟩⟩ | ⟨hn, h⟩
    · rw [h] at he; exact absurd he (fail_e (by decide))
    · obtain ⟨_, h2, _⟩ := take_cons ht
      rw [h]
      refine ⟨b.toNat, by omega, by rw [Nat.mod_eq_of_lt hlt], ?_⟩
      rw [put_small hlt, h2, ofNat_toNat]
      rfl
    · obtain ⟨_, h2, h3⟩ := take_cons ht
      rw [h] at he ⊢
      obtain ⟨y, hy, hx, hl⟩ := ih (k + 1) t _ (by omega) he h3
      have hy0 := hy (by omega)
      have hb256 := b.toNat_lt
      refine ⟨b.toNat % 128 + y * 128, fun _ => by omega, ?_, ?_⟩
      · rw [hx, Nat.pow_succ, Nat.add_mul, Nat.mul_assoc, Nat.mul_comm 128 (128 ^ k)]
        omega
      · rw [put_big (by omega), h2, hl]
        have e1 : (b.toNat % 128 + y * 128) / 128 = y := by omega
        have e2 : (b.toNat % 128 + y * 128) % 128 + 128 = b.toNat := by omega
        rw [e1, e2, ofNat_toNat]
        rfl
    · rw [h] at he; exact absurd he (take_no hs hn)

/-- THE LAW: a number that is read to its end is put as the bytes that were read. -/
theorem one_law (bs : List UInt8) (h : (RS.mk bs 0).uint.1.fin = 0) : put (RS.mk bs 0).uint.2 = bs := by
  have he : (RS.mk bs 0).uint.1.e = 0 ∧ (RS.mk bs 0).uint.1.l = [] := by
    unfold RS.fin at h
    split at h
    · rename_i h'; exact absurd h h'
    · rename_i h'
      split at h
      · omega
      · rename_i hl
        exact ⟨by simpa using h', List.eq_nil_of_length_eq_zero (by omega)⟩
  obtain ⟨y, _, hx, hl⟩ := uintGo_back 9 0 ⟨bs, 0⟩ 0 (by omega) he.1 rfl
  have hl' : bs = put y := by
    have : (uintGo (9 + 1) ⟨bs, 0⟩ 0 0).1.l = [] := he.2
    rw [this] at hl
    simpa using hl
  have hx' : (RS.mk bs 0).uint.2 = y := by
    have : (RS.mk bs 0).uint.2 = (uintGo (9 + 1) ⟨bs, 0⟩ 0 0).2 := rfl
    rw [this, hx]
    simp
  rw [hx']
  exact hl'.symm

end Go.Proofs.Ytniedfilhilhhaa
