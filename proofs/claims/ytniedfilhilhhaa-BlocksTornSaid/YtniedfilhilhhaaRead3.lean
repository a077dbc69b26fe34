/- The reader's number. -/
import Derived.Test.YtniedfilhilhhaaRead2
import Derived.WalkMore
import Derived.Test.YtniedfilhilhhaaNum
namespace Go.Proofs.Ytniedfilhilhhaa
open Go.RowKit

/-- The digits of a number from the i-th on, those ahead being x. -/
def uintGo : Nat → RS → Nat → Nat → RS × Nat
  | 0, s, _, x => (s, x)
  | k + 1, s, i, x =>
    match s.take 1 with
    | (t, some [c]) => if i = 9 ∧ 1 < c.toNat ∨ 0 < i ∧ c.toNat = 0 then (t.fail 11, 0) else if c.toNat < 128 then (t, x + c.toNat % 128 * 128 ^ i) else uintGo k t (i + 1) (x + c.toNat % 128 * 128 ^ i)
    | (t, _) => (t, 0)
def RS.uint (s : RS) : RS × Nat := uintGo 10 s 0 0

set_option maxRecDepth 100000 in
set_option maxHeartbeats 400000 in
theorem uint_any (w : World) (Q : Nat → Prop) (g : Nat) (s : RS) (h : Rd w Q g s) : Calls Try.prog 35 #[ptr g] w (Said1 w Q g s.uint.1 (.int .u64 s.uint.2)) := by
  have HH := Lib.hid h
  clear h
  go_enter Try.func35, Try.ntmps35
  go_wp2
  go_step3
  go_wp2
  go_step3
  go_wp2
  go_loopw [3, 4] (fun x i wr => ∃ (k X : Nat) (s' : RS), k ≤ 9 ∧ i = .int .i64 k ∧ x = .int .u64 X ∧ Hid (X < 128 ^ k) ∧ Hid (Rd wr Q g s') ∧ Hid (Chg (· = g) w wr) ∧ Hid (uintGo (10 - k) s' k X = s.uint)) (fun _ i _ => (9 - intOf i).toNat)
  case atStart => exact ⟨0, 0, s, by omega, rfl, rfl, by simp [Hid], HH, Chg.refl _ _, rfl⟩
  case round =>
    obtain ⟨k, X, s', hk, rfl, rfl, hX, hr, hc, hu⟩ := hrel
    rcases take_one s' with ⟨b, ht⟩ | ht
    · have hs1 : s'.take 1 = ((s'.take 1).1, some [b]) := by rw [← ht]
      obtain ⟨m, hm10⟩ : ∃ m, 10 - k = m + 1 := ⟨9 - k, by omega⟩
      have hb256 : b.toNat < 256 := b.toNat_lt
      by_cases hbad : k = 9 ∧ 1 < b.toNat ∨ 0 < k ∧ b.toNat = 0
      · have HN : Hid (uintGo (10 - k) s' k X = ((s'.take 1).1.fail 11, 0)) := by
          rw [hm10, uintGo, hs1]
          simp only
          rw [if_pos hbad]
          rfl
        clear hs1 hm10
        rcases (show (k = 9 ∧ 1 < b.toNat) ∨ (0 < k ∧ k < 9 ∧ b.toNat = 0) ∨ (k = 9 ∧ b.toNat = 0) by omega) with ⟨rfl, h1⟩ | ⟨h0, h9, hb0⟩ | ⟨rfl, hb0⟩
        · go_wp2_with fail
          refine (take_any _ _ _ _ _ hr.out).mono ?_
          rintro e w1 ⟨hr1, hc1, hm⟩
          have HR := Lib.hid hr1
          have HC := Lib.hid hc1
          simp only [ht] at hm
          obtain ⟨A, c, rfl, hl, _, _⟩ := hm
          obtain ⟨ad, rfl, hkk⟩ := hl.one
          clear hr1 hc1 ht hl hbad
          have hnil := fun (W : World) => Lib.run_eql_slice_nil (P := Try.prog) W 35 5 (some ad) 1 c 0 0 Try.underlying35
          go_wp2_with (go_at_call 51; refine (fail_any _ _ _ _ _ HR.out).mono ?_; rintro e w2 ⟨rfl, hr2, hc2⟩; have HR2 := Lib.hid hr2; have HC2 := Lib.hid hc2; clear hr2 hc2)
          rw [Exit.noGoto_ret]
          go_ret
          unfold Said1
          rw [← hu.out, HN.out]
          exact ⟨rfl, HR2.out, hc.out.trans (HC.out.trans HC2.out (fun _ _ h => h)) (fun _ _ h => h)⟩
        · have hz : ((b.toNat : Int) == 0) = true := by simpa using hb0
          have hn : ((k : Int) == 9) = false := by rw [beq_eq_false_iff_ne]; omega
          go_wp2_with fail
          refine (take_any _ _ _ _ _ hr.out).mono ?_
          rintro e w1 ⟨hr1, hc1, hm⟩
          have HR := Lib.hid hr1
          have HC := Lib.hid hc1
          simp only [ht] at hm
          obtain ⟨A, c, rfl, hl, _, _⟩ := hm
          obtain ⟨ad, rfl, hkk⟩ := hl.one
          clear hr1 hc1 ht hl hbad
          have hnil := fun (W : World) => Lib.run_eql_slice_nil (P := Try.prog) W 35 5 (some ad) 1 c 0 0 Try.underlying35
          go_wp2_with (go_at_call 51; refine (fail_any _ _ _ _ _ HR.out).mono ?_; rintro e w2 ⟨rfl, hr2, hc2⟩; have HR2 := Lib.hid hr2; have HC2 := Lib.hid hc2; clear hr2 hc2)
          rw [Exit.noGoto_ret]
          go_ret
          unfold Said1
          rw [← hu.out, HN.out]
          exact ⟨rfl, HR2.out, hc.out.trans (HC.out.trans HC2.out (fun _ _ h => h)) (fun _ _ h => h)⟩
        · have hz : ((b.toNat : Int) == 0) = true := by simpa using hb0
          have hle : b.toNat ≤ 1 := by omega
          go_wp2_with fail
          refine (take_any _ _ _ _ _ hr.out).mono ?_
          rintro e w1 ⟨hr1, hc1, hm⟩
          have HR := Lib.hid hr1
          have HC := Lib.hid hc1
          simp only [ht] at hm
          obtain ⟨A, c, rfl, hl, _, _⟩ := hm
          obtain ⟨ad, rfl, hkk⟩ := hl.one
          clear hr1 hc1 ht hl hbad
          have hnil := fun (W : World) => Lib.run_eql_slice_nil (P := Try.prog) W 35 5 (some ad) 1 c 0 0 Try.underlying35
          go_wp2_with (go_at_call 51; refine (fail_any _ _ _ _ _ HR.out).mono ?_; rintro e w2 ⟨rfl, hr2, hc2⟩; have HR2 := Lib.hid hr2; have HC2 := Lib.hid hc2; clear hr2 hc2)
          rw [Exit.noGoto_ret]
          go_ret
          unfold Said1
          rw [← hu.out, HN.out]
          exact ⟨rfl, HR2.out, hc.out.trans (HC.out.trans HC2.out (fun _ _ h => h)) (fun _ _ h => h)⟩
      · have HD : Hid (bits .or .u64 (X : Int) (IntKind.u64.wrap (IntKind.u64.wrap (bits .and .u8 (b.toNat : Int) 127) * 2 ^ (7 * k))) = ((X + b.toNat % 128 * 128 ^ k : Nat) : Int)) := digit_or hX.out hb256 (by omega)
        by_cases hlt : b.toNat < 128
        · have HN : Hid (uintGo (10 - k) s' k X = ((s'.take 1).1, X + b.toNat % 128 * 128 ^ k)) := by
            rw [hm10, uintGo, hs1]
            simp only
            rw [if_neg hbad, if_pos hlt]
            rfl
          rcases (show k ≤ 0 ∨ (0 < k ∧ k < 9 ∧ ¬ b.toNat = 0) ∨ (k = 9 ∧ ¬ b.toNat = 0 ∧ b.toNat ≤ 1) by omega) with h0 | ⟨h0, h9, hb0⟩ | ⟨h9, hb0, hle⟩
          · have hn : ((k : Int) == 9) = false := by rw [beq_eq_false_iff_ne]; omega
            clear hbad hs1 hm10
            go_wp2_with fail
            refine (take_any _ _ _ _ _ hr.out).mono ?_
            rintro e w1 ⟨hr1, hc1, hm⟩
            have HR := Lib.hid hr1
            have HC := Lib.hid hc1
            simp only [ht] at hm
            obtain ⟨A, c, rfl, hl, _, _⟩ := hm
            obtain ⟨ad, rfl, hkk⟩ := hl.one
            clear hr1 hc1 ht hl
            have hnil := fun (W : World) => Lib.run_eql_slice_nil (P := Try.prog) W 35 5 (some ad) 1 c 0 0 Try.underlying35
            go_wp2
            rw [Exit.noGoto_ret]
            go_ret
            unfold Said1
            rw [← hu.out, HN.out]
            exact ⟨by rw [← HD.out]; rfl, HR.out, hc.out.trans HC.out (fun _ _ h => h)⟩
          · have hz : ((b.toNat : Int) == 0) = false := by rw [beq_eq_false_iff_ne]; omega
            have hn : ((k : Int) == 9) = false := by rw [beq_eq_false_iff_ne]; omega
            clear hbad hs1 hm10 hb0
            go_wp2_with fail
            refine (take_any _ _ _ _ _ hr.out).mono ?_
            rintro e w1 ⟨hr1, hc1, hm⟩
            have HR := Lib.hid hr1
            have HC := Lib.hid hc1
            simp only [ht] at hm
            obtain ⟨A, c, rfl, hl, _, _⟩ := hm
            obtain ⟨ad, rfl, hkk⟩ := hl.one
            clear hr1 hc1 ht hl
            have hnil := fun (W : World) => Lib.run_eql_slice_nil (P := Try.prog) W 35 5 (some ad) 1 c 0 0 Try.underlying35
            go_wp2
            rw [Exit.noGoto_ret]
            go_ret
            unfold Said1
            rw [← hu.out, HN.out]
            exact ⟨by rw [← HD.out]; rfl, HR.out, hc.out.trans HC.out (fun _ _ h => h)⟩
          · have hz : ((b.toNat : Int) == 0) = false := by rw [beq_eq_false_iff_ne]; omega
            have hn : ((k : Int) == 9) = true := by rw [beq_iff_eq]; omega
            have hp : 0 < k := by omega
            clear hbad hs1 hm10 hb0 h9
            go_wp2_with fail
            refine (take_any _ _ _ _ _ hr.out).mono ?_
            rintro e w1 ⟨hr1, hc1, hm⟩
            have HR := Lib.hid hr1
            have HC := Lib.hid hc1
            simp only [ht] at hm
            obtain ⟨A, c, rfl, hl, _, _⟩ := hm
            obtain ⟨ad, rfl, hkk⟩ := hl.one
            clear hr1 hc1 ht hl
            have hnil := fun (W : World) => Lib.run_eql_slice_nil (P := Try.prog) W 35 5 (some ad) 1 c 0 0 Try.underlying35
            go_wp2
            rw [Exit.noGoto_ret]
            go_ret
            unfold Said1
            rw [← hu.out, HN.out]
            exact ⟨by rw [← HD.out]; rfl, HR.out, hc.out.trans HC.out (fun _ _ h => h)⟩
        · have HN : Hid (uintGo (m + 1) s' k X = uintGo m (s'.take 1).1 (k + 1) (X + b.toNat % 128 * 128 ^ k)) := by
            rw [uintGo, hs1]
            simp only
            rw [if_neg hbad, if_neg hlt]
            rfl
          have HM : Hid (10 - (k + 1) = m) := by unfold Hid; omega
          have HM1 : Hid (10 - k = m + 1) := hm10
          rcases (show k ≤ 0 ∨ (0 < k ∧ k < 9 ∧ ¬ b.toNat = 0) by omega) with h0 | ⟨h0, h9, hb0⟩
          · have hn : ((k : Int) == 9) = false := by rw [beq_eq_false_iff_ne]; omega
            clear hbad hs1 hm10
            go_wp2_with fail
            refine (take_any _ _ _ _ _ hr.out).mono ?_
            rintro e w1 ⟨hr1, hc1, hm⟩
            have HR := Lib.hid hr1
            have HC := Lib.hid hc1
            simp only [ht] at hm
            obtain ⟨A, c, rfl, hl, _, _⟩ := hm
            obtain ⟨ad, rfl, hkk⟩ := hl.one
            clear hr1 hc1 ht hl
            have hnil := fun (W : World) => Lib.run_eql_slice_nil (P := Try.prog) W 35 5 (some ad) 1 c 0 0 Try.underlying35
            go_wp2
            go_roundw
            case rel => exact ⟨k + 1, X + b.toNat % 128 * 128 ^ k, _, by omega, by go_num, by rw [← HD.out], digit_lt hX.out, HR.out, hc.out.trans HC.out (fun _ _ h => h), by rw [← hu.out, HM1.out, HN.out, HM.out]; rfl⟩
            case measure => simp [intOf]; omega
          · have hz : ((b.toNat : Int) == 0) = false := by rw [beq_eq_false_iff_ne]; omega
            have hn : ((k : Int) == 9) = false := by rw [beq_eq_false_iff_ne]; omega
            clear hbad hs1 hm10 hb0
            go_wp2_with fail
            refine (take_any _ _ _ _ _ hr.out).mono ?_
            rintro e w1 ⟨hr1, hc1, hm⟩
            have HR := Lib.hid hr1
            have HC := Lib.hid hc1
            simp only [ht] at hm
            obtain ⟨A, c, rfl, hl, _, _⟩ := hm
            obtain ⟨ad, rfl, hkk⟩ := hl.one
            clear hr1 hc1 ht hl
            have hnil := fun (W : World) => Lib.run_eql_slice_nil (P := Try.prog) W 35 5 (some ad) 1 c 0 0 Try.underlying35
            go_wp2
            go_roundw
            case rel => exact ⟨k + 1, X + b.toNat % 128 * 128 ^ k, _, by omega, by go_num, by rw [← HD.out], digit_lt hX.out, HR.out, hc.out.trans HC.out (fun _ _ h => h), by rw [← hu.out, HM1.out, HN.out, HM.out]; rfl⟩
            case measure => simp [intOf]; omega
    · have HN : Hid (uintGo (10 - k) s' k X = ((s'.take 1).1, 0)) := by
        obtain ⟨m, hm⟩ : ∃ m, 10 - k = m + 1 := ⟨9 - k, by omega⟩
        rw [hm, uintGo, show s'.take 1 = ((s'.take 1).1, none) by rw [← ht]]
        rfl
      go_wp2_with fail
      refine (take_any _ _ _ _ _ hr.out).mono ?_
      rintro e w1 ⟨hr1, hc1, hm⟩
      have HR := Lib.hid hr1
      have HC := Lib.hid hc1
      simp only [ht] at hm
      subst hm
      clear hr1 hc1 ht
      have hnil := fun (W : World) => Lib.run_eql_slice_nil (P := Try.prog) W 35 5 none 0 0 0 0 Try.underlying35
      go_wp2
      rw [Exit.noGoto_ret]
      go_ret
      unfold Said1
      rw [← hu.out, HN.out]
      exact ⟨rfl, HR.out, hc.out.trans HC.out (fun _ _ h => h)⟩

end Go.Proofs.Ytniedfilhilhhaa
