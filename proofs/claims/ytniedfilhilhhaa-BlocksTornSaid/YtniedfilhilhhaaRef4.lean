/- The reference of layer 1: Uint, walked. -/
import Derived.Test.YtniedfilhilhhaaRef3
import Derived.Test.YtniedfilhilhhaaManyPlain
namespace Go.Proofs.Ytniedfilhilhhaa
open Go.RowKit

/-- The boxes of a reference's reader: its own, and the answer's. -/
def Boxes (w wr : World) (s : RS) : Prop := Blk wr w.heap.size 76 #[.string ⟨s.l.toArray⟩, .int .i64 s.e] ∧ (∃ c, Blk wr (w.heap.size + 1) 76 #[c, .int .i64 0]) ∧ Below w.heap.size w wr

theorem ext_cons (b : UInt8) (r : List UInt8) : ByteArray.extract ⟨(b :: r).toArray⟩ 1 (r.length + 1) = ⟨r.toArray⟩ := by
  have := text_drop (b :: r) 1
  simpa using this
theorem wrap_sum {X M k b : Nat} (hM : M = 128 ^ k) (hX : X < 128 ^ k) (hk : k < 9 ∨ k = 9 ∧ b ≤ 1) : IntKind.u64.wrap ((X : Int) + IntKind.u64.wrap ((M : Int) * ((b : Int) % 128))) = ((X + b % 128 * 128 ^ k : Nat) : Int) := by
  have h1 := digit_small hk
  have h2 : X + b % 128 * 128 ^ k < 18446744073709551616 := by
    rcases hk with hk | ⟨rfl, hb⟩
    · have h3 := digit_lt (b := b) hX
      have h4 := pow_small (k := k + 1) (by omega)
      omega
    · have h3 : (128 : Nat) ^ 9 = 9223372036854775808 := by decide
      rw [h3] at hX ⊢
      have : b % 128 ≤ 1 := by omega
      omega
  have e1 : (M : Int) * ((b : Int) % 128) = ((b % 128 * 128 ^ k : Nat) : Int) := by
    rw [← hM, Nat.mul_comm]
    simp
  rw [e1, IntKind.wrap_u64, IntKind.wrap_u64]
  rw [show (((b % 128 * 128 ^ k : Nat) : Int) % 18446744073709551616) = ((b % 128 * 128 ^ k : Nat) : Int) by omega]
  omega
theorem wrap_pow {M k : Nat} (hM : M = 128 ^ k) (hk : k < 9) : IntKind.u64.wrap ((M : Int) * 128) = ((M * 128 : Nat) : Int) := by
  have h4 := pow_small (k := k + 1) (by omega)
  rw [Nat.pow_succ, ← hM] at h4
  rw [IntKind.wrap_u64]
  omega

set_option maxRecDepth 100000 in
set_option maxHeartbeats 3200000 in
theorem ruint_any (w : World) (s : RS) : Calls Try.prog 41 #[RV s] w (Tells w s.uint.1 (.int .u64 s.uint.2)) := by
  by_cases he : s.e = 0
  · have h0 : (s.e != 0) = false := by simpa using he
    have HE := Lib.hid he
    clear he
    go_enter Try.func41, Try.ntmps41
    go_wp2
    go_loopw [4, 5, 6] (fun x m i wr => ∃ (k X M : Nat) (s' : RS), k ≤ 9 ∧ i = .int .i64 k ∧ x = .int .u64 X ∧ m = .int .u64 M ∧ Hid (M = 128 ^ k) ∧ Hid (X < 128 ^ k) ∧ Hid (Blk wr w.heap.size 76 #[.string ⟨s'.l.toArray⟩, .int .i64 0] ∧ s'.e = 0) ∧ Hid (∃ c0 c1, Blk wr (w.heap.size + 1) 76 #[c0, c1]) ∧ Hid (Below w.heap.size w wr) ∧ Hid (uintGo (10 - k) s' k X = s.uint)) (fun _ _ i _ => (9 - intOf i).toNat)
    case atStart =>
      refine ⟨0, 0, 1, s, by omega, rfl, rfl, rfl, by unfold Hid; rfl, by unfold Hid; decide, ⟨?_, HE.out⟩, ⟨.string ⟨#[]⟩, .int .i64 0, by have := Blk.new (w.alloc (.cells #[.string ⟨s.l.toArray⟩, .int .i64 s.e] 76)) 76 #[.string ⟨#[]⟩, .int .i64 0]; simpa using this⟩, ((Below.refl _ _).alloc (Nat.le_refl _) _).alloc (by simp) _, rfl⟩
      have := (Blk.new w 76 #[.string ⟨s.l.toArray⟩, .int .i64 s.e]).alloc (.cells #[.string ⟨#[]⟩, .int .i64 0] 76)
      unfold Blk at this ⊢
      rw [this, HE.out]
    case round =>
      obtain ⟨k, X, M, s', hk, rfl, rfl, rfl, hM, hX, hb, hc, hB, hu⟩ := hrel
      obtain ⟨m, hm10⟩ : ∃ m, 10 - k = m + 1 := ⟨9 - k, by omega⟩
      have HM10 := Lib.hid hm10
      clear hm10
      have hs' : s' = ⟨s'.l, 0⟩ := by cases s'; simp at hb; rw [hb.out.2]
      cases hl : s'.l with
      | nil =>
        rw [hl] at hs'
        have HN : Hid (s.uint = (⟨[], 10⟩, 0)) := by unfold Hid; rw [← hu.out, HM10.out, hs']; exact step_none
        obtain ⟨hb1, he'⟩ := hb
        rw [hl] at hb1
        obtain ⟨c0, c1, hc2⟩ := hc
        have k0 := hb1.cell 0
        have k1 := hb1.cell 1
        have f0 := hb1.frozen 0
        have f1 := hb1.frozen 1
        have q0 := hc2.cell 0
        have q1 := hc2.cell 1
        have g0 := hc2.frozen 0
        have g1 := hc2.frozen 1
        simp at k0 k1 q0 q1
        have HB1 := Lib.hid hb1
        have HC2 := Lib.hid hc2
        clear hb1 hc2 he' hl hs'
        go_wp2
        refine bodyPost_ret (v := .tuple #[RV ⟨[], 10⟩, .int .u64 0]) (by simp [results, Try.results41, go_sem, q0, q1]) rfl ⟨by rw [HN.out]; rfl, ?_⟩
        exact ((hB.out.setCell (by simp) _).setCell (by simp) _).setCell (by simp) _
      | cons b r =>
        rw [hl] at hs'
        have HL' : Hid (s' = ⟨b :: r, 0⟩) := hs'
        obtain ⟨hb1, he'⟩ := hb
        rw [hl] at hb1
        obtain ⟨c0, c1, hc2⟩ := hc
        have k0 := hb1.cell 0
        have k1 := hb1.cell 1
        have f0 := hb1.frozen 0
        have f1 := hb1.frozen 1
        have q0 := hc2.cell 0
        have q1 := hc2.cell 1
        have g0 := hc2.frozen 0
        have g1 := hc2.frozen 1
        simp at k0 k1 q0 q1
        have HB1 := Lib.hid hb1
        have HC2 := Lib.hid hc2
        clear hb1 hc2 he' hl hs'
        have hix : ∀ h, (⟨(b :: r).toArray⟩ : ByteArray)[0]'h = b := fun _ => rfl
        have hex := ext_cons b r
        have hb256 : b.toNat < 256 := b.toNat_lt
        by_cases hbad : k = 9 ∧ 1 < b.toNat ∨ 0 < k ∧ b.toNat = 0
        · have HN : Hid (s.uint = (⟨r, 11⟩, 0)) := by
            unfold Hid
            rw [← hu.out, HM10.out, HL'.out, uintGo, take_of_cons]
            simp only
            rw [if_pos hbad]
            rfl
          rcases (show (k = 9 ∧ 1 < b.toNat) ∨ (0 < k ∧ k < 9 ∧ b.toNat = 0) ∨ (k = 9 ∧ b.toNat = 0) by omega) with ⟨h9, h1⟩ | ⟨h0', h9, hb0⟩ | ⟨h9, hb0⟩
          · have hn : ((k : Int) == 9) = true := by rw [beq_iff_eq]; omega
            clear hbad h9
            go_wp2
            refine bodyPost_ret (v := .tuple #[RV ⟨r, 11⟩, .int .u64 0]) (by simp [results, Try.results41, go_sem, q0, q1]) rfl ⟨by rw [HN.out]; rfl, ?_⟩
            exact (((hB.out.setCell (by simp) _).setCell (by simp) _).setCell (by simp) _).setCell (by simp) _
          · have hz : ((b.toNat : Int) == 0) = true := by simpa using hb0
            have hn : ((k : Int) == 9) = false := by rw [beq_eq_false_iff_ne]; omega
            clear hbad hb0
            go_wp2
            refine bodyPost_ret (v := .tuple #[RV ⟨r, 11⟩, .int .u64 0]) (by simp [results, Try.results41, go_sem, q0, q1]) rfl ⟨by rw [HN.out]; rfl, ?_⟩
            exact (((hB.out.setCell (by simp) _).setCell (by simp) _).setCell (by simp) _).setCell (by simp) _
          · have hz : ((b.toNat : Int) == 0) = true := by simpa using hb0
            have hn : ((k : Int) == 9) = true := by rw [beq_iff_eq]; omega
            have hle : b.toNat ≤ 1 := by omega
            have hp : 0 < k := by omega
            clear hbad hb0 h9
            go_wp2
            refine bodyPost_ret (v := .tuple #[RV ⟨r, 11⟩, .int .u64 0]) (by simp [results, Try.results41, go_sem, q0, q1]) rfl ⟨by rw [HN.out]; rfl, ?_⟩
            exact (((hB.out.setCell (by simp) _).setCell (by simp) _).setCell (by simp) _).setCell (by simp) _
        · have hsum := wrap_sum (b := b.toNat) hM.out hX.out (by omega)
          obtain ⟨X', hX'⟩ : ∃ X', X + b.toNat % 128 * 128 ^ k = X' := ⟨_, rfl⟩
          rw [hX'] at hsum
          have HXX := Lib.hid hX'
          clear hX'
          by_cases hlt : b.toNat < 128
          · have HN : Hid (s.uint = (⟨r, 0⟩, X')) := by unfold Hid; rw [← hu.out, HM10.out, HL'.out, step_last hbad hlt, HXX.out]
            rcases (show k ≤ 0 ∨ (0 < k ∧ k < 9 ∧ ¬ b.toNat = 0) ∨ (k = 9 ∧ ¬ b.toNat = 0 ∧ b.toNat ≤ 1) by omega) with h0' | ⟨h0', h9, hb0⟩ | ⟨h9, hb0, hle⟩
            · have hn : ((k : Int) == 9) = false := by rw [beq_eq_false_iff_ne]; omega
              clear hbad
              go_wp2
              refine bodyPost_ret (v := .tuple #[RV ⟨r, 0⟩, .int .u64 X']) (by simp [results, Try.results41, go_sem, q0, q1]) rfl ⟨by rw [HN.out], ?_⟩
              exact ((hB.out.setCell (by simp) _).setCell (by simp) _).setCell (by simp) _
            · have hz : ((b.toNat : Int) == 0) = false := by rw [beq_eq_false_iff_ne]; omega
              have hn : ((k : Int) == 9) = false := by rw [beq_eq_false_iff_ne]; omega
              clear hbad hb0
              go_wp2
              refine bodyPost_ret (v := .tuple #[RV ⟨r, 0⟩, .int .u64 X']) (by simp [results, Try.results41, go_sem, q0, q1]) rfl ⟨by rw [HN.out], ?_⟩
              exact ((hB.out.setCell (by simp) _).setCell (by simp) _).setCell (by simp) _
            · have hz : ((b.toNat : Int) == 0) = false := by rw [beq_eq_false_iff_ne]; omega
              have hn : ((k : Int) == 9) = true := by rw [beq_iff_eq]; omega
              have hp : 0 < k := by omega
              clear hbad hb0 h9
              go_wp2
              refine bodyPost_ret (v := .tuple #[RV ⟨r, 0⟩, .int .u64 X']) (by simp [results, Try.results41, go_sem, q0, q1]) rfl ⟨by rw [HN.out], ?_⟩
              exact ((hB.out.setCell (by simp) _).setCell (by simp) _).setCell (by simp) _
          · have HN : Hid (uintGo (m + 1) ⟨b :: r, 0⟩ k X = uintGo m ⟨r, 0⟩ (k + 1) X') := by unfold Hid; rw [step_more hbad hlt, HXX.out]
            have hk9 : k < 9 := by omega
            have hpow := wrap_pow hM.out hk9
            have HM : Hid (10 - (k + 1) = m) := by have := HM10.out; unfold Hid; omega
            rcases (show k ≤ 0 ∨ (0 < k ∧ ¬ b.toNat = 0) by omega) with h0' | ⟨h0', hb0⟩
            · have hn : ((k : Int) == 9) = false := by rw [beq_eq_false_iff_ne]; omega
              clear hbad
              go_wp2
              go_roundw
              case rel =>
                refine ⟨k + 1, X', M * 128, ⟨r, 0⟩, by omega, by go_num, rfl, by go_num, ?_, ?_, ⟨?_, rfl⟩, ⟨c0, c1, ?_⟩, hB.out.setCell (by simp) _, ?_⟩
                · unfold Hid; rw [Nat.pow_succ, hM.out]
                · unfold Hid; rw [← HXX.out]; exact digit_lt hX.out
                · simpa using HB1.out.put 0 _
                · exact HC2.out.chg (Chg.at_ wr w.heap.size 0 _) (by simp)
                · unfold Hid; rw [HM.out, ← HN.out, ← HL'.out, ← HM10.out]; exact hu.out
              case measure => simp [intOf]; omega
            · have hz : ((b.toNat : Int) == 0) = false := by rw [beq_eq_false_iff_ne]; omega
              have hn : ((k : Int) == 9) = false := by rw [beq_eq_false_iff_ne]; omega
              clear hbad hb0
              go_wp2
              go_roundw
              case rel =>
                refine ⟨k + 1, X', M * 128, ⟨r, 0⟩, by omega, by go_num, rfl, by go_num, ?_, ?_, ⟨?_, rfl⟩, ⟨c0, c1, ?_⟩, hB.out.setCell (by simp) _, ?_⟩
                · unfold Hid; rw [Nat.pow_succ, hM.out]
                · unfold Hid; rw [← HXX.out]; exact digit_lt hX.out
                · simpa using HB1.out.put 0 _
                · exact HC2.out.chg (Chg.at_ wr w.heap.size 0 _) (by simp)
                · unfold Hid; rw [HM.out, ← HN.out, ← HL'.out, ← HM10.out]; exact hu.out
              case measure => simp [intOf]; omega
  · have h0 : (s.e != 0) = true := by simpa using he
    have HN : Hid (s.uint = (s, 0)) := by
      unfold Hid RS.uint
      rw [uintGo, take_err he]
    clear he
    go_enter Try.func41, Try.ntmps41
    go_wp2
    refine bodyPost_ret (v := .tuple #[RV s, .int .u64 0]) (by simp [results, Try.results41, go_sem]) rfl ⟨by rw [HN.out]; rfl, ?_⟩
    exact ((Below.refl _ _).alloc (Nat.le_refl _) _).alloc (by simp) _

end Go.Proofs.Ytniedfilhilhhaa
