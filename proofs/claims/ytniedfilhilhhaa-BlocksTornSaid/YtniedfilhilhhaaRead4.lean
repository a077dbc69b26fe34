/- The reader's row of bytes, and its digest. -/
import Derived.Test.YtniedfilhilhhaaRead3
namespace Go.Proofs.Ytniedfilhilhhaa
open Go.RowKit

theorem fail_l (s : RS) (x : Int) : (s.fail x).l = s.l := by unfold RS.fail; split <;> rfl
theorem take_le (s : RS) (n : Int) : (s.take n).1.l.length ≤ s.l.length := by
  unfold RS.take
  split
  · exact Nat.le_refl _
  · split
    · rw [fail_l]; exact Nat.le_refl _
    · split
      · rw [fail_l]; exact Nat.le_refl _
      · simp
theorem uintGo_le : ∀ (k : Nat) (s : RS) (i x : Nat), (uintGo k s i x).1.l.length ≤ s.l.length
  | 0, s, i, x => Nat.le_refl _
  | k + 1, s, i, x => by
    have h1 := take_le s 1
    rcases take_one s with ⟨b, ht⟩ | ht
    · have hs1 : s.take 1 = ((s.take 1).1, some [b]) := by rw [← ht]
      rw [uintGo, hs1]
      simp only
      split
      · rw [fail_l]; exact h1
      · split
        · exact h1
        · exact Nat.le_trans (uintGo_le k _ _ _) h1
    · have hs1 : s.take 1 = ((s.take 1).1, none) := by rw [← ht]
      rw [uintGo, hs1]
      exact h1
theorem uint_le (s : RS) : s.uint.1.l.length ≤ s.l.length := uintGo_le _ _ _ _

/-- What Bytes does. -/
def RS.bytes (s : RS) (most : Int) : RS × List UInt8 :=
  if s.uint.1.e ≠ 0 then (s.uint.1, []) else if most < 0 ∨ most < (s.uint.2 : Int) then (s.uint.1.fail 13, []) else ((s.uint.1.take s.uint.2).1, s.uint.1.got s.uint.2)

theorem gave_nil {w w' : World} {Q : Nat → Prop} {g : Nat} {s : RS} (hr : Rd w' Q g s) (hc : Chg (· = g) w w') : Gave w Q g s [] (.returned (.slice none 0 0)) w' :=
  ⟨hr, hc, none, 0, rfl, World.ownsRow_nil _ _ _ _⟩
theorem gave_more {w w1 w2 : World} {Q : Nat → Prop} {g : Nat} {s : RS} {t : List UInt8} {e : Ending} (hc : Chg (· = g) w w1) (h : Gave w1 Q g s t e w2) : Gave w Q g s t e w2 := by
  obtain ⟨h1, h2, A, c, h3, h4⟩ := h
  exact ⟨h1, hc.trans h2 (fun _ _ h => h), A, c, h3, own_base h4 hc.size⟩

theorem wrap_u64_of {x : Int} (h0 : 0 ≤ x) (h : x ≤ 9223372036854775807) : IntKind.u64.wrap x = x := by rw [IntKind.wrap_u64]; omega
theorem wrap_i64_of {n : Nat} {x : Int} (h : ¬ x < (n : Int)) (hx : x ≤ 9223372036854775807) : IntKind.i64.wrap (n : Int) = (n : Int) := by rw [IntKind.wrap_i64]; omega

set_option maxRecDepth 100000 in
set_option maxHeartbeats 400000 in
theorem bytes_any (w : World) (Q : Nat → Prop) (g : Nat) (s : RS) (most : Int) (h : Rd w Q g s) (hroom : s.l.length ≤ room) (hm : Hid (most ≤ 9223372036854775807)) :
    Calls Try.prog 36 #[ptr g, .int .i64 most] w (Gave w Q g (s.bytes most).1 (s.bytes most).2) := by
  have HH := Lib.hid h
  have HG := Lib.hid (Nat.le_trans (uint_le s) hroom)
  clear h hroom
  by_cases he : s.uint.1.e = 0
  · have h0 : (s.uint.1.e != 0) = false := by simpa using he
    by_cases hn : most < 0
    · have HB : Hid (s.bytes most = (s.uint.1.fail 13, [])) := by unfold Hid RS.bytes; rw [if_neg (by simpa using he), if_pos (.inl hn)]
      clear he
      go_enter Try.func36, Try.ntmps36
      go_wp2_with (first | (go_at_call 35; refine (uint_any _ _ _ _ HH.out).mono ?_; rintro e w1 ⟨rfl, hr, hc⟩; have HR := Lib.hid hr; have HC := Lib.hid hc; clear hr hc) | (go_at_call 40; refine (err_any _ _ _ _ HR.out).mono ?_; rintro e w' ⟨rfl, rfl⟩) | (go_at_call 51; refine (fail_any _ _ _ _ _ HR.out).mono ?_; rintro e w2 ⟨rfl, hr2, hc2⟩; have HR2 := Lib.hid hr2; have HC2 := Lib.hid hc2; clear hr2 hc2))
      go_ret
      rw [HB.out]
      exact gave_nil HR2.out (HC.out.trans HC2.out (fun _ _ h => h))
    · have hwm := wrap_u64_of (by omega : 0 ≤ most) hm.out
      by_cases hb : most < (s.uint.2 : Int)
      · have HB : Hid (s.bytes most = (s.uint.1.fail 13, [])) := by unfold Hid RS.bytes; rw [if_neg (by simpa using he), if_pos (.inr hb)]
        clear he
        go_enter Try.func36, Try.ntmps36
        go_wp2_with (first | (go_at_call 35; refine (uint_any _ _ _ _ HH.out).mono ?_; rintro e w1 ⟨rfl, hr, hc⟩; have HR := Lib.hid hr; have HC := Lib.hid hc; clear hr hc) | (go_at_call 40; refine (err_any _ _ _ _ HR.out).mono ?_; rintro e w' ⟨rfl, rfl⟩) | (go_at_call 51; refine (fail_any _ _ _ _ _ HR.out).mono ?_; rintro e w2 ⟨rfl, hr2, hc2⟩; have HR2 := Lib.hid hr2; have HC2 := Lib.hid hc2; clear hr2 hc2))
        go_ret
        rw [HB.out]
        exact gave_nil HR2.out (HC.out.trans HC2.out (fun _ _ h => h))
      · have HB : Hid (s.bytes most = ((s.uint.1.take s.uint.2).1, s.uint.1.got s.uint.2)) := by unfold Hid RS.bytes; rw [if_neg (by simpa using he), if_neg (by omega)]
        have hwi := wrap_i64_of hb hm.out
        clear he
        go_enter Try.func36, Try.ntmps36
        go_wp2_with (first | (go_at_call 35; refine (uint_any _ _ _ _ HH.out).mono ?_; rintro e w1 ⟨rfl, hr, hc⟩; have HR := Lib.hid hr; have HC := Lib.hid hc; clear hr hc) | (go_at_call 40; refine (err_any _ _ _ _ HR.out).mono ?_; rintro e w' ⟨rfl, rfl⟩) | (go_at_call 38; refine (fixed_any _ _ _ _ _ HR.out HG.out).mono ?_; rintro e w2 hv; have HV := Lib.hid hv; obtain ⟨_, _, A2, c2, rfl, _⟩ := hv))
        go_ret
        rw [HB.out]
        exact gave_more HC.out HV.out
  · have h0 : (s.uint.1.e != 0) = true := by simpa using he
    have HB : Hid (s.bytes most = (s.uint.1, [])) := by unfold Hid RS.bytes; rw [if_pos (by simpa using he)]
    clear he
    go_enter Try.func36, Try.ntmps36
    go_wp2_with (first | (go_at_call 35; refine (uint_any _ _ _ _ HH.out).mono ?_; rintro e w1 ⟨rfl, hr, hc⟩; have HR := Lib.hid hr; have HC := Lib.hid hc; clear hr hc) | (go_at_call 40; refine (err_any _ _ _ _ HR.out).mono ?_; rintro e w' ⟨rfl, rfl⟩))
    go_ret
    rw [HB.out]
    exact gave_nil HR.out HC.out

end Go.Proofs.Ytniedfilhilhhaa
