/- The reader's calls over 'take': NewReader, Fixed, Bool, End. -/
import Derived.Test.YtniedfilhilhhaaRead1
namespace Go.Proofs.Ytniedfilhilhhaa
open Go.RowKit

/-- Behind a call that answers bytes of its own, and leaves the reader so. -/
def Gave (w : World) (Q : Nat → Prop) (g : Nat) (s : RS) (t : List UInt8) (e : Ending) (w' : World) : Prop :=
  Rd w' Q g s ∧ Chg (· = g) w w' ∧ ∃ A c, e = .returned (.slice A t.length c) ∧ w'.ownsRow w.heap.size 5 1 (.slice A t.length c) t.length (t.map bv)

theorem own_base {w : World} {B B' : Nat} {e : TypeId} {size n : Nat} {v : Value} {xs : List Value} (h : w.ownsRow B e size v n xs) (hB : B' ≤ B) : w.ownsRow B' e size v n xs := by
  refine ⟨h.1, ?_⟩
  rcases h.2 with h0 | ⟨g', cap, cur, hv, hg', rest⟩
  · exact .inl h0
  · exact .inr ⟨g', cap, cur, hv, by omega, rest⟩

theorem own_max {w : World} {B : Nat} {e : TypeId} {size n c : Nat} {A : Option Addr} {v : Value} {xs : List Value} (h : w.ownsRow B e size v n xs) (hv : v = .slice A n c) : c ≤ maxLen := by
  rcases h.2 with ⟨h0, _⟩ | ⟨g', cap, cur, h0, _, _, _, hm, _⟩
  · rw [hv] at h0
    injection h0 with _ _ h0
    rw [h0]
    exact Nat.zero_le _
  · rw [hv] at h0
    injection h0 with _ _ h0
    rw [h0]
    exact hm

theorem gave_of {w w1 w2 : World} {Q : Nat → Prop} {g : Nat} {s : RS} {t : List UInt8} {e : Ending} (hr : Rd w1 Q g s) (hc : Chg (· = g) w w1) (h : Fresh w1 t e w2) : Gave w Q g s t e w2 := by
  obtain ⟨A, c, he, ho, hb⟩ := h
  have hn : Chg (fun _ => False) w1 w2 := Chg.new hb _
  exact ⟨hr.chg hn (fun h => h) (fun _ _ h => h), hc.trans hn (fun _ _ h => h.elim), A, c, he, own_base ho hc.size⟩

/-- The bytes that are taken; none where nothing is. -/
def RS.got (s : RS) (n : Int) : List UInt8 := (s.take n).2.getD []

theorem got_le (s : RS) (n : Int) : (s.got n).length ≤ s.l.length := by
  unfold RS.got RS.take
  split
  · simp
  · split
    · simp
    · split
      · simp
      · simp; omega

set_option maxHeartbeats 400000 in
theorem fixed_any (w : World) (Q : Nat → Prop) (g : Nat) (s : RS) (n : Int) (h : Rd w Q g s) (hroom : s.l.length ≤ room) : Calls Try.prog 38 #[ptr g, .int .i64 n] w (Gave w Q g (s.take n).1 (s.got n)) := by
  have HH := Lib.hid h
  have hgot : (s.got n).length ≤ room := Nat.le_trans (got_le s n) hroom
  have HG := Lib.hid hgot
  clear h hroom hgot
  go_enter Try.func38, Try.ntmps38
  go_wp2_with fail
  refine (take_any _ _ _ _ _ HH.out).mono ?_
  rintro e w1 ⟨hr, hc, hm⟩
  have HR := Lib.hid hr
  have HC := Lib.hid hc
  clear hr hc
  cases ht : (s.take n).2 with
  | none =>
    simp only [ht] at hm
    subst hm
    have hg0 : s.got n = [] := by simp [RS.got, ht]
    have HG0 := Lib.hid hg0
    clear ht hg0
    go_wp2_with fail
    refine (clone_any _ (fun _ => True) none 0 [] (Lies.nil _ _ _) (Nat.zero_le _)).mono ?_
    rintro e w2 hf
    have HF := Lib.hid hf
    obtain ⟨A, c, rfl, _, _⟩ := hf
    go_wp2
    go_ret
    rw [HG0.out]
    exact gave_of HR.out HC.out HF.out
  | some t =>
    simp only [ht] at hm
    obtain ⟨A, c, rfl, hl, h3, h4⟩ := hm
    have hg0 : s.got n = t := by simp [RS.got, ht]
    have HG0 := Lib.hid hg0
    have HL := Lib.hid hl
    clear ht hg0 hl h3 h4
    go_wp2_with fail
    refine (clone_any _ _ A c t HL.out (by have := HG.out; rw [HG0.out] at this; exact this)).mono ?_
    rintro e w2 hf
    have HF := Lib.hid hf
    obtain ⟨A, c, rfl, _, _⟩ := hf
    go_wp2
    go_ret
    rw [HG0.out]
    exact gave_of HR.out HC.out HF.out

/-- What Bool does. -/
def RS.bool (s : RS) : RS × Bool :=
  match s.take 1 with
  | (t, some [b]) => if b > 1 then (t.fail 11, b == 1) else (t, b == 1)
  | (t, _) => (t, false)

/-- Behind a call that answers a value, and leaves the reader so. -/
def Said1 (w : World) (Q : Nat → Prop) (g : Nat) (s : RS) (v : Value) (e : Ending) (w' : World) : Prop := e = .returned v ∧ Rd w' Q g s ∧ Chg (· = g) w w'

theorem take_one (s : RS) : (∃ b, (s.take 1).2 = some [b]) ∨ (s.take 1).2 = none := by
  by_cases he : s.e = 0
  · by_cases hl : (1 : Int) > s.l.length
    · rw [take_long he (by decide) hl]
      exact .inr rfl
    · rw [take_ok he (by decide) hl]
      left
      cases hs : s.l with
      | nil => rw [hs] at hl; simp at hl
      | cons b r => exact ⟨b, by simp⟩
  · rw [take_err he]
    exact .inr rfl

theorem Lies.one {w : World} {Q : Nat → Prop} {A : Option Addr} {b : UInt8} (h : Lies w Q A ([b].map bv)) : ∃ ad, A = some ad ∧ w.cell? ad = some (bv b) := by
  obtain ⟨ad, e, _, _, hc⟩ := h (by simp)
  exact ⟨ad, e, by simpa [Addr.add] using hc 0 (bv b) rfl⟩

theorem byte_is_one (b : UInt8) : (b == 1) = ((b.toNat : Int) == 1) := by
  rw [Bool.eq_iff_iff]
  simp only [beq_iff_eq]
  rw [← UInt8.toNat_inj]
  simp
  omega

set_option maxHeartbeats 400000 in
theorem bool_any (w : World) (Q : Nat → Prop) (g : Nat) (s : RS) (h : Rd w Q g s) : Calls Try.prog 37 #[ptr g] w (Said1 w Q g s.bool.1 (.bool s.bool.2)) := by
  have HH := Lib.hid h
  clear h
  rcases take_one s with ⟨b, ht⟩ | ht
  · have hs1 : s.take 1 = ((s.take 1).1, some [b]) := by rw [← ht]
    by_cases hb : b.toNat ≤ 1
    · have hbool : s.bool = ((s.take 1).1, b == 1) := by
        unfold RS.bool
        rw [hs1]
        simp only
        rw [if_neg (by rw [gt_iff_lt, UInt8.lt_iff_toNat_lt]; simp; omega)]
      have HB := Lib.hid hbool
      clear hbool hs1
      go_enter Try.func37, Try.ntmps37
      go_wp2_with fail
      refine (take_any _ _ _ _ _ HH.out).mono ?_
      rintro e w1 ⟨hr, hc, hm⟩
      have HR := Lib.hid hr
      have HC := Lib.hid hc
      simp only [ht] at hm
      obtain ⟨A, c, rfl, hl, _, _⟩ := hm
      obtain ⟨ad, rfl, hk⟩ := hl.one
      clear hr hc ht hl
      have hnil := fun (W : World) => Lib.run_eql_slice_nil (P := Try.prog) W 35 5 (some ad) 1 c 0 0 Try.underlying35
      go_wp2
      go_ret
      rw [HB.out]
      exact ⟨by rw [byte_is_one]; rfl, HR.out, HC.out⟩
    · have hbool : s.bool = ((s.take 1).1.fail 11, b == 1) := by
        unfold RS.bool
        rw [hs1]
        simp only
        rw [if_pos (by rw [gt_iff_lt, UInt8.lt_iff_toNat_lt]; simp; omega)]
      have HB := Lib.hid hbool
      clear hbool hs1
      go_enter Try.func37, Try.ntmps37
      go_wp2_with fail
      refine (take_any _ _ _ _ _ HH.out).mono ?_
      rintro e w1 ⟨hr, hc, hm⟩
      have HR := Lib.hid hr
      have HC := Lib.hid hc
      simp only [ht] at hm
      obtain ⟨A, c, rfl, hl, _, _⟩ := hm
      have HL := Lib.hid hl
      obtain ⟨ad, rfl, hk⟩ := hl.one
      clear hr hc ht hl
      have hnil := fun (W : World) => Lib.run_eql_slice_nil (P := Try.prog) W 35 5 (some ad) 1 c 0 0 Try.underlying35
      go_wp2_with fail
      refine (fail_any _ _ _ _ _ HR.out).mono ?_
      rintro e w2 ⟨rfl, hr2, hc2⟩
      have HR2 := Lib.hid hr2
      have HC2 := Lib.hid hc2
      obtain ⟨ad', hA, hk2⟩ := (HL.out.chg hc2 (fun i hi => hi.2)).one
      injection hA with hA
      subst hA
      clear hr2 hc2 hk
      go_wp2
      go_ret
      rw [HB.out]
      exact ⟨by rw [byte_is_one]; rfl, HR2.out, HC.out.trans HC2.out (fun _ _ h => h)⟩
  · have hbool : s.bool = ((s.take 1).1, false) := by
      unfold RS.bool
      rw [show s.take 1 = ((s.take 1).1, none) by rw [← ht]]
    have HB := Lib.hid hbool
    go_enter Try.func37, Try.ntmps37
    go_wp2_with fail
    refine (take_any _ _ _ _ _ HH.out).mono ?_
    rintro e w1 ⟨hr, hc, hm⟩
    have HR := Lib.hid hr
    have HC := Lib.hid hc
    simp only [ht] at hm
    subst hm
    clear hr hc ht
    have hnil := fun (W : World) => Lib.run_eql_slice_nil (P := Try.prog) W 35 5 none 0 0 0 0 Try.underlying35
    go_wp2
    go_ret
    rw [HB.out]
    exact ⟨rfl, HR.out, HC.out⟩

/-- What End tells. -/
def RS.fin (s : RS) : Int := if s.e ≠ 0 then s.e else if 0 < s.l.length then 12 else 0

set_option maxHeartbeats 400000 in
theorem end_any (w : World) (Q : Nat → Prop) (g : Nat) (s : RS) (h : Rd w Q g s) : Calls Try.prog 39 #[ptr g] w fun e w' => e = .returned (.int .i64 s.fin) ∧ w = w' := by
  have HH := Lib.hid h
  obtain ⟨A, c, hb, _, _, h4⟩ := h
  have k0 := hb.cell 0
  simp at k0
  clear hb h4
  by_cases he : s.e = 0
  · have h0 : (s.e != 0) = false := by simpa using he
    have HF : Hid (s.fin = if 0 < s.l.length then 12 else 0) := by unfold RS.fin; rw [if_neg (by simpa using he)]; rfl
    clear he
    by_cases hl : 0 < s.l.length
    all_goals
      go_enter Try.func39, Try.ntmps39
      go_wp2_with (first | (go_at_call 40; refine (err_any _ _ _ _ HH.out).mono ?_; rintro e w' ⟨rfl, rfl⟩))
      go_ret
      rw [HF.out]
      simp [hl]
  · have h0 : (s.e != 0) = true := by simpa using he
    have HF : Hid (s.fin = s.e) := by unfold RS.fin; rw [if_pos (by simpa using he)]; rfl
    clear he
    go_enter Try.func39, Try.ntmps39
    go_wp2_with (first | (go_at_call 40; refine (err_any _ _ _ _ HH.out).mono ?_; rintro e w' ⟨rfl, rfl⟩))
    go_ret
    rw [HF.out]
    exact ⟨rfl, rfl⟩

/-- Behind NewReader: a reader of its own over bytes of its own. -/
def Opened (w : World) (bs : List UInt8) (e : Ending) (w' : World) : Prop :=
  ∃ g, e = .returned (ptr g) ∧ w.heap.size ≤ g ∧ Rd w' (fun i => w.heap.size ≤ i ∧ i < w'.heap.size) g ⟨bs, 0⟩ ∧ Below w.heap.size w w'

set_option maxHeartbeats 400000 in
theorem new_any (w : World) (Q : Nat → Prop) (A : Option Addr) (c : Nat) (bs : List UInt8) (hr : Lies w Q A (bs.map bv)) (hb : bs.length ≤ room) :
    Calls Try.prog 34 #[.slice A bs.length c] w (Opened w bs) := by
  have HR := Lib.hid hr
  have HB := Lib.hid hb
  clear hr hb
  go_enter Try.func34, Try.ntmps34
  go_wp2_with fail
  refine (clone_any _ _ _ _ _ HR.out HB.out).mono ?_
  rintro e w1 ⟨A1, c1, rfl, ho, hb⟩
  have HO := Lib.hid ho
  have HL := Lib.hid hb
  clear ho hb
  go_wp2
  go_ret
  have hs := HL.out.size
  have hb' := Blk.new w1 102 #[.slice A1 bs.length c1, .int .i64 0]
  obtain ⟨_, _, hv, hn⟩ := own_shape HO.out
  injection hv with _ _ hv
  subst hv
  refine ⟨w1.heap.size, rfl, hs, ⟨A1, c1, hb', ?_, hn, own_max HO.out rfl⟩, (HL.out.alloc hs _)⟩
  have := (Lies.of_own (Q := fun i => w.heap.size ≤ i ∧ i < w1.heap.size) HO.out rfl (fun g hg => HO.out.lt g hg)).chg ((Chg.refl (fun _ => False) w1).alloc (.cells #[.slice A1 bs.length c1, .int .i64 0] 102)) (fun _ _ h => h)
  refine this.mono (fun i hi h => ?_)
  simp
  omega

end Go.Proofs.Ytniedfilhilhhaa
