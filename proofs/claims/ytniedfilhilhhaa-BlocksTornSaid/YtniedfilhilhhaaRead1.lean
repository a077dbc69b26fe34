/- The reader of package codec as it lies in memory, and its small calls: NewReader, Err, fail, take, Fixed, Bool, End. -/
import Derived.Test.YtniedfilhilhhaaClone
import Derived.Lib.Hide
namespace Go.Proofs.Ytniedfilhilhhaa
open Go.RowKit

/-- A reader as values: the bytes that are left, the first error. -/
structure RS where
  l : List UInt8
  e : Int
def RS.fail (s : RS) (x : Int) : RS := if s.e = 0 then { s with e := x } else s
/-- What 'take' leaves, and what it takes; 'none': nothing. -/
def RS.take (s : RS) (n : Int) : RS × Option (List UInt8) :=
  if s.e ≠ 0 then (s, none) else if n < 0 then (s.fail 1, none) else if n > s.l.length then (s.fail 10, none) else ({ s with l := s.l.drop n.toNat }, some (s.l.take n.toNat))

/-- The reader at block g; its bytes lie in blocks that Q lets in. -/
def Rd (w : World) (Q : Nat → Prop) (g : Nat) (s : RS) : Prop :=
  ∃ A c, Blk w g 102 #[.slice A s.l.length c, .int .i64 s.e] ∧ Lies w (fun i => Q i ∧ i ≠ g) A (s.l.map bv) ∧ s.l.length ≤ c ∧ c ≤ maxLen

abbrev ptr (g : Nat) : Value := .pointer (some ⟨g, 0, none⟩)

section
variable {S Q : Nat → Prop} {w w' : World} {g : Nat} {s : RS}
theorem Rd.lt (h : Rd w Q g s) : g < w.heap.size := by
  obtain ⟨_, _, h, _⟩ := h
  exact h.lt
theorem Rd.chg (h : Rd w Q g s) (k : Chg S w w') (hg : ¬ S g) (hq : ∀ i, Q i → ¬ S i) : Rd w' Q g s := by
  obtain ⟨A, c, h1, h2, h3, h4⟩ := h
  exact ⟨A, c, h1.chg k hg, h2.chg k (fun i hi => hq i hi.1), h3, h4⟩
theorem Chg.at_ (w : World) (g i : Nat) (u : Value) : Chg (· = g) w (w.setCell ⟨g, i, none⟩ u) := Chg.setCell (S := (· = g)) (p := ⟨g, i, none⟩) (Chg.refl _ w) (.inl rfl) u
theorem Rd.setE (h : Rd w Q g s) (x : Int) : Rd (w.setCell ⟨g, 1, none⟩ (.int .i64 x)) Q g { s with e := x } := by
  obtain ⟨A, c, h1, h2, h3, h4⟩ := h
  exact ⟨A, c, by simpa using h1.put 1 (.int .i64 x), h2.chg (Chg.at_ w g 1 _) (fun i hi => hi.2), h3, h4⟩
end

theorem err_any (w : World) (Q : Nat → Prop) (g : Nat) (s : RS) (h : Rd w Q g s) : Calls Try.prog 40 #[ptr g] w fun e w' => e = .returned (.int .i64 s.e) ∧ w = w' := by
  obtain ⟨A, c, hb, _, _, _⟩ := h
  have k1 := hb.cell 1
  simp at k1
  clear hb
  go_enter Try.func40, Try.ntmps40
  go_wp2
  go_ret
  exact ⟨rfl, rfl⟩

/-- Behind a call that answers nothing and leaves the reader so. -/
def Left (w : World) (Q : Nat → Prop) (g : Nat) (s : RS) (e : Ending) (w' : World) : Prop := e = .returned (.tuple #[]) ∧ Rd w' Q g s ∧ Chg (· = g) w w'

set_option maxHeartbeats 400000 in
theorem fail_any (w : World) (Q : Nat → Prop) (g : Nat) (s : RS) (x : Int) (h : Rd w Q g s) : Calls Try.prog 51 #[ptr g, .int .i64 x] w (Left w Q g (s.fail x)) := by
  have HH := Lib.hid h
  obtain ⟨A, c, hb, _, _, _⟩ := h
  have k1 := hb.cell 1
  have f1 := hb.frozen 1
  simp at k1
  clear hb
  by_cases he : s.e = 0
  · have h0 : (s.e == 0) = true := by simpa using he
    have HE := Lib.hid he
    clear he
    go_enter Try.func51, Try.ntmps51
    go_wp2
    go_end0
    refine ⟨rfl, ?_, Chg.at_ _ _ _ _⟩
    rw [RS.fail, if_pos HE.out]
    exact HH.out.setE x
  · have h0 : (s.e == 0) = false := by simpa using he
    have HE := Lib.hid he
    clear he
    go_enter Try.func51, Try.ntmps51
    go_wp2
    go_end0
    refine ⟨rfl, ?_, Chg.refl _ _⟩
    rw [RS.fail, if_neg HE.out]
    exact HH.out

/-- Behind 'take'. -/
def Took (w : World) (Q : Nat → Prop) (g : Nat) (s : RS) (n : Int) (e : Ending) (w' : World) : Prop :=
  Rd w' Q g (s.take n).1 ∧ Chg (· = g) w w' ∧
    match (s.take n).2 with
    | none => e = .returned (.slice none 0 0)
    | some t => ∃ A c, e = .returned (.slice A t.length c) ∧ Lies w' (fun i => Q i ∧ i ≠ g) A (t.map bv) ∧ t.length ≤ c ∧ c ≤ maxLen

theorem took_rd {w : World} {Q : Nat → Prop} {g c : Nat} {s : RS} {A : Option Addr} (hb : Blk w g 102 #[.slice A s.l.length c, .int .i64 s.e]) (hl : Lies w (fun i => Q i ∧ i ≠ g) A (s.l.map bv)) (h3 : s.l.length ≤ c) (h4 : c ≤ maxLen)
    (m : Nat) (hm : m ≤ s.l.length) (A' : Option Addr) (hA : (if c = m then A else A.map (·.add m)) = A') :
    Rd (w.setCell ⟨g, 0, none⟩ (.slice A' (s.l.length - m) (c - m))) Q g { s with l := s.l.drop (m : Int).toNat } := by
  subst hA
  rw [Int.toNat_natCast]
  refine ⟨_, c - m, by simpa using hb.put 0 _, ?_, by simp; omega, by omega⟩
  have := (hl.cut (k := m) (cap := c) (by simpa using h3)).chg (Chg.at_ w g 0 (.slice (if c = m then A else A.map (·.add m)) (s.l.length - m) (c - m))) (fun i hi => hi.2)
  simpa [List.map_drop] using this
theorem size5 : ∀ w, (sizeOf 5).run Try.prog w = .ok 1 w := fun w => by kernel_rfl

theorem take_err {s : RS} {n : Int} (he : ¬ s.e = 0) : s.take n = (s, none) := by simp [RS.take, he]
theorem take_neg {s : RS} {n : Int} (he : s.e = 0) (hn : n < 0) : s.take n = (s.fail 1, none) := by simp [RS.take, he, hn]
theorem take_long {s : RS} {n : Int} (he : s.e = 0) (hn : ¬ n < 0) (hl : n > s.l.length) : s.take n = (s.fail 10, none) := by simp [RS.take, he, hn, hl]
theorem take_ok {s : RS} {n : Int} (he : s.e = 0) (hn : ¬ n < 0) (hl : ¬ n > s.l.length) : s.take n = ({ s with l := s.l.drop n.toNat }, some (s.l.take n.toNat)) := by
  unfold RS.take
  rw [if_neg (by simpa using he), if_neg hn, if_neg hl]

set_option maxHeartbeats 400000 in
theorem take_any (w : World) (Q : Nat → Prop) (g : Nat) (s : RS) (n : Int) (h : Rd w Q g s) : Calls Try.prog 50 #[ptr g, .int .i64 n] w (Took w Q g s n) := by
  have HH := Lib.hid h
  clear h
  by_cases he : s.e = 0
  · have h0 : (s.e != 0) = false := by simpa using he
    by_cases hn : n < 0
    · have HT := Lib.hid (take_neg he hn)
      clear he
      go_enter Try.func50, Try.ntmps50
      go_wp2_with (first | (go_at_call 40; refine (err_any _ _ _ _ HH.out).mono ?_; rintro e w' ⟨rfl, rfl⟩) | (go_at_call 51; refine (fail_any _ _ _ _ _ HH.out).mono ?_; rintro e w1 ⟨rfl, hr, hc⟩; have HR := Lib.hid hr; have HC := Lib.hid hc; clear hr hc))
      go_ret
      unfold Took
      rw [HT.out]
      exact ⟨HR.out, HC.out, rfl⟩
    · by_cases hl : n > s.l.length
      · have HT := Lib.hid (take_long he hn hl)
        clear he
        obtain ⟨A, c, hb, _, _, _⟩ := id HH.out
        have k0 := hb.cell 0
        simp at k0
        clear hb
        go_enter Try.func50, Try.ntmps50
        go_wp2_with (first | (go_at_call 40; refine (err_any _ _ _ _ HH.out).mono ?_; rintro e w' ⟨rfl, rfl⟩) | (go_at_call 51; refine (fail_any _ _ _ _ _ HH.out).mono ?_; rintro e w1 ⟨rfl, hr, hc⟩; have HR := Lib.hid hr; have HC := Lib.hid hc; clear hr hc))
        go_ret
        unfold Took
        rw [HT.out]
        exact ⟨HR.out, HC.out, rfl⟩
      · have HT := Lib.hid (take_ok he hn hl)
        obtain ⟨m, rfl⟩ := Int.eq_ofNat_of_zero_le (by omega : 0 ≤ n)
        have hm : m ≤ s.l.length := by omega
        clear he hn hl
        obtain ⟨A, c, hb, hlie, h3, h4⟩ := id HH.out
        have k0 := hb.cell 0
        have f0 := hb.frozen 0
        simp at k0
        have HB := Lib.hid hb
        have HL := Lib.hid hlie
        have H4 := Lib.hid h4
        clear hb hlie h4
        obtain ⟨A2, hA2⟩ : ∃ A2, (if c = m then A else A.map (·.add m)) = A2 := ⟨_, rfl⟩
        have hsl := fun W => run_slice_from (P := Try.prog) W 35 5 Try.underlying35 size5 A s.l.length c m hm A2 hA2
        have HA := Lib.hid hA2
        clear hA2
        go_enter Try.func50, Try.ntmps50
        go_wp2_with (first | (go_at_call 40; refine (err_any _ _ _ _ HH.out).mono ?_; rintro e w' ⟨rfl, rfl⟩))
        go_ret
        unfold Took
        rw [HT.out]
        refine ⟨took_rd HB.out HL.out h3 H4.out m hm A2 HA.out, Chg.at_ _ _ _ _, A, m, ?_, ?_, ?_, ?_⟩
        · simp [Nat.min_eq_left hm]
        · have := (HL.out.take m).chg (Chg.at_ w g 0 (.slice A2 (s.l.length - m) (c - m))) (fun i hi => hi.2)
          simpa [List.map_take] using this
        · simp; omega
        · have := H4.out; omega
  · have h0 : (s.e != 0) = true := by simpa using he
    have HT := Lib.hid (take_err (n := n) he)
    clear he
    go_enter Try.func50, Try.ntmps50
    go_wp2_with (first | (go_at_call 40; refine (err_any _ _ _ _ HH.out).mono ?_; rintro e w' ⟨rfl, rfl⟩))
    go_ret
    unfold Took
    rw [HT.out]
    exact ⟨HH.out, Chg.refl _ _, rfl⟩

end Go.Proofs.Ytniedfilhilhhaa
