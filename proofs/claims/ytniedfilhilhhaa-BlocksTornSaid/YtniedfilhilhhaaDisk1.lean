/- A disk of blocks: as it lies, and its small calls. -/
import Derived.Test.YtniedfilhilhhaaRead1
import Derived.Laws.MakeOwn
namespace Go.Proofs.Ytniedfilhilhhaa
open Go.RowKit

/-- A disk, by values. -/
structure DS where
  l : List (List UInt8)
  left : Int
  torn : Nat
  down : Bool

/-- The cells of rows, one behind the other. -/
def flat (l : List (List UInt8)) : Array Value := (l.flatten.map bv).toArray

/-- The disk at block g, whose rows lie at block h. -/
def Dk (w : World) (g h : Nat) (s : DS) : Prop :=
  Blk w g 94 #[.slice (some ⟨h, 0, none⟩) s.l.length s.l.length, .int .i64 s.left, .int .i64 (s.torn : Int), .bool s.down] ∧ Blk w h 96 (flat s.l) ∧
    (∀ b ∈ s.l, b.length = 128) ∧ s.l.length ≤ 50 ∧ -1 ≤ s.left ∧ s.left ≤ 9223372036854775807 ∧ s.torn ≤ 128

section
variable {S : Nat → Prop} {w w' : World} {g h : Nat} {s : DS}
theorem Dk.ne (k : Dk w g h s) : g ≠ h := k.1.other k.2.1 (by decide)
theorem Dk.lt (k : Dk w g h s) : g < w.heap.size ∧ h < w.heap.size := ⟨k.1.lt, k.2.1.lt⟩
theorem Dk.chg (k : Dk w g h s) (c : Chg S w w') (hg : ¬ S g) (hh : ¬ S h) : Dk w' g h s := ⟨k.1.chg c hg, k.2.1.chg c hh, k.2.2⟩
theorem Dk.facts (k : Dk w g h s) : (w.cell? ⟨g, 0, none⟩ = some (.slice (some ⟨h, 0, none⟩) s.l.length s.l.length) ∧ w.cell? ⟨g, 1, none⟩ = some (.int .i64 s.left) ∧ w.cell? ⟨g, 2, none⟩ = some (.int .i64 (s.torn : Int)) ∧ w.cell? ⟨g, 3, none⟩ = some (.bool s.down)) ∧
    w.frozen? ⟨g, 0, none⟩ = false ∧ w.frozen? ⟨g, 1, none⟩ = false ∧ w.frozen? ⟨g, 2, none⟩ = false ∧ w.frozen? ⟨g, 3, none⟩ = false :=
  ⟨⟨k.1.cell 0, k.1.cell 1, k.1.cell 2, k.1.cell 3⟩, k.1.frozen 0, k.1.frozen 1, k.1.frozen 2, k.1.frozen 3⟩
end

/-- What a call of a block answers. -/
def DS.fine (s : DS) (i : Int) : Int := if s.down then 30 else if i < 0 ∨ (s.l.length : Int) ≤ i then 14 else 0

theorem len_any (w : World) (g h : Nat) (s : DS) (k : Dk w g h s) : Calls Try.prog 23 #[ptr g] w fun e w' => e = .returned (.int .i64 (s.l.length : Int)) ∧ w = w' := by
  obtain ⟨⟨k0, _, _, _⟩, _⟩ := k.facts
  clear k
  go_enter Try.func23, Try.ntmps23
  go_wp2
  go_ret
  exact ⟨rfl, rfl⟩
theorem len_none (w : World) : Calls Try.prog 23 #[.pointer none] w fun e w' => e = .returned (.int .i64 0) ∧ w = w' := by
  go_enter Try.func23, Try.ntmps23
  go_wp2
  go_ret
  exact ⟨rfl, rfl⟩
theorem down_any (w : World) (g h : Nat) (s : DS) (k : Dk w g h s) : Calls Try.prog 24 #[ptr g] w fun e w' => e = .returned (.bool s.down) ∧ w = w' := by
  obtain ⟨⟨_, _, _, k3⟩, _⟩ := k.facts
  clear k
  go_enter Try.func24, Try.ntmps24
  go_wp2
  go_ret
  exact ⟨rfl, rfl⟩
theorem down_none (w : World) : Calls Try.prog 24 #[.pointer none] w fun e w' => e = .returned (.bool false) ∧ w = w' := by
  go_enter Try.func24, Try.ntmps24
  go_wp2
  go_ret
  exact ⟨rfl, rfl⟩
theorem fine_any (w : World) (g h : Nat) (s : DS) (i : Int) (k : Dk w g h s) : Calls Try.prog 48 #[ptr g, .int .i64 i] w fun e w' => e = .returned (.int .i64 (s.fine i)) ∧ w = w' := by
  obtain ⟨⟨k0, _, _, k3⟩, _⟩ := k.facts
  clear k
  cases hd : s.down with
  | true =>
    have HF : Hid (s.fine i = 30) := by unfold Hid DS.fine; rw [hd]; rfl
    rw [hd] at k3
    go_enter Try.func48, Try.ntmps48
    go_wp2
    go_ret
    exact ⟨by rw [HF.out]; rfl, rfl⟩
  | false =>
    rw [hd] at k3
    by_cases hi : i < 0
    · have HF : Hid (s.fine i = 14) := by unfold Hid DS.fine; rw [hd, if_neg (by simp), if_pos (.inl hi)]
      go_enter Try.func48, Try.ntmps48
      go_wp2
      go_ret
      exact ⟨by rw [HF.out]; rfl, rfl⟩
    · by_cases hl : (s.l.length : Int) ≤ i
      · have HF : Hid (s.fine i = 14) := by unfold Hid DS.fine; rw [hd, if_neg (by simp), if_pos (.inr hl)]
        go_enter Try.func48, Try.ntmps48
        go_wp2
        go_ret
        exact ⟨by rw [HF.out]; rfl, rfl⟩
      · have HF : Hid (s.fine i = 0) := by unfold Hid DS.fine; rw [hd, if_neg (by simp), if_neg (by omega)]
        go_enter Try.func48, Try.ntmps48
        go_wp2
        go_ret
        exact ⟨by rw [HF.out]; rfl, rfl⟩
theorem fine_none (w : World) (i : Int) : Calls Try.prog 48 #[.pointer none, .int .i64 i] w fun e w' => e = .returned (.int .i64 1) ∧ w = w' := by
  go_enter Try.func48, Try.ntmps48
  go_wp2
  go_ret
  exact ⟨rfl, rfl⟩

/-- What Stop lays. -/
def DS.stop (s : DS) (a t : Int) : DS := { s with left := max a (-1), torn := (min (max t 0) 128).toNat }
def DS.restart (s : DS) : DS := { s with left := -1, down := false }

theorem Blk.to {w : World} {g : Nat} {t : TypeId} {cs cs' : Array Value} (b : Blk w g t cs) (e : cs = cs') : Blk w g t cs' := e ▸ b
theorem Dk.put {w w' : World} {g h : Nat} {s s' : DS} (k : Dk w g h s) (hl : s'.l = s.l) (hb : -1 ≤ s'.left ∧ s'.left ≤ 9223372036854775807 ∧ s'.torn ≤ 128) (c : Chg (· = g) w w')
    (b : Blk w' g 94 #[.slice (some ⟨h, 0, none⟩) s.l.length s.l.length, .int .i64 s'.left, .int .i64 (s'.torn : Int), .bool s'.down]) : Dk w' g h s' ∧ Chg (· = g) w w' := by
  have hne := k.ne
  refine ⟨⟨by rw [hl]; exact b, by rw [hl]; exact k.2.1.chg c (fun e => hne e.symm), by rw [hl]; exact k.2.2.1, by rw [hl]; exact k.2.2.2.1, hb⟩, c⟩
theorem chg_two (w : World) (g i j : Nat) (u v : Value) : Chg (· = g) w ((w.setCell ⟨g, i, none⟩ u).setCell ⟨g, j, none⟩ v) := (Chg.at_ w g i u).trans (Chg.at_ _ g j v) (fun _ _ e => e)

theorem restart_any (w : World) (g r : Nat) (s : DS) (k : Dk w g r s) : Calls Try.prog 20 #[ptr g] w fun e w' => e = .returned (.tuple #[]) ∧ Dk w' g r s.restart ∧ Chg (· = g) w w' := by
  obtain ⟨⟨k0, k1, k2, k3⟩, f0, f1, f2, f3⟩ := k.facts
  have HK := Lib.hid k
  clear k
  go_enter Try.func20, Try.ntmps20
  go_wp2
  go_end0
  exact ⟨rfl, HK.out.put rfl ⟨Int.le_refl _, by show (-1 : Int) ≤ _; decide, HK.out.2.2.2.2.2.2⟩ (chg_two _ _ _ _ _ _) (((HK.out.1.put 1 _).put 3 _).to (by simp [DS.restart]))⟩
theorem restart_none (w : World) : Calls Try.prog 20 #[.pointer none] w fun e w' => e = .returned (.tuple #[]) ∧ w = w' := by
  go_enter Try.func20, Try.ntmps20
  go_wp2
  go_end0
  exact ⟨rfl, rfl⟩
theorem stop_any (w : World) (g r : Nat) (s : DS) (a t : Int) (k : Dk w g r s) (ha : a ≤ 9223372036854775807) : Calls Try.prog 16 #[ptr g, .int .i64 a, .int .i64 t] w fun e w' => e = .returned (.tuple #[]) ∧ Dk w' g r (s.stop a t) ∧ Chg (· = g) w w' := by
  obtain ⟨⟨k0, k1, k2, k3⟩, f0, f1, f2, f3⟩ := k.facts
  have HK := Lib.hid k
  have HB : Hid (-1 ≤ (s.stop a t).left ∧ (s.stop a t).left ≤ 9223372036854775807 ∧ (s.stop a t).torn ≤ 128) := by
    refine ⟨?_, ?_, ?_⟩
    · show -1 ≤ max a (-1); omega
    · show max a (-1) ≤ _; omega
    · show (min (max t 0) 128).toNat ≤ 128; omega
  clear k
  go_enter Try.func16, Try.ntmps16
  go_wp2
  all_goals
    go_end0
    refine ⟨rfl, HK.out.put rfl HB.out (chg_two _ _ _ _ _ _) (((HK.out.1.put 1 _).put 2 _).to ?_)⟩
    simp [DS.stop]
    omega
theorem stop_none (w : World) (a t : Int) : Calls Try.prog 16 #[.pointer none, .int .i64 a, .int .i64 t] w fun e w' => e = .returned (.tuple #[]) ∧ w = w' := by
  go_enter Try.func16, Try.ntmps16
  go_wp2
  go_end0
  exact ⟨rfl, rfl⟩

end Go.Proofs.Ytniedfilhilhhaa
