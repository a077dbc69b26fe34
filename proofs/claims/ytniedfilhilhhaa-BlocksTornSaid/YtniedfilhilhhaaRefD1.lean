/- The document's disk: Read, Stop, Restart. -/
import Derived.Test.YtniedfilhilhhaaDisk4
import Derived.Test.YtniedfilhilhhaaRef7
namespace Go.Proofs.Ytniedfilhilhhaa
open Go.RowKit

/-- A text. -/
abbrev sv (b : List UInt8) : Value := .string ⟨b.toArray⟩
/-- The document's disk, as a value: its rows at A. -/
abbrev DV (A : Option Addr) (c : Nat) (s : DS) : Value := .agg #[.slice A s.l.length c, .int .i64 s.left, .int .i64 (s.torn : Int), .bool s.down]

theorem box4 {w : World} {g : Nat} {a b c d : Value} (h : Blk w g 30 #[a, b, c, d]) : (w.cell? ⟨g, 0, none⟩ = some a ∧ w.cell? ⟨g, 1, none⟩ = some b ∧ w.cell? ⟨g, 2, none⟩ = some c ∧ w.cell? ⟨g, 3, none⟩ = some d) ∧
    w.frozen? ⟨g, 0, none⟩ = false ∧ w.frozen? ⟨g, 1, none⟩ = false ∧ w.frozen? ⟨g, 2, none⟩ = false ∧ w.frozen? ⟨g, 3, none⟩ = false :=
  ⟨⟨h.cell 0, h.cell 1, h.cell 2, h.cell 3⟩, h.frozen 0, h.frozen 1, h.frozen 2, h.frozen 3⟩

set_option maxRecDepth 100000 in
theorem rstop_any (w : World) (A : Option Addr) (c : Nat) (s : DS) (a t : Int) : Calls Try.prog 17 #[DV A c s, .int .i64 a, .int .i64 t] w fun e w' => e = .returned (DV A c (s.stop a t)) ∧ Below w.heap.size w w' := by
  go_enter Try.func17, Try.ntmps17
  go_wp2
  all_goals
    refine bodyPost_ret (v := DV A c (s.stop a t)) (by simp [results, Try.results17, go_sem, DS.stop]; omega) rfl ⟨rfl, ?_⟩
    exact ((Below.refl _ _).alloc (Nat.le_refl _) _).alloc (by simp) _

theorem rrestart_any (w : World) (A : Option Addr) (c : Nat) (s : DS) : Calls Try.prog 21 #[DV A c s] w fun e w' => e = .returned (DV A c s.restart) ∧ Below w.heap.size w w' := by
  go_enter Try.func21, Try.ntmps21
  go_wp2
  refine bodyPost_ret (v := DV A c s.restart) (by simp [results, Try.results21, go_sem, DS.restart]) rfl ⟨rfl, ?_⟩
  exact ((Below.refl _ _).alloc (Nat.le_refl _) _).alloc (by simp) _

theorem rread_any (w : World) (Q : Nat → Prop) (A : Option Addr) (c : Nat) (s : DS) (i : Int) (h : Lies w Q A (s.l.map sv)) : Calls Try.prog 19 #[DV A c s, .int .i64 i] w fun e w' => e = .returned (.tuple #[sv (s.read i), .int .i64 (s.fine i)]) ∧ Below w.heap.size w w' := by
  have HH := Lib.hid h
  clear h
  cases hd : s.down with
  | true =>
    have HF : Hid (s.fine i = 30) := by unfold Hid DS.fine; rw [hd]; rfl
    have HR : Hid (s.read i = []) := by unfold Hid DS.read; rw [if_neg (by rw [HF.out]; decide)]
    go_enter Try.func19, Try.ntmps19
    go_wp2
    refine bodyPost_ret (v := .tuple #[sv [], .int .i64 30]) (by simp [results, Try.results19, go_sem, sv]) rfl ⟨by rw [HF.out, HR.out], ?_⟩
    exact (Below.refl _ _).alloc (Nat.le_refl _) _
  | false =>
    by_cases hi : i < 0
    · have HF : Hid (s.fine i = 14) := by unfold Hid DS.fine; rw [hd, if_neg (by simp), if_pos (.inl hi)]
      have HR : Hid (s.read i = []) := by unfold Hid DS.read; rw [if_neg (by rw [HF.out]; decide)]
      go_enter Try.func19, Try.ntmps19
      go_wp2
      refine bodyPost_ret (v := .tuple #[sv [], .int .i64 14]) (by simp [results, Try.results19, go_sem, sv]) rfl ⟨by rw [HF.out, HR.out], ?_⟩
      exact (Below.refl _ _).alloc (Nat.le_refl _) _
    · by_cases hl : (s.l.length : Int) ≤ i
      · have HF : Hid (s.fine i = 14) := by unfold Hid DS.fine; rw [hd, if_neg (by simp), if_pos (.inr hl)]
        have HR : Hid (s.read i = []) := by unfold Hid DS.read; rw [if_neg (by rw [HF.out]; decide)]
        go_enter Try.func19, Try.ntmps19
        go_wp2
        refine bodyPost_ret (v := .tuple #[sv [], .int .i64 14]) (by simp [results, Try.results19, go_sem, sv]) rfl ⟨by rw [HF.out, HR.out], ?_⟩
        exact (Below.refl _ _).alloc (Nat.le_refl _) _
      · have HF : Hid (s.fine i = 0) := by unfold Hid DS.fine; rw [hd, if_neg (by simp), if_neg (by omega)]
        obtain ⟨n, rfl⟩ := Int.eq_ofNat_of_zero_le (by omega : 0 ≤ i)
        have hn : n < s.l.length := by omega
        obtain ⟨old, ho⟩ : ∃ old, s.l[n]? = some old := ⟨s.l[n], List.getElem?_eq_getElem hn⟩
        have HR : Hid (s.read n = old) := by unfold Hid DS.read; rw [if_pos HF.out, Int.toNat_natCast, ho]; rfl
        obtain ⟨ad, rfl, had, _, hc⟩ := HH.out (by intro e; rw [List.map_eq_nil_iff] at e; rw [e] at hn; simp at hn)
        have hcell : (w.alloc (.cells #[.slice (some ad) s.l.length c, .int .i64 s.left, .int .i64 (s.torn : Int), .bool s.down] 30)).cell? (ad.add n) = some (.string ⟨old.toArray⟩) := by
          have h1 := hc n (sv old) (by rw [List.getElem?_map, ho]; rfl)
          have hb : Below w.heap.size w (w.alloc (.cells #[.slice (some ad) s.l.length c, .int .i64 s.left, .int .i64 (s.torn : Int), .bool s.down] 30)) := (Below.refl _ _).alloc (Nat.le_refl _) _
          exact (hb.cell (by rw [blk_add]; exact had)).trans h1
        rw [hd] at hcell
        clear hc ho
        go_enter Try.func19, Try.ntmps19
        go_wp2
        refine bodyPost_ret (v := .tuple #[sv old, .int .i64 0]) (by simp [results, Try.results19, go_sem, sv]) rfl ⟨by rw [HF.out, HR.out], ?_⟩
        exact (Below.refl _ _).alloc (Nat.le_refl _) _

end Go.Proofs.Ytniedfilhilhhaa
