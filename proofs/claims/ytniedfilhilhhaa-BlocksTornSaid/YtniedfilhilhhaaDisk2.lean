/- A disk of blocks: New. -/
import Derived.Test.YtniedfilhilhhaaDisk1
namespace Go.Proofs.Ytniedfilhilhhaa
open Go.RowKit

theorem info96b : (Try.prog.info? 96).map (·.bytes) = some 128 := by kernel_rfl
theorem info96 : (Try.prog.info? 96).map (·.size) = some 128 := by kernel_rfl
theorem info96z : ((Try.prog.info? 96).bind (·.zero)).map (·.cells) = some ((List.replicate 128 (0 : UInt8)).map bv).toArray := by kernel_rfl

/-- A disk that is new. -/
def fresh (n : Nat) : DS := ⟨List.replicate n (List.replicate 128 0), -1, 0, false⟩

theorem flatten_same {α : Type} (n m : Nat) (a : α) : (List.replicate n (List.replicate m a)).flatten = List.replicate (n * m) a := by
  simp

theorem made_same (m k : Nat) (v : Value) (hm : 0 < m) : madeCells (List.replicate m v).toArray k = (List.replicate k v).toArray := by
  apply Array.ext
  · simp [madeCells]
  · intro i h1 h2
    have hz : (List.replicate m v).toArray.size = m := by simp
    have hi : i % m < (List.replicate m v).toArray.size := by rw [hz]; exact Nat.mod_lt _ hm
    simp only [madeCells, Array.getElem_map, Array.getElem_range, hz]
    rw [getElem!_pos (List.replicate m v).toArray (i % m) hi]
    simp
theorem made_rows (n : Nat) : madeCells ((List.replicate 128 (0 : UInt8)).map bv).toArray (n * 128) = flat (fresh n).l := by
  unfold flat fresh
  simp only
  rw [flatten_same, List.map_replicate, List.map_replicate, made_same _ _ _ (by decide)]

theorem run_make_disk (n : Nat) (hn : n ≤ 50) (w : World) : (Instr.makeSlice 92 (.int .i64 (n : Int)) (.int .i64 (n : Int))).run Try.prog w = .ok (.slice (some ⟨w.heap.size, 0, none⟩) n n) (w.alloc (.cells (flat (fresh n).l) 96)) := by
  have hb := info96b
  have hs := info96
  have hz := info96z
  cases hq : Try.prog.info? 96 with
  | none => rw [hq] at hb; simp at hb
  | some i =>
    rw [hq] at hb hs hz
    simp only [Option.map_some, Option.some.injEq, Option.bind_some] at hb hs hz
    cases hzz : i.zero with
    | none => rw [hzz] at hz; simp at hz
    | some z =>
      rw [hzz] at hz
      simp only [Option.map_some, Option.some.injEq] at hz
      have hr := run_make (P := Try.prog) w 92 96 i z Try.underlying92 hq hzz .i64 .i64 n n (by omega) (Int.le_refl _) (by rw [hb]; omega) (by omega)
      rw [hz, hs] at hr
      simp only [Int.toNat_natCast] at hr
      rw [made_rows] at hr
      exact hr

/-- Behind New. -/
def Born (w : World) (n : Nat) (e : Ending) (w' : World) : Prop := ∃ g r, e = .returned (.tuple #[ptr g, .int .i64 0]) ∧ w.heap.size ≤ g ∧ w.heap.size ≤ r ∧ Dk w' g r (fresh n) ∧ Below w.heap.size w w'

theorem dnew_any (w : World) (n : Nat) (h1 : 1 ≤ n) (hn : n ≤ 50) : Calls Try.prog 11 #[.int .i64 (n : Int)] w (Born w n) := by
  have hmk := run_make_disk n hn
  have h2 : ¬ (n : Int) < 1 := by omega
  have h3 : ¬ (65536 : Int) < (n : Int) := by omega
  go_enter Try.func11, Try.ntmps11
  go_wp2
  have hb : Below w.heap.size w (w.alloc (.cells (flat (fresh n).l) 96)) := (Below.refl _ _).alloc (Nat.le_refl _) _
  refine bodyPost_ret (v := .tuple #[ptr (w.heap.size + 1), .int .i64 0]) (by simp [results, Try.results11, go_sem]) rfl ⟨w.heap.size + 1, w.heap.size, rfl, Nat.le_succ _, Nat.le_refl _, ⟨?_, (Blk.new w 96 _).alloc _, ?_, ?_, Int.le_refl _, ?_, Nat.zero_le _⟩, hb.alloc hb.size _⟩
  · have := Blk.new (w.alloc (.cells (flat (fresh n).l) 96)) 94 #[.slice (some ⟨w.heap.size, 0, none⟩) n n, .int .i64 (-1), .int .i64 0, .bool false]
    simpa [fresh] using this
  · intro b hb
    rw [List.eq_of_mem_replicate hb]
    rfl
  · simpa [fresh] using hn
  · show (-1 : Int) ≤ _; decide
theorem dnew_bad (w : World) (n : Int) (h : n < 1 ∨ 65536 < n) : Calls Try.prog 11 #[.int .i64 n] w fun e w' => e = .returned (.tuple #[.pointer none, .int .i64 1]) ∧ w = w' := by
  by_cases h1 : n < 1
  · clear h
    go_enter Try.func11, Try.ntmps11
    go_wp2
    exact bodyPost_ret (v := .tuple #[.pointer none, .int .i64 1]) (by simp [results, Try.results11, go_sem]) rfl ⟨rfl, rfl⟩
  · have h2 : 65536 < n := by omega
    clear h
    go_enter Try.func11, Try.ntmps11
    go_wp2
    exact bodyPost_ret (v := .tuple #[.pointer none, .int .i64 1]) (by simp [results, Try.results11, go_sem]) rfl ⟨rfl, rfl⟩

end Go.Proofs.Ytniedfilhilhhaa
