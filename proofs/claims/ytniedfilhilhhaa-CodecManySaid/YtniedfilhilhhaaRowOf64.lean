/- A slice of uint64 that came in, as a list of numbers. -/
import Derived.Test.YtniedfilhilhhaaManyWalk
import Derived.OpenShut
namespace Go.Proofs.Ytniedfilhilhhaa
open Go.RowKit

theorem nums_of_row {w : World} {a : Option Addr} {len cap : Nat} {zs : List Int}
    (h : (a = none ∧ len = 0 ∧ cap = 0 ∧ zs = []) ∨
      ∃ x, a = some x ∧ len ≤ cap ∧ cap ≤ maxLen ∧ zs.length = cap ∧ (∀ i, i < zs.length → w.cell? (x.add i) = some (.int .u64 (zs.getD i 0))) ∧ ∀ n ∈ zs, (Lit.int .u64 n).wf = true) :
    ∃ l : List Nat, len = l.length ∧ Lies w (fun _ => True) a (l.map uv) ∧ ∀ x ∈ l, x < 18446744073709551616 := by
  rcases h with ⟨rfl, rfl, rfl, rfl⟩ | ⟨x, rfl, hl, _, hz, hc, hw⟩
  · exact ⟨[], rfl, Lies.nil _ _ _, by simp⟩
  · refine ⟨(zs.take len).map Int.toNat, by simp; omega, fun hne => ?_, ?_⟩
    · have h0 : 0 < len := by
        rcases Nat.eq_zero_or_pos len with h | h
        · subst h; simp at hne
        · exact h
      have hcell : ∀ j u, (((zs.take len).map Int.toNat).map uv)[j]? = some u → w.cell? (x.add j) = some u := by
        intro j u hu
        simp only [List.getElem?_map, Option.map_eq_some_iff] at hu
        obtain ⟨b, ⟨n, hn, rfl⟩, rfl⟩ := hu
        have hj : j < (zs.take len).length := (List.getElem?_eq_some_iff.1 hn).1
        have hjl : j < len := by simp at hj; omega
        rw [List.getElem?_take, if_pos hjl] at hn
        have hb := bounds_u64 (hw n (List.mem_of_getElem? hn))
        rw [hc j (by omega), List.getD, hn]
        unfold uv
        simp only [Option.getD_some]
        rw [Int.toNat_of_nonneg hb.1]
      refine ⟨x, rfl, ?_, trivial, hcell⟩
      have := hc 0 (by omega)
      have := World.block_lt_of_cell? _ _ this
      rwa [blk_add] at this
    · intro y hy
      obtain ⟨n, hn, rfl⟩ := List.mem_map.1 hy
      have hb := bounds_u64 (hw n (List.mem_of_mem_take hn))
      omega

end Go.Proofs.Ytniedfilhilhhaa
