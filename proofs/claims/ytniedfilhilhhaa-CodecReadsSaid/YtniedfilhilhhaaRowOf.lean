/- A slice of bytes that came in, as a list of bytes. -/
import Derived.Test.YtniedfilhilhhaaBase
import Derived.OpenShut
namespace Go.Proofs.Ytniedfilhilhhaa
open Go.RowKit

theorem wf_u8 {n : Int} (h : (Lit.int .u8 n).wf = true) : bv (UInt8.ofNat n.toNat) = .int .u8 n := by
  have hb := bounds_u8 h
  unfold bv
  rw [UInt8.toNat_ofNat']
  congr 1
  omega

theorem bytes_of_row {w : World} {a : Option Addr} {len cap : Nat} {zs : List Int}
    (h : (a = none ∧ len = 0 ∧ cap = 0 ∧ zs = []) ∨
      ∃ x, a = some x ∧ len ≤ cap ∧ cap ≤ maxLen ∧ zs.length = cap ∧ (∀ i, i < zs.length → w.cell? (x.add i) = some (.int .u8 (zs.getD i 0))) ∧ ∀ n ∈ zs, (Lit.int .u8 n).wf = true) :
    ∃ bs : List UInt8, len = bs.length ∧ Lies w (fun _ => True) a (bs.map bv) := by
  rcases h with ⟨rfl, rfl, rfl, rfl⟩ | ⟨x, rfl, hl, _, hz, hc, hw⟩
  · exact ⟨[], rfl, Lies.nil _ _ _⟩
  · refine ⟨(zs.take len).map fun n => UInt8.ofNat n.toNat, by simp; omega, fun hne => ?_⟩
    have h0 : 0 < len := by
      rcases Nat.eq_zero_or_pos len with h | h
      · subst h; simp at hne
      · exact h
    have hcell : ∀ j u, (((zs.take len).map fun n => UInt8.ofNat n.toNat).map bv)[j]? = some u → w.cell? (x.add j) = some u := by
      intro j u hu
      simp only [List.getElem?_map, Option.map_eq_some_iff] at hu
      obtain ⟨b, ⟨n, hn, rfl⟩, rfl⟩ := hu
      have hj : j < (zs.take len).length := (List.getElem?_eq_some_iff.1 hn).1
      have hjl : j < len := by simp at hj; omega
      rw [List.getElem?_take, if_pos hjl] at hn
      rw [hc j (by omega), List.getD, hn, wf_u8 (hw n (List.mem_of_getElem? hn))]
      rfl
    refine ⟨x, rfl, ?_, trivial, hcell⟩
    have := hc 0 (by omega)
    have := World.block_lt_of_cell? _ _ this
    rwa [blk_add] at this

end Go.Proofs.Ytniedfilhilhhaa
