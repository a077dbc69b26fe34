/- What '[]byte(s)' makes: a row of its own, with the text's bytes. -/
import Derived.Test.YtniedfilhilhhaaRead2
namespace Go.Proofs.Ytniedfilhilhhaa
open Go.RowKit

/-- What '[]byte(s)' made. -/
theorem row_cell (w : World) (bs : List UInt8) (cap : Nat) (fr : Nat × Nat) (j : Nat) (hj : j < bs.length) :
    ((w.alloc (.cells (bytesRow ⟨bs.toArray⟩ cap) 5 fr)).drew).cell? ⟨w.heap.size, j, none⟩ = some (bv bs[j]) := by
  show (w.alloc (.cells (bytesRow ⟨bs.toArray⟩ cap) 5 fr)).cell? ⟨w.heap.size, j, none⟩ = _
  rw [World.cell?_alloc_mark, bytesRow_at _ _ _ (by simpa using hj)]
  simp
theorem row_lies (w : World) (bs : List UInt8) (cap : Nat) (fr : Nat × Nat) :
    Lies ((w.alloc (.cells (bytesRow ⟨bs.toArray⟩ cap) 5 fr)).drew) (fun i => i = w.heap.size) (some ⟨w.heap.size, 0, none⟩) (bs.map bv) := by
  intro _
  refine ⟨_, rfl, by show w.heap.size < (w.alloc _).heap.size; simp, rfl, fun j x hj => ?_⟩
  simp only [List.getElem?_map, Option.map_eq_some_iff] at hj
  obtain ⟨b, hb, rfl⟩ := hj
  obtain ⟨hlt, rfl⟩ := List.getElem?_eq_some_iff.1 hb
  rw [add_none, Nat.zero_add]
  exact row_cell w bs cap fr j hlt
theorem row_frozen (w : World) (bs : List UInt8) (cap : Nat) (j : Nat) (hj : j < bs.length) :
    ((w.alloc (.cells (bytesRow ⟨bs.toArray⟩ cap) 5 ((bytesRow ⟨bs.toArray⟩ cap).size, (bytesRow ⟨bs.toArray⟩ cap).size + 1))).drew).frozen? ⟨w.heap.size, j, none⟩ = false := by
  show (w.alloc _).frozen? ⟨w.heap.size, j, none⟩ = _
  rw [World.frozen?_alloc_mark]
  have : bs.length ≤ (bytesRow ⟨bs.toArray⟩ cap).size := by simp [bytesRow]
  simp
  omega

theorem made_bytes (w : World) (bs : List UInt8) (cap : Nat) :
    Below w.heap.size w ((w.alloc (.cells (bytesRow ⟨bs.toArray⟩ cap) 5 ((bytesRow ⟨bs.toArray⟩ cap).size, (bytesRow ⟨bs.toArray⟩ cap).size + 1))).drew) ∧
    ((w.alloc (.cells (bytesRow ⟨bs.toArray⟩ cap) 5 ((bytesRow ⟨bs.toArray⟩ cap).size, (bytesRow ⟨bs.toArray⟩ cap).size + 1))).drew).heap.size = w.heap.size + 1 ∧
    Lies ((w.alloc (.cells (bytesRow ⟨bs.toArray⟩ cap) 5 ((bytesRow ⟨bs.toArray⟩ cap).size, (bytesRow ⟨bs.toArray⟩ cap).size + 1))).drew) (fun i => i = w.heap.size) (some ⟨w.heap.size, 0, none⟩) (bs.map bv) ∧
    ∀ j (h : j < bs.length), ((w.alloc (.cells (bytesRow ⟨bs.toArray⟩ cap) 5 ((bytesRow ⟨bs.toArray⟩ cap).size, (bytesRow ⟨bs.toArray⟩ cap).size + 1))).drew).cell? ⟨w.heap.size, j, none⟩ = some (bv bs[j]) ∧
      ((w.alloc (.cells (bytesRow ⟨bs.toArray⟩ cap) 5 ((bytesRow ⟨bs.toArray⟩ cap).size, (bytesRow ⟨bs.toArray⟩ cap).size + 1))).drew).frozen? ⟨w.heap.size, j, none⟩ = false :=
  ⟨((Below.refl _ _).alloc (Nat.le_refl _) _).drew, by show (w.alloc _).heap.size = _; simp, row_lies _ _ _ _, fun j h => ⟨row_cell _ _ _ _ j h, row_frozen _ _ _ j h⟩⟩

end Go.Proofs.Ytniedfilhilhhaa
