/- A disk and the document's disk, side by side in memory: the state of BlocksPlays. -/
import Derived.Test.YtniedfilhilhhaaLike
namespace Go.Proofs.Ytniedfilhilhhaa
open Go.RowKit

/-- The disk s at g, r; the document's disk t in the variable at m, its rows at A. -/
structure Both (w0 w : World) (g r m : Nat) (s t : DS) (A : Option Addr) (c : Nat) : Prop where
  d : Dk w g r s
  b : Blk w m 30 #[.slice A t.l.length c, .int .i64 t.left, .int .i64 (t.torn : Int), .bool t.down]
  l : Lies w (fun j => w0.heap.size ≤ j ∧ j ≠ g ∧ j ≠ r ∧ j ≠ m) A (t.l.map sv)
  o : Below w0.heap.size w0 w
  lo : w0.heap.size ≤ g ∧ w0.heap.size ≤ r ∧ w0.heap.size ≤ m
  ne : g ≠ m ∧ r ≠ m

section
variable {w0 w w' : World} {g r m : Nat} {s t : DS} {A : Option Addr} {c : Nat}
theorem Both.lts (h : Both w0 w g r m s t A c) : g < w.heap.size ∧ r < w.heap.size ∧ m < w.heap.size ∧ w0.heap.size ≤ w.heap.size := ⟨h.d.lt.1, h.d.lt.2, h.b.lt, h.o.size⟩
theorem Both.chg {S : Nat → Prop} (h : Both w0 w g r m s t A c) (hc : Chg S w w') (hs : ∀ j, S j → w.heap.size ≤ j) : Both w0 w' g r m s t A c := by
  obtain ⟨h1, h2, h3, h4⟩ := h.lts
  refine ⟨h.d.chg hc (fun e => by have := hs _ e; omega) (fun e => by have := hs _ e; omega), h.b.chg hc (fun e => by have := hs _ e; omega), fun hn => ?_, below_chg h.o hc (fun i hi e => by have := hs _ e; omega) h.o.size, h.lo, h.ne⟩
  obtain ⟨ad, e, hb, hQ, hcell⟩ := h.l hn
  exact ⟨ad, e, Nat.lt_of_lt_of_le hb hc.size, hQ, fun j u hu => hc.cell (hcell j u hu) (by rw [blk_add]; intro e; have := hs _ e; omega)⟩
theorem Both.new (h : Both w0 w g r m s t A c) (hb : Below w.heap.size w w') : Both w0 w' g r m s t A c := h.chg (Chg.new hb (fun _ => False)) (fun _ e => e.elim)
theorem Both.alloc (h : Both w0 w g r m s t A c) (o : Obj) : Both w0 (w.alloc o) g r m s t A c := h.chg ((Chg.refl (fun _ => False) w).alloc o) (fun _ e => e.elim)
theorem Both.drewN (h : Both w0 w g r m s t A c) (n : Nat) : Both w0 (w.drewN n) g r m s t A c := h.chg ((Chg.refl (fun _ => False) w).drewN n) (fun _ e => e.elim)
theorem Both.disk {s' : DS} {S : Nat → Prop} (h : Both w0 w g r m s t A c) (hk : Dk w' g r s') (hc : Chg S w w') (hS : ∀ j, S j → j = g ∨ j = r) : Both w0 w' g r m s' t A c := by
  have hne := h.ne
  have hlo := h.lo
  exact ⟨hk, h.b.chg hc (fun e => by rcases hS _ e with e | e <;> omega), h.l.chg hc (fun i hi e => by rcases hS _ e with e | e <;> omega), below_chg h.o hc (fun i _ e => by rcases hS _ e with e | e <;> omega) h.o.size, h.lo, h.ne⟩
/-- The four cells of the document's disk, written anew. -/
abbrev put4 (w : World) (m : Nat) (A : Option Addr) (c : Nat) (t : DS) : World :=
  (((w.setCell ⟨m, 0, none⟩ (.slice A t.l.length c)).setCell ⟨m, 1, none⟩ (.int .i64 t.left)).setCell ⟨m, 2, none⟩ (.int .i64 (t.torn : Int))).setCell ⟨m, 3, none⟩ (.bool t.down)
theorem Both.put {t' : DS} {A' : Option Addr} {c' : Nat} (h : Both w0 w g r m s t A c) (hl : Lies w (fun j => w0.heap.size ≤ j ∧ j ≠ g ∧ j ≠ r ∧ j ≠ m) A' (t'.l.map sv)) : Both w0 (put4 w m A' c' t') g r m s t' A' c' := by
  have hne := h.ne
  have hc : Chg (· = m) w (put4 w m A' c' t') :=
    (((Chg.at_ w m 0 _).trans (Chg.at_ _ m 1 _) (fun _ _ e => e)).trans (Chg.at_ _ m 2 _) (fun _ _ e => e)).trans (Chg.at_ _ m 3 _) (fun _ _ e => e)
  refine ⟨h.d.chg hc (fun e => hne.1 e) (fun e => hne.2 e), ?_, lies4 hl (fun i hi => hi.2.2.2) _ _ _ _, below_chg h.o hc (fun i _ e => by rw [e]; exact h.lo.2.2) h.o.size, h.lo, h.ne⟩
  have h1 := (((h.b.put 0 (.slice A' t'.l.length c')).put 1 (.int .i64 t'.left)).put 2 (.int .i64 (t'.torn : Int))).put 3 (.bool t'.down)
  simpa using h1
theorem Both.q (h : Both w0 w g r m s t A c) : ∀ i, w.heap.size ≤ i → w0.heap.size ≤ i ∧ i ≠ g ∧ i ≠ r ∧ i ≠ m := by
  intro i hi
  have := h.lts
  omega
end

/-- What is done, by numbers. -/
structure Do where
  kind : Int
  i : Int
  seed : Nat
  len : Nat
  n : Int
  torn : Int

/-- The acts that came in, as they lie. -/
def DosAt (w : World) (A : Option Addr) (l : List Do) : Prop := ∀ i (h : i < l.length), ∃ ad, A = some ad ∧ ad.block < w.heap.size ∧
  (w.cell? (ad.add (i * 6)) = some (.int .i64 l[i].kind) ∧ w.cell? ⟨(ad.add (i * 6)).block, (ad.add (i * 6)).off + 1, none⟩ = some (.int .i64 l[i].i) ∧
  w.cell? ⟨(ad.add (i * 6)).block, (ad.add (i * 6)).off + 2, none⟩ = some (.int .u8 (l[i].seed : Int)) ∧ w.cell? ⟨(ad.add (i * 6)).block, (ad.add (i * 6)).off + 3, none⟩ = some (.int .u8 (l[i].len : Int)) ∧
  w.cell? ⟨(ad.add (i * 6)).block, (ad.add (i * 6)).off + 4, none⟩ = some (.int .i64 l[i].n) ∧ w.cell? ⟨(ad.add (i * 6)).block, (ad.add (i * 6)).off + 5, none⟩ = some (.int .i64 l[i].torn)) ∧
  l[i].seed < 256 ∧ l[i].len < 256 ∧ l[i].n ≤ 9223372036854775807

theorem box6 {w : World} {g : Nat} {a b c d e f : Value} (h : Blk w g 34 #[a, b, c, d, e, f]) : w.cell? ⟨g, 0, none⟩ = some a ∧ w.cell? ⟨g, 1, none⟩ = some b ∧ w.cell? ⟨g, 2, none⟩ = some c ∧ w.cell? ⟨g, 3, none⟩ = some d ∧ w.cell? ⟨g, 4, none⟩ = some e ∧ w.cell? ⟨g, 5, none⟩ = some f :=
  ⟨h.cell 0, h.cell 1, h.cell 2, h.cell 3, h.cell 4, h.cell 5⟩

end Go.Proofs.Ytniedfilhilhhaa
