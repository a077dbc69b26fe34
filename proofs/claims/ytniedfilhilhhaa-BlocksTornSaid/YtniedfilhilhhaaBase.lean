/- Words of this claim's own for memory: which blocks a call may change, where the cells of a slice lie, append and text conversion over them. No program in sight. -/
import Derived.WalkKit
import Derived.WalkSpells
import Derived.WalkLawsBesides
import Derived.Maps.AppendAt
import Derived.Deep.AppendLies
import Derived.Deep.Draws
import Derived.Laws.Rows
import Derived.Laws.IdiomStrings
import Derived.Laws.BytesString
namespace Go.Proofs.Ytniedfilhilhhaa
open Go.RowKit

/-- How many bytes an array may have that append makes. -/
def room : Nat := 140737488355328
theorem room_le {n : Nat} (h : n ≤ room) : n ≤ 140737488355328 := h
theorem room_max {n : Nat} (h : n ≤ room) : n ≤ maxLen := by unfold room at h; unfold maxLen; omega

/-- A byte as a cell. -/
abbrev bv (b : UInt8) : Value := .int .u8 (b.toNat : Int)

theorem bv_one (l : List UInt8) : ∀ u ∈ l.map bv, u.oneCell' = true := by
  intro u hu
  obtain ⟨b, _, rfl⟩ := List.mem_map.1 hu
  rfl

theorem blk_add (a : Addr) (n : Nat) : (a.add n).block = a.block := by
  unfold Addr.add
  split <;> rfl

theorem add_comp (a : Addr) (i j : Nat) : (a.add i).add j = a.add (i + j) := by
  unfold Addr.add
  by_cases hi : i = 0 <;> by_cases hj : j = 0 <;> simp [hi, hj, Nat.add_assoc]

theorem add_none (b o i : Nat) : (⟨b, o, none⟩ : Addr).add i = ⟨b, o + i, none⟩ := by
  unfold Addr.add
  split
  · simp_all
  · rfl

/-- From w to w' only blocks in S, and new ones, have changed. -/
structure Chg (S : Nat → Prop) (w w' : World) : Prop where
  os : w'.os = w.os
  tape : w'.tape = w.tape
  output : w'.output = w.output
  size : w.heap.size ≤ w'.heap.size
  block : ∀ k, k < w.heap.size → ¬ S k → w'.heap[k]? = w.heap[k]?

section
variable {S S' : Nat → Prop} {a w w' : World}
theorem Chg.refl (S : Nat → Prop) (w : World) : Chg S w w := ⟨rfl, rfl, rfl, Nat.le_refl _, fun _ _ _ => rfl⟩
theorem Chg.trans (h : Chg S a w) (k : Chg S' w w') (hs : ∀ i, i < a.heap.size → S' i → S i) : Chg S a w' :=
  ⟨k.os.trans h.os, k.tape.trans h.tape, k.output.trans h.output, Nat.le_trans h.size k.size, fun i hi hn =>
    (k.block i (Nat.lt_of_lt_of_le hi h.size) (fun e => hn (hs i hi e))).trans (h.block i hi hn)⟩
theorem Chg.mono (h : Chg S w w') (hs : ∀ i, i < w.heap.size → S i → S' i) : Chg S' w w' :=
  ⟨h.os, h.tape, h.output, h.size, fun i hi hn => h.block i hi (fun e => hn (hs i hi e))⟩
theorem Chg.drew (h : Chg S a w) : Chg S a w.drew := ⟨h.os, h.tape, h.output, h.size, h.block⟩
theorem Chg.drewN (h : Chg S a w) (n : Nat) : Chg S a (w.drewN n) := ⟨h.os, h.tape, h.output, h.size, h.block⟩
theorem Chg.alloc (h : Chg S a w) (o : Obj) : Chg S a (w.alloc o) :=
  ⟨h.os, h.tape, h.output, Nat.le_trans h.size (by simp), fun i hi hn => (Below.heap_alloc w o i (Nat.lt_of_lt_of_le hi h.size)).trans (h.block i hi hn)⟩
theorem Chg.setCell (h : Chg S a w) {p : Addr} (hp : S p.block ∨ a.heap.size ≤ p.block) (u : Value) : Chg S a (w.setCell p u) :=
  ⟨h.os, h.tape, h.output, by simpa [World.setCell] using h.size, fun i hi hn => (Below.heap_setCell w p u i (by
    rintro rfl
    rcases hp with hp | hp
    · exact hn hp
    · omega)).trans (h.block i hi hn)⟩
theorem Chg.below {B : Nat} (h : Chg S w w') (hB : B ≤ w.heap.size) (hs : ∀ i, S i → B ≤ i) : Below B w w' :=
  ⟨h.os, h.tape, h.output, h.size, fun i hi => h.block i (by omega) (fun e => by have := hs i e; omega)⟩
theorem Chg.of_below {B : Nat} (h : Below B w w') (hs : ∀ i, i < w.heap.size → B ≤ i → S i) : Chg S w w' :=
  ⟨h.os, h.tape, h.output, h.size, fun i hi hn => h.block i (Nat.lt_of_not_le fun e => hn (hs i hi e))⟩
theorem Chg.new (h : Below w.heap.size w w') (S : Nat → Prop) : Chg S w w' := Chg.of_below h (fun _ h1 h2 => absurd h1 (by omega))
theorem Chg.grown {row : Option Nat} (h : w.grownBy w' row) (hs : ∀ i, some i = row → S i) : Chg S w w' :=
  ⟨h.os, h.tape, h.output, h.size, fun i hi hn => h.block i hi (fun e => hn (hs i e))⟩
theorem Chg.cell (h : Chg S w w') {p : Addr} {v : Value} (hc : w.cell? p = some v) (hp : ¬ S p.block) : w'.cell? p = some v :=
  (World.cell?_of_block (h.block p.block (World.block_lt_of_cell? w p hc) hp)).trans hc
end

/-- Block g is just these cells. -/
def Blk (w : World) (g : Nat) (t : TypeId) (cs : Array Value) : Prop := w.heap[g]? = some (.cells cs t (0, 0))

section
variable {S : Nat → Prop} {w w' : World} {g : Nat} {t : TypeId} {cs : Array Value}
theorem Blk.lt (h : Blk w g t cs) : g < w.heap.size := by
  rcases Nat.lt_or_ge g w.heap.size with hlt | hge
  · exact hlt
  · unfold Blk at h; rw [Array.getElem?_eq_none hge] at h; cases h
theorem Blk.cell (h : Blk w g t cs) (i : Nat) : w.cell? ⟨g, i, none⟩ = cs[i]? := cell_of_row w g i cs t (0, 0) h
theorem Blk.frozen (h : Blk w g t cs) (i : Nat) : w.frozen? ⟨g, i, none⟩ = false := by
  unfold Blk at h
  simp [World.frozen?, h]
theorem Blk.new (w : World) (t : TypeId) (cs : Array Value) : Blk (w.alloc (.cells cs t)) w.heap.size t cs := heap_alloc_new w _
theorem Blk.drew (h : Blk w g t cs) : Blk w.drew g t cs := h
theorem Blk.alloc (h : Blk w g t cs) (o : Obj) : Blk (w.alloc o) g t cs := (Below.heap_alloc w o g h.lt).trans h
theorem Blk.put (h : Blk w g t cs) (i : Nat) (u : Value) : Blk (w.setCell ⟨g, i, none⟩ u) g t (cs.setIfInBounds i u) := by
  unfold Blk at h ⊢
  simp [World.setCell, Array.getElem?_modify, h]
theorem Blk.chg (h : Blk w g t cs) (k : Chg S w w') (hg : ¬ S g) : Blk w' g t cs := (k.block g h.lt hg).trans h
theorem Blk.other {g' : Nat} {t' : TypeId} {cs' : Array Value} (h : Blk w g t cs) (h' : Blk w g' t' cs') (hne : t ≠ t') : g ≠ g' := by
  rintro rfl
  unfold Blk at h h'
  rw [h] at h'
  injection h' with h'
  injection h' with _ ht
  exact hne ht
end

/-- The cells xs lie at A, in a block that Q lets in. -/
def Lies (w : World) (Q : Nat → Prop) (A : Option Addr) (xs : List Value) : Prop :=
  xs ≠ [] → ∃ ad, A = some ad ∧ ad.block < w.heap.size ∧ Q ad.block ∧ ∀ j u, xs[j]? = some u → w.cell? (ad.add j) = some u

section
variable {S Q Q' : Nat → Prop} {w w' : World} {A : Option Addr} {xs : List Value}
theorem Lies.nil (w : World) (Q : Nat → Prop) (A : Option Addr) : Lies w Q A [] := fun h => absurd rfl h
theorem Lies.chg (h : Lies w Q A xs) (k : Chg S w w') (hq : ∀ i, Q i → ¬ S i) : Lies w' Q A xs := fun hn => by
  obtain ⟨ad, e, hb, hQ, hc⟩ := h hn
  exact ⟨ad, e, Nat.lt_of_lt_of_le hb k.size, hQ, fun j u hu => k.cell (hc j u hu) (by rw [blk_add]; exact hq _ hQ)⟩
theorem Lies.mono (h : Lies w Q A xs) (hq : ∀ i, i < w.heap.size → Q i → Q' i) : Lies w Q' A xs := fun hn => by
  obtain ⟨ad, e, hb, hQ, hc⟩ := h hn
  exact ⟨ad, e, hb, hq _ hb hQ, hc⟩
theorem Lies.take (h : Lies w Q A xs) (n : Nat) : Lies w Q A (xs.take n) := fun hn => by
  obtain ⟨ad, e, hb, hQ, hc⟩ := h (fun e => hn (by rw [e]; simp))
  refine ⟨ad, e, hb, hQ, fun j u hu => hc j u ?_⟩
  rw [List.getElem?_take] at hu
  split at hu
  · exact hu
  · cases hu
theorem Lies.drop (h : Lies w Q A xs) {k : Nat} : Lies w Q (A.map (·.add k)) (xs.drop k) := fun hn => by
  obtain ⟨ad, rfl, hb, hQ, hc⟩ := h (fun e => hn (by rw [e]; simp))
  refine ⟨ad.add k, rfl, by rw [blk_add]; exact hb, by rw [blk_add]; exact hQ, fun j u hu => ?_⟩
  rw [add_comp]
  exact hc _ u (by rw [← hu, List.getElem?_drop])
theorem Lies.cut (h : Lies w Q A xs) {k cap : Nat} (hc : xs.length ≤ cap) : Lies w Q (if cap = k then A else A.map (·.add k)) (xs.drop k) := by
  split
  · subst_vars
    rw [List.drop_eq_nil_of_le hc]
    exact Lies.nil _ _ _
  · exact h.drop
theorem Lies.of_own {base : Nat} {e : TypeId} {size n : Nat} {v : Value} {c : Nat} (h : w.ownsRow base e size v n xs) (hv : v = .slice A n c) (hq : ∀ g, v.ownBlock = some g → Q g) : Lies w Q A xs := by
  intro hn
  have hpos : 0 < n := by
    rcases Nat.eq_zero_or_pos n with h0 | h0
    · exact absurd (List.eq_nil_of_length_eq_zero (by rw [h.1, h0, Nat.zero_mul])) hn
    · exact h0
  obtain ⟨g, cap, hv', _, hlt⟩ := h.form hpos
  rw [hv] at hv'
  injection hv' with hA
  subst hA
  exact ⟨_, rfl, hlt, hq g (by rw [hv]; rfl), h.cells (g := g) (by rw [hv]; rfl)⟩
end

/-- What an owned value looks like. -/
theorem own_shape {w : World} {base : Nat} {e : TypeId} {size n : Nat} {v : Value} {xs : List Value} (h : w.ownsRow base e size v n xs) : ∃ A c, v = .slice A n c ∧ n ≤ c := by
  rcases h.2 with ⟨rfl, h0⟩ | ⟨g, cap, cur, rfl, _, _, hnc, _⟩
  · subst h0
    exact ⟨_, _, rfl, Nat.le_refl _⟩
  · exact ⟨_, _, rfl, hnc⟩

theorem own_chg {S : Nat → Prop} {w w' : World} {base : Nat} {e : TypeId} {size n : Nat} {v : Value} {xs : List Value} (h : w.ownsRow base e size v n xs) (k : Chg S w w') (hs : ∀ g, v.ownBlock = some g → ¬ S g) : w'.ownsRow base e size v n xs := by
  refine ⟨h.1, ?_⟩
  rcases h.2 with hn | ⟨g, cap, cur, rfl, hb, hgg, rest⟩
  · exact .inl hn
  · refine .inr ⟨g, cap, cur, rfl, hb, ?_, rest⟩
    rw [k.block g (Array.getElem?_eq_some_iff.1 hgg).1 (hs g rfl)]
    exact hgg

theorem own_blk_ne {w : World} {base : Nat} {e t : TypeId} {size n g : Nat} {v : Value} {xs : List Value} {cs : Array Value} (h : w.ownsRow base e size v n xs) (hg : Blk w g t cs) (hne : e ≠ t) : v.ownBlock ≠ some g := by
  rcases h.2 with ⟨rfl, _⟩ | ⟨g', cap, cur, rfl, _, hh, _⟩
  · simp [Value.ownBlock]
  · intro he
    have : g' = g := by simpa [Value.ownBlock] using he
    subst this
    exact Blk.other (t := e) hh hg hne rfl

section
variable {P : Program} (w : World)

theorem run_append_src (base : Nat) (t ty e : TypeId) (i : TypeInfo) (z : Value) (size bytes : Nat) (ht : P.underlying t = some (.slice e)) (hi : P.info? e = some i) (hz : i.zero = some z)
    (hsize : i.size = size) (hby : i.bytes = bytes) (hzs : z.cells.size = size) (hsz : 0 < size)
    (v : Value) (n : Nat) (xs : List Value) (hown : w.ownsRow base e size v n xs)
    (Q : Nat → Prop) (A : Option Addr) (m c : Nat) (news : List Value) (hl : news.length = m * size) (hr : Lies w Q A news) (h1 : ∀ u ∈ news, u.oneCell' = true)
    (h63 : n + m ≤ maxLen) (hbytes : (n + m) * bytes ≤ 140737488355328) (hbase : base ≤ w.heap.size) :
    ∃ A' c' w', (Builtin.append_ #[t, t] ty #[v, .slice A m c]).run P w = .ok (.slice A' (n + m) c') w' ∧ w'.ownsRow base e size (.slice A' (n + m) c') (n + m) (xs ++ news) ∧ w.grownBy w' v.ownBlock ∧
      ((Value.slice A' (n + m) c').ownBlock = v.ownBlock ∨ (Value.slice A' (n + m) c').ownBlock = some w.heap.size) := by
  have hnil : news = [] ↔ m = 0 := by
    constructor
    · intro h
      rw [h] at hl
      rcases Nat.mul_eq_zero.1 hl.symm with h | h
      · exact h
      · omega
    · intro h; subst h; exact List.eq_nil_of_length_eq_zero (by simpa using hl)
  rcases A with _ | ad
  · have hm : m = 0 := by
      by_cases h : news = []
      · exact hnil.1 h
      · obtain ⟨_, h', _⟩ := hr h
        cases h'
    subst hm
    have hn : news = [] := hnil.2 rfl
    subst hn
    have hself : w.grownBy w v.ownBlock := ⟨rfl, rfl, rfl, Nat.le_refl _, fun _ _ _ => rfl⟩
    rcases hown.2 with ⟨rfl, rfl⟩ | ⟨g, cap, cur, rfl, _, _, hnc, _⟩
    · refine ⟨none, 0, w, ?_, by simpa using hown, hself, .inl rfl⟩
      simp [Builtin.append_, run_underlying ht, sizeOf, typeInfo, hi, Builtin.lenOf, Builtin.firstCells]
    · refine ⟨some ⟨g, 0, none⟩, cap, w, ?_, by simpa using hown, hself, .inl rfl⟩
      simp [Builtin.append_, run_underlying ht, sizeOf, typeInfo, hi, Builtin.lenOf, Builtin.firstCells, hnc, storeCells]
  · have hcells : ∀ j u, news[j]? = some u → w.cell? (ad.add j) = some u := by
      intro j u hu
      by_cases h : news = []
      · subst h; simp at hu
      · obtain ⟨ad', h', _, _, hc⟩ := hr h
        injection h' with h'
        subst h'
        exact hc j u hu
    obtain ⟨v', w', hrun, h2, h3, _, h5⟩ := run_append_own_at (P := P) w base t ty e i z size bytes ht hi hz hsize hby hzs hsz v n xs hown ad m c news hl hcells h1 h63 hbytes hbase
    obtain ⟨A', c', rfl, _⟩ := own_shape h2
    exact ⟨A', c', w', hrun, h2, h3, h5⟩

theorem wp_append_src {o : Oper} {a : Act} {K : Act → World → Prop} {Q : Exit → Act → World → Prop} (s x : Operand) (t : TypeId)
    (ho : o.op = .call { callee := .builtin .append, args := #[s, x], argTypes := #[t, t] })
    (base : Nat) (e : TypeId) (i : TypeInfo) (z : Value) (size bytes : Nat) (ht : P.underlying t = some (.slice e)) (hi : P.info? e = some i) (hz : i.zero = some z)
    (hsize : i.size = size) (hby : i.bytes = bytes) (hzs : z.cells.size = size) (hsz : 0 < size)
    (v : Value) (n : Nat) (xs : List Value) (hs : a.eval s = v) (hown : w.ownsRow base e size v n xs)
    (Qb : Nat → Prop) (A : Option Addr) (m c : Nat) (news : List Value) (hx : a.eval x = .slice A m c) (hl : news.length = m * size) (hr : Lies w Qb A news) (h1 : ∀ u ∈ news, u.oneCell' = true)
    (h63 : n + m ≤ maxLen) (hbytes : (n + m) * bytes ≤ 140737488355328) (hbase : base ≤ w.heap.size)
    (h : ∀ A' c' w', w'.ownsRow base e size (.slice A' (n + m) c') (n + m) (xs ++ news) → w.grownBy w' v.ownBlock → ((Value.slice A' (n + m) c').ownBlock = v.ownBlock ∨ (Value.slice A' (n + m) c').ownBlock = some w.heap.size) → K (a.put o.dst (.slice A' (n + m) c')) w') : o.wp P a w K Q := by
  obtain ⟨A', c', w', hrun, h2, h3, h4⟩ := run_append_src (P := P) w base t o.type e i z size bytes ht hi hz hsize hby hzs hsz v n xs hown Qb A m c news hl hr h1 h63 hbytes hbase
  unfold Oper.wp execOp
  simp only [ho, resolve, invoke, builtin, Sem.run_bind, Sem.run_pure, Result.andThen_ok, List.map_toArray, List.map_cons, List.map_nil, hs, hx, hrun]
  exact h A' c' w' h2 h3 h4

theorem wpList_append_src {ops : Array Oper} {rest : List Oper} {o : Oper} {a : Act} {Q : Exit → Act → World → Prop} (hgd : o.guard = none) (s x : Operand) (t : TypeId)
    (ho : o.op = .call { callee := .builtin .append, args := #[s, x], argTypes := #[t, t] })
    (base : Nat) (e : TypeId) (i : TypeInfo) (z : Value) (size bytes : Nat) (ht : P.underlying t = some (.slice e)) (hi : P.info? e = some i) (hz : i.zero = some z)
    (hsize : i.size = size) (hby : i.bytes = bytes) (hzs : z.cells.size = size) (hsz : 0 < size)
    (v : Value) (n : Nat) (xs : List Value) (hs : a.eval s = v) (hown : w.ownsRow base e size v n xs)
    (Qb : Nat → Prop) (A : Option Addr) (m c : Nat) (news : List Value) (hx : a.eval x = .slice A m c) (hl : news.length = m * size) (hr : Lies w Qb A news) (h1 : ∀ u ∈ news, u.oneCell' = true)
    (h63 : n + m ≤ maxLen) (hbytes : (n + m) * bytes ≤ 140737488355328) (hbase : base ≤ w.heap.size)
    (h : ∀ A' c' w', w'.ownsRow base e size (.slice A' (n + m) c') (n + m) (xs ++ news) → w.grownBy w' v.ownBlock → ((Value.slice A' (n + m) c').ownBlock = v.ownBlock ∨ (Value.slice A' (n + m) c').ownBlock = some w.heap.size) → wpList P ops Q rest (a.put o.dst (.slice A' (n + m) c')) w') : wpList P ops Q (o :: rest) a w :=
  wpList_plain hgd fun _ hK => wp_append_src w s x t ho base e i z size bytes ht hi hz hsize hby hzs hsz v n xs hs hown Qb A m c news hx hl hr h1 h63 hbytes hbase fun A' c' w' h2 h3 h4 => hK _ _ (h A' c' w' h2 h3 h4)

/-- 's[k:]', the address under one name. -/
theorem run_slice_from (t e : TypeId) (ht : P.underlying t = some (.slice e)) (hz : ∀ w, (sizeOf e).run P w = .ok 1 w) (A : Option Addr) (len cap k : Nat) (hk : k ≤ len) (A2 : Option Addr) (hA : (if cap = k then A else A.map (·.add k)) = A2) :
    (Instr.slice t (.slice A len cap) (some (.int .i64 (k : Int))) none none).run P w = .ok (.slice A2 (len - k) (cap - k)) w := by
  subst hA
  simp [Instr.slice, run_underlying ht, Instr.sliceBounds, run_sliceBound, hk, hz]

/-- 'string(b)'. -/
theorem run_text (src dst e : TypeId) (Q : Nat → Prop) (A : Option Addr) (c : Nat) (l : List UInt8) (hs : P.underlying src = some (.slice e)) (he : P.underlying e = some (.int .u8)) (hd : P.underlying dst = some .string)
    (h : Lies w Q A (l.map bv)) : (convert src dst (.slice A l.length c)).run P w = .ok (.string ⟨l.toArray⟩) w := by
  rcases A with _ | ad
  · have hl : l = [] := by
      by_cases hn : l = []
      · exact hn
      · obtain ⟨_, h', _⟩ := h (by simpa using hn)
        cases h'
    subst hl
    rw [List.length_nil, run_convert_bytes_string w src dst e none 0 c hs he hd]
    simp [Conv.bytesToString, Sem.run_pure]
    rfl
  · refine run_convert_bytes_back w src dst e ad c l hs he hd (fun j hj => ?_)
    obtain ⟨ad', h', _, _, hc⟩ := h (by intro e; simp at e; subst e; simp at hj)
    injection h' with h'
    subst h'
    exact hc j _ (by simp [List.getElem?_eq_getElem hj])
end

end Go.Proofs.Ytniedfilhilhhaa
