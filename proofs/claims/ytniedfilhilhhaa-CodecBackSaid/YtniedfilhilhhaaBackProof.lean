/- CodecBack holds: whatever parts come in, in whatever memory: what is put, one behind the other, is the document's, and is read as it was; the answer is true and the argument reads as it did. No condition. -/
import Derived.Test.YtniedfilhilhhaaRows
import Derived.Test.YtniedfilhilhhaaBackWalk
import Derived.Test.YtniedfilhilhhaaRowOf
import Derived.WalkKit
import Derived.ProofKit
import Derived.OpenShut
import Derived.ShutString
import Derived.ChangeOld
import Derived.Below
import Derived.Deep.Slices
import Derived.Deep.Fields
import Derived.ChangeSame
namespace Go.Proofs.Ytniedfilhilhhaa.codecBack
open Go.ChangeShapes Go.WideShapes Go.ChangeAt Go.RowKit Go.Deep
open Go.ChangeMaps (open_string shut_string)

theorem own : ownKnob Try.prog.godebug = none := by kernel_rfl
theorem laidOut : laidOutB Try.prog = true := by kernel_rfl

/-! ### A slice of structs of cells that came in, opened -/
section
variable {H : Type} {enc : TypeId × Value → H} {P : Program} {w : World} {base : Nat} {spare : Nat → Bool} {held : Bool}
theorem open_slice_fields {t e : TypeId} {fs : Array Field} {fuel : Nat} {cs : List Value} {x : DataW H × List MemPlace} (ht : P.underlying t = some (.slice e)) (he : P.underlying e = some (.struct fs))
    (hone : oneCellFields P fs = true) (hC : P.cellsOf e = fs.size) (h : DataW.trod enc P w base spare held fuel t cs = some x) :
    (cs = [.slice none 0 0] ∧ x = (.nil, [])) ∨
    ∃ (a : Addr) (len cap m : Nat) (D : Nat → DataW H) (Pl : Nat → List MemPlace), cs = [.slice (some a) len cap] ∧ base ≤ a.block ∧ len ≤ cap ∧ cap ≤ maxLen ∧ m = (if spare a.block then cap else len) ∧
      x = (.slice ((List.range len).map D) ((List.range (m - len)).map fun j => D (len + j)), MemPlace.row a (m * fs.size) ++ (List.range m).flatMap Pl) ∧
      ∀ i, i < m → ∃ (ys : List (DataW H × List MemPlace)) (n : Nat), D i = .agg (ys.map (·.1)) ∧ Pl i = ys.flatMap (·.2) ∧ ys.length = fs.size ∧
        ∀ (j : Nat) (f : Field), fs[j]? = some f → ∃ (v : Value) (y : DataW H × List MemPlace), w.cell? (a.add (i * fs.size + j)) = some v ∧ ys[j]? = some y ∧ DataW.trod enc P w base spare held n f.type [v] = some y := by
  rcases open_slice ht h with h0 | ⟨a, len, cap, m, n, D, Pl, hcs, hb, hl, hm, hmm, hx, hi⟩
  · exact .inl h0
  · refine .inr ⟨a, len, cap, m, D, Pl, hcs, hb, hl, hm, hmm, by rw [hC] at hx; exact hx, fun i him => ?_⟩
    obtain ⟨cs', hc, ht'⟩ := hi i him
    rw [hC] at hc
    obtain ⟨ys, n', hn', hy, hlen, hyl, hf⟩ := DataW.trod_struct he ht'
    obtain ⟨_, hcl, hat⟩ := World.cells?_some hc
    simp only [Prod.mk.injEq] at hy
    refine ⟨ys, n', hy.1, hy.2, hyl, fun j f hj => ?_⟩
    obtain ⟨ho, hk⟩ := hone_of hone j f hj
    have hjl : j < fs.size := (Array.getElem?_eq_some_iff.1 hj).1
    have hcell := hat j hjl
    have hv : cs'[j]? = some (cs'[j]'(by omega)) := List.getElem?_eq_getElem (by omega)
    have h1 := hf j f hj
    rw [ho, hk] at h1
    have hone' : (cs'.drop j).take 1 = [cs'[j]'(by omega)] := by
      rw [List.drop_eq_getElem_cons (by omega)]
      rfl
    rw [hone'] at h1
    have hys : ys[j]? = some (ys[j]'(by omega)) := List.getElem?_eq_getElem (by omega)
    refine ⟨_, _, ?_, hys, h1.trans hys⟩
    rw [← Go.Deep.add_add, hcell, hv]
end

theorem add_succ (a : Addr) (n j : Nat) (h : 0 < j) : a.add (n + j) = ⟨(a.add n).block, (a.add n).off + j, none⟩ := by
  have h1 : a.add (n + j) = ⟨a.block, a.off + (n + j), none⟩ := by
    unfold Addr.add
    rw [if_neg (by omega)]
  rw [h1, blk_add]
  have h2 : (a.add n).off = a.off + n := by
    unfold Addr.add
    split
    · omega
    · rfl
  rw [h2, Nat.add_assoc]

theorem and_three (k : Int) : ∃ q : Nat, q < 4 ∧ bits .and .i64 k 3 = (q : Int) := by
  refine ⟨(BitVec.ofInt 64 k &&& BitVec.ofInt 64 3).toNat, ?_, ?_⟩
  · rw [BitVec.toNat_and]
    exact Nat.lt_of_le_of_lt Nat.and_le_right (by decide)
  · have h : (BitVec.ofInt 64 k &&& BitVec.ofInt 64 3).toNat < 4 := by
      rw [BitVec.toNat_and]
      exact Nat.lt_of_le_of_lt Nat.and_le_right (by decide)
    show IntKind.wrap .i64 ((BitVec.ofInt 64 k &&& BitVec.ofInt 64 3).toNat : Int) = _
    rw [IntKind.wrap_i64]
    omega

theorem list_of {P : Nat → PartS → Prop} (n : Nat) (h : ∀ i, i < n → ∃ p, P i p) : ∃ l : List PartS, n = l.length ∧ ∀ i (hi : i < l.length), P i l[i] := by
  induction n with
  | zero => exact ⟨[], rfl, by intro i hi; simp at hi⟩
  | succ n ih =>
    obtain ⟨l, hl, hp⟩ := ih (fun i hi => h i (by omega))
    obtain ⟨p, hq⟩ := h n (by omega)
    refine ⟨l ++ [p], by simp [hl], fun i hi => ?_⟩
    by_cases e : i < l.length
    · rw [List.getElem_append_left e]
      exact hp i e
    · have e' : i = l.length := by simp at hi; omega
      subst e'
      rw [List.getElem_append_right (Nat.le_refl _)]
      simpa [hl] using hq

/-- WHAT THE WALK IS TOLD OF THE PARTS THAT CAME IN. -/
def IsParts (w : World) (a : Option Addr) (len : Nat) : Prop := ∃ l : List PartS, len = l.length ∧ PartsAt w a l ∧ ∀ p ∈ l, p.x < 18446744073709551616

theorem walk (a0 : Option Addr) (len0 cap0 : Nat) (w : World) (w0 : IsParts w a0 len0) :
    Calls Try.prog 5 #[.slice a0 len0 cap0] w fun e w' => e = .returned (.bool true) ∧ Below w.heap.size w w' := by
  obtain ⟨l, rfl, h, hx⟩ := w0
  exact back_walk w a0 cap0 l h hx

def partFields : Array Field := #[{ name := "Kind", type := 3, offset := 0, embedded := false, tag := "", pkgPath := "", byteOffset := 0 }, { name := "X", type := 53, offset := 1, embedded := false, tag := "", pkgPath := "", byteOffset := 8 }, { name := "B", type := 35, offset := 2, embedded := false, tag := "", pkgPath := "", byteOffset := 16 }]
theorem part_of {H : Type} {enc : TypeId × Value → H} {w : World} {base : Nat} {spare : Nat → Bool} {held : Bool} {a : Addr} {i : Nat} {ys : List (DataW H × List MemPlace)} {n : Nat}
    (hf : ∀ (j : Nat) (f : Field), partFields[j]? = some f → ∃ (v : Value) (y : DataW H × List MemPlace), w.cell? (a.add (i * 3 + j)) = some v ∧ ys[j]? = some y ∧ DataW.trod enc Try.prog w base spare held n f.type [v] = some y) :
    ∃ p : PartS, PartAt w a i p ∧ p.x < 18446744073709551616 := by
  obtain ⟨v0, y0, c0, _, t0⟩ := hf 0 _ rfl
  obtain ⟨v1, y1, c1, _, t1⟩ := hf 1 _ rfl
  obtain ⟨v2, y2, c2, _, t2⟩ := hf 2 _ rfl
  obtain ⟨k, e0, _, _⟩ := DataW.trod_int Try.underlying3 t0
  obtain ⟨x, e1, _, wx⟩ := DataW.trod_int Try.underlying53 t1
  obtain rfl : v0 = .int .i64 k := by simpa using e0
  obtain rfl : v1 = .int .u64 x := by simpa using e1
  have hx := bounds_u64 wx
  obtain ⟨x, rfl⟩ := Int.eq_ofNat_of_zero_le hx.1
  obtain ⟨q, hq, hqe⟩ := and_three k
  rw [add_succ a (i * 3) 1 (by decide)] at c1
  rw [add_succ a (i * 3) 2 (by decide)] at c2
  have hb : ∃ (B : Option Addr) (c : Nat) (bs : List UInt8), v2 = .slice B bs.length c ∧ Lies w (fun _ => True) B (bs.map bv) := by
    rcases open_ints Try.underlying35 Try.underlying5 (by kernel_rfl) t2 with ⟨hcs, _⟩ | ⟨ad, len, cap, zs, hcs, _, hl, hm, hz, _, hcell, hwz⟩
    · obtain rfl : v2 = .slice none 0 0 := by simpa using hcs
      exact ⟨none, 0, [], rfl, Lies.nil _ _ _⟩
    · obtain rfl : v2 = .slice (some ad) len cap := by simpa using hcs
      have hz' : len ≤ zs.length := by rw [hz]; split <;> omega
      obtain ⟨bs, hlen, hbs⟩ := bytes_of_row (w := w) (a := some ad) (len := len) (cap := zs.length) (zs := zs) (.inr ⟨ad, rfl, hz', by rw [hz]; split <;> omega, rfl, hcell, hwz⟩)
      exact ⟨some ad, cap, bs, by rw [hlen], hbs⟩
  obtain ⟨B, c, bs, rfl, hbs⟩ := hb
  exact ⟨⟨q, x, bs⟩, ⟨k, B, c, c0, c1, c2, hbs, hqe, hq⟩, by have := hx.2; show x < _; omega⟩

/-! ### THE ROW's STEP -/
set_option maxRecDepth 100000 in
theorem lifted (os : Os) (started : os.Started) (H : Type) (enc : TypeId × Value → H) :
    ReturnsInHanded {} Try.checked os 5 .any (Rows.codecBackSpec.pre6 enc Try.prog Try.f5 Rows.codecBackRow.domain false) (Rows.codecBackSpec.post enc Try.prog Try.f5 false true false false) := by
  refine returnsInHanded_of_change (C := Try.checked) own started (by kernel_rfl) Try.func5
    (ChangeSpec.witness6 (enc := enc) (C := Try.checked) false ⟨#[], #[.slice none 0 0], []⟩ 8 (by kernel_rfl) (by kernel_rfl) (by kernel_rfl) (by kernel_rfl)) ?_
  intro W base args ds gs before hval0 hW hcnd _
  have hval : ∀ (j : Nat) t v, Try.f5.params[j]? = some t → args[j]? = some v → Value.okWide Try.prog W .any base t v := hval0
  have hW' := hW
  obtain ⟨p, q, hA0, hV, rfl, hfz, hnd⟩ := hW
  have hA : DataW.TrodAll enc Try.prog W 0 (fun _ => true) true Try.f5.params.toList args.toList ds p := hA0
  rw [Try.params5] at hA hval
  obtain ⟨v0, vs0, d0, ds0, p0, q0, hargs, rfl, rfl, h0, r0⟩ := trodAll_cons hA
  obtain ⟨rfl, rfl, rfl⟩ := trodAll_nil r0
  obtain rfl : args = #[v0] := by cases args; simp_all
  obtain ⟨rfl, rfl⟩ := trodVars_none hV
  obtain ⟨a0, len0, cap0, rfl⟩ := okWide_slice Try.underlying50 (hval 0 50 v0 rfl rfl)
  have k0 := h0
  have lt0 : ∀ x ∈ p0, x.block < W.heap.size := by obtain ⟨m, hm⟩ := k0; exact DataW.trod_lt m _ _ _ hm
  have w0 : IsParts W a0 len0 := by
    obtain ⟨fuel, hf⟩ := h0
    rcases open_slice_fields Try.underlying50 Try.underlying55 (by kernel_rfl) (by kernel_rfl) hf with ⟨hcs, _⟩ | ⟨x, l, c, m, D, Pl, hcs, _, hl, hm, hmm, _, hi⟩
    · simp [Value.cells] at hcs
      obtain ⟨rfl, rfl, rfl⟩ := hcs
      exact ⟨[], rfl, by intro i hi; simp at hi, by simp⟩
    · simp [Value.cells] at hcs
      obtain ⟨rfl, rfl, rfl⟩ := hcs
      have hlm : len0 ≤ m := by rw [hmm]; exact hl
      obtain ⟨ps, hlen, hps⟩ := list_of len0 (P := fun i p => PartAt W x i p ∧ p.x < 18446744073709551616) fun i hil => by
        obtain ⟨ys, n, _, _, _, hf⟩ := hi i (by omega)
        exact part_of hf
      refine ⟨ps, hlen, fun i hi => ⟨x, rfl, ?_, (hps i hi).1⟩, fun p hp => ?_⟩
      · obtain ⟨k, B, c', h1, _⟩ := (hps i hi).1
        have := World.block_lt_of_cell? _ _ h1
        rwa [blk_add] at this
      · obtain ⟨i, hi, rfl⟩ := List.mem_iff_getElem.1 hp
        exact (hps i hi).2
  clear hA0 hval0
  refine (walk a0 len0 cap0 W w0).mono fun e W' ⟨he, bel⟩ => ?_
  subst he
  exact ⟨_, rfl, _, _, _, [], _, [], hW', trodAll_mk1 (shut_bool Try.underlying4 _), (trodAll_cons_mk (Below.trod laidOut (by kernel_rfl) (of_decide_eq_true (by kernel_rfl)) k0 bel lt0) trodAll_mk0), rfl, bel.frame _, fun h => by cases h⟩

theorem over : Rows.codecBackRow.holds Try.pinned (OpenSpec.ofChange Rows.codecBackSpec) :=
  OpenClaim.holds_of_wide 5 Try.f5 rfl rfl rfl rfl rfl rfl rfl ⟨rfl, rfl, rfl, rfl, rfl⟩ rfl rfl rfl rfl rfl (by kernel_rfl) Try.func5 (by kernel_rfl)
    (of_decide_eq_true (by kernel_rfl)) (by unfold Func.isWrapper; first | (rw [if_pos (by decide +kernel)]; kernel_rfl) | (rw [if_neg (by decide +kernel)]; exact ⟨rfl, rfl⟩))
    (fun os started H enc _ => lifted os started H enc)

/-- ████ THE STATEMENT ████ -/
theorem proved : Rows.CodecBackSaid := over
#print axioms proved
end Go.Proofs.Ytniedfilhilhhaa.codecBack
