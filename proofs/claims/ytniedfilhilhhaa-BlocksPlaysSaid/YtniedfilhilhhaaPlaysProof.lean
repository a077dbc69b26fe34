/- BlocksPlays holds: whatever number and whatever acts come in, in whatever memory: what the disk tells, and its blocks, are the document's, step by step; the answer is true and the arguments read as they did. No condition. -/
import Derived.Test.YtniedfilhilhhaaRows
import Derived.Test.YtniedfilhilhhaaPlaysWalk
import Derived.WalkKit
import Derived.ProofKit
import Derived.OpenShut
import Derived.ShutString
import Derived.ChangeOld
import Derived.Below
import Derived.Deep.Slices
import Derived.Deep.Fields
import Derived.ChangeSame
namespace Go.Proofs.Ytniedfilhilhhaa.blocksPlays
open Go.ChangeShapes Go.WideShapes Go.ChangeAt Go.RowKit Go.Deep
open Go.ChangeMaps (open_string shut_string)

theorem own : ownKnob Try.prog.godebug = none := by kernel_rfl
theorem laidOut : laidOutB Try.prog = true := by kernel_rfl

/-! ### A slice of structs of cells that came in, opened -/
section
variable {H : Type} {enc : TypeId × Value → H} {P : Program} {w : World} {base : Nat} {spare : Nat → Bool} {held : Bool}
theorem open_slice_fields {t e : TypeId} {fs : Array Field} {fuel : Nat} {cs : List Value} {x : DataW H × List MemPlace} (ht : P.underlying t = some (.slice e)) (he : P.underlying e = some (.struct fs))
    (hone : oneCellFields P fs = true) (hC : P.cellsOf e = fs.size) (h : DataW.trod enc P w base spare held fuel t cs = some x) :
    (cs = [.slice none 0 0] ∧ x = (.nil, [])) ∨
    ∃ (a : Addr) (len cap m : Nat) (D : Nat → DataW H) (Pl : Nat → List MemPlace), cs = [.slice (some a) len cap] ∧ base ≤ a.block ∧ len ≤ cap ∧ cap ≤ maxLen ∧ m = (if spare a.block then cap else len) ∧
      x = (.slice ((List.range len).map D) ((List.range (m - len)).map fun j => D (len + j)), MemPlace.row a (m * fs.size) ++ (List.range m).flatMap Pl) ∧
      ∀ i, i < m → ∃ (ys : List (DataW H × List MemPlace)) (n : Nat), D i = .agg (ys.map (·.1)) ∧ Pl i = ys.flatMap (·.2) ∧ ys.length = fs.size ∧
        ∀ (j : Nat) (f : Field), fs[j]? = some f → ∃ (v : Value) (y : DataW H × List MemPlace), w.cell? (a.add (i * fs.size + j)) = some v ∧ ys[j]? = some y ∧ DataW.trod enc P w base spare held n f.type [v] = some y := by
  rcases open_slice ht h with h0 | ⟨a, len, cap, m, n, D, Pl, hcs, hb, hl, hm, hmm, hx, hi⟩
  · exact .inl h0
  · refine .inr ⟨a, len, cap, m, D, Pl, hcs, hb, hl, hm, hmm, by rw [hC] at hx; exact hx, fun i him => ?_⟩
    obtain ⟨cs', hc, ht'⟩ := hi i him
    rw [hC] at hc
    obtain ⟨ys, n', hn', hy, hlen, hyl, hf⟩ := DataW.trod_struct he ht'
    obtain ⟨_, hcl, hat⟩ := World.cells?_some hc
    simp only [Prod.mk.injEq] at hy
    refine ⟨ys, n', hy.1, hy.2, hyl, fun j f hj => ?_⟩
    obtain ⟨ho, hk⟩ := hone_of hone j f hj
    have hjl : j < fs.size := (Array.getElem?_eq_some_iff.1 hj).1
    have hcell := hat j hjl
    have hv : cs'[j]? = some (cs'[j]'(by omega)) := List.getElem?_eq_getElem (by omega)
    have h1 := hf j f hj
    rw [ho, hk] at h1
    have hone' : (cs'.drop j).take 1 = [cs'[j]'(by omega)] := by
      rw [List.drop_eq_getElem_cons (by omega)]
      rfl
    rw [hone'] at h1
    have hys : ys[j]? = some (ys[j]'(by omega)) := List.getElem?_eq_getElem (by omega)
    refine ⟨_, _, ?_, hys, h1.trans hys⟩
    rw [← Go.Deep.add_add, hcell, hv]
end

theorem add_succ (a : Addr) (n j : Nat) (h : 0 < j) : a.add (n + j) = ⟨(a.add n).block, (a.add n).off + j, none⟩ := by
  have h1 : a.add (n + j) = ⟨a.block, a.off + (n + j), none⟩ := by
    unfold Addr.add
    rw [if_neg (by omega)]
  rw [h1, blk_add]
  have h2 : (a.add n).off = a.off + n := by
    unfold Addr.add
    split
    · omega
    · rfl
  rw [h2, Nat.add_assoc]

theorem list_of {P : Nat → Do → Prop} (n : Nat) (h : ∀ i, i < n → ∃ p, P i p) : ∃ l : List Do, n = l.length ∧ ∀ i (hi : i < l.length), P i l[i] := by
  induction n with
  | zero => exact ⟨[], rfl, by intro i hi; simp at hi⟩
  | succ n ih =>
    obtain ⟨l, hl, hp⟩ := ih (fun i hi => h i (by omega))
    obtain ⟨p, hq⟩ := h n (by omega)
    refine ⟨l ++ [p], by simp [hl], fun i hi => ?_⟩
    by_cases e : i < l.length
    · rw [List.getElem_append_left e]
      exact hp i e
    · have e' : i = l.length := by simp at hi; omega
      subst e'
      rw [List.getElem_append_right (Nat.le_refl _)]
      simpa [hl] using hq

/-- An act, as it lies. -/
def DoAt (w : World) (ad : Addr) (i : Nat) (d : Do) : Prop :=
  (w.cell? (ad.add (i * 6)) = some (.int .i64 d.kind) ∧ w.cell? ⟨(ad.add (i * 6)).block, (ad.add (i * 6)).off + 1, none⟩ = some (.int .i64 d.i) ∧
  w.cell? ⟨(ad.add (i * 6)).block, (ad.add (i * 6)).off + 2, none⟩ = some (.int .u8 (d.seed : Int)) ∧ w.cell? ⟨(ad.add (i * 6)).block, (ad.add (i * 6)).off + 3, none⟩ = some (.int .u8 (d.len : Int)) ∧
  w.cell? ⟨(ad.add (i * 6)).block, (ad.add (i * 6)).off + 4, none⟩ = some (.int .i64 d.n) ∧ w.cell? ⟨(ad.add (i * 6)).block, (ad.add (i * 6)).off + 5, none⟩ = some (.int .i64 d.torn)) ∧
  d.seed < 256 ∧ d.len < 256 ∧ d.n ≤ 9223372036854775807
/-- WHAT THE WALK IS TOLD OF THE ACTS THAT CAME IN. -/
def IsDos (w : World) (a : Option Addr) (len : Nat) : Prop := ∃ l : List Do, len = l.length ∧ DosAt w a l

theorem walk (n : Int) (a1 : Option Addr) (len1 cap1 : Nat) (w : World) (w1 : IsDos w a1 len1) :
    Calls Try.prog 3 #[.int .i64 n, .slice a1 len1 cap1] w fun e w' => e = .returned (.bool true) ∧ Below w.heap.size w w' := by
  obtain ⟨l, rfl, h⟩ := w1
  exact plays_walk w n a1 cap1 l h

def doFields : Array Field := #[{ name := "Kind", type := 3, offset := 0, embedded := false, tag := "", pkgPath := "", byteOffset := 0 }, { name := "I", type := 3, offset := 1, embedded := false, tag := "", pkgPath := "", byteOffset := 8 }, { name := "Seed", type := 5, offset := 2, embedded := false, tag := "", pkgPath := "", byteOffset := 16 }, { name := "Len", type := 5, offset := 3, embedded := false, tag := "", pkgPath := "", byteOffset := 17 }, { name := "N", type := 3, offset := 4, embedded := false, tag := "", pkgPath := "", byteOffset := 24 }, { name := "Torn", type := 3, offset := 5, embedded := false, tag := "", pkgPath := "", byteOffset := 32 }]
theorem do_of {H : Type} {enc : TypeId × Value → H} {w : World} {base : Nat} {spare : Nat → Bool} {held : Bool} {a : Addr} {i : Nat} {ys : List (DataW H × List MemPlace)} {n : Nat}
    (hf : ∀ (j : Nat) (f : Field), doFields[j]? = some f → ∃ (v : Value) (y : DataW H × List MemPlace), w.cell? (a.add (i * 6 + j)) = some v ∧ ys[j]? = some y ∧ DataW.trod enc Try.prog w base spare held n f.type [v] = some y) :
    ∃ p : Do, DoAt w a i p := by
  obtain ⟨v0, y0, c0, _, t0⟩ := hf 0 _ rfl
  obtain ⟨v1, y1, c1, _, t1⟩ := hf 1 _ rfl
  obtain ⟨v2, y2, c2, _, t2⟩ := hf 2 _ rfl
  obtain ⟨v3, y3, c3, _, t3⟩ := hf 3 _ rfl
  obtain ⟨v4, y4, c4, _, t4⟩ := hf 4 _ rfl
  obtain ⟨v5, y5, c5, _, t5⟩ := hf 5 _ rfl
  obtain ⟨k, e0, _, _⟩ := DataW.trod_int Try.underlying3 t0
  obtain ⟨x, e1, _, _⟩ := DataW.trod_int Try.underlying3 t1
  obtain ⟨s, e2, _, w2⟩ := DataW.trod_int Try.underlying5 t2
  obtain ⟨l, e3, _, w3⟩ := DataW.trod_int Try.underlying5 t3
  obtain ⟨m, e4, _, w4⟩ := DataW.trod_int Try.underlying3 t4
  obtain ⟨t, e5, _, _⟩ := DataW.trod_int Try.underlying3 t5
  obtain rfl : v0 = .int .i64 k := by simpa using e0
  obtain rfl : v1 = .int .i64 x := by simpa using e1
  obtain rfl : v2 = .int .u8 s := by simpa using e2
  obtain rfl : v3 = .int .u8 l := by simpa using e3
  obtain rfl : v4 = .int .i64 m := by simpa using e4
  obtain rfl : v5 = .int .i64 t := by simpa using e5
  have hs := bounds_u8 w2
  have hl := bounds_u8 w3
  have hm := bounds_i64 w4
  obtain ⟨S, rfl⟩ := Int.eq_ofNat_of_zero_le hs.1
  obtain ⟨L, rfl⟩ := Int.eq_ofNat_of_zero_le hl.1
  rw [add_succ a (i * 6) 1 (by decide)] at c1
  rw [add_succ a (i * 6) 2 (by decide)] at c2
  rw [add_succ a (i * 6) 3 (by decide)] at c3
  rw [add_succ a (i * 6) 4 (by decide)] at c4
  rw [add_succ a (i * 6) 5 (by decide)] at c5
  exact ⟨⟨k, x, S, L, m, t⟩, ⟨c0, c1, c2, c3, c4, c5⟩, by show S < 256; have := hs.2; omega, by show L < 256; have := hl.2; omega, hm.2⟩

/-! ### THE ROW's STEP -/
set_option maxRecDepth 100000 in
theorem lifted (os : Os) (started : os.Started) (H : Type) (enc : TypeId × Value → H) :
    ReturnsInHanded {} Try.checked os 3 .any (Rows.blocksPlaysSpec.pre6 enc Try.prog Try.f3 Rows.blocksPlaysRow.domain false) (Rows.blocksPlaysSpec.post enc Try.prog Try.f3 false true false false) := by
  refine returnsInHanded_of_change (C := Try.checked) own started (by kernel_rfl) Try.func3
    (ChangeSpec.witness6 (enc := enc) (C := Try.checked) false ⟨#[], #[.int .i64 0, .slice none 0 0], []⟩ 8 (by kernel_rfl) (by kernel_rfl) (by kernel_rfl) (by kernel_rfl)) ?_
  intro W base args ds gs before hval0 hW hcnd _
  have hval : ∀ (j : Nat) t v, Try.f3.params[j]? = some t → args[j]? = some v → Value.okWide Try.prog W .any base t v := hval0
  have hW' := hW
  obtain ⟨p, q, hA0, hV, rfl, hfz, hnd⟩ := hW
  have hA : DataW.TrodAll enc Try.prog W 0 (fun _ => true) true Try.f3.params.toList args.toList ds p := hA0
  rw [Try.params3] at hA hval
  obtain ⟨v0, vs0, d0, ds0, p0, q0, hargs, rfl, rfl, h0, r0⟩ := trodAll_cons hA
  obtain ⟨v1, vs1, d1, ds1, p1, q1, rfl, rfl, rfl, h1, r1⟩ := trodAll_cons r0
  obtain ⟨rfl, rfl, rfl⟩ := trodAll_nil r1
  obtain rfl : args = #[v0, v1] := by cases args; simp_all
  obtain ⟨rfl, rfl⟩ := trodVars_none hV
  obtain ⟨a1, len1, cap1, rfl⟩ := okWide_slice Try.underlying22 (hval 1 22 v1 rfl rfl)
  have k0 := h0
  have k1 := h1
  have lt0 : ∀ x ∈ p0, x.block < W.heap.size := by obtain ⟨m, hm⟩ := k0; exact DataW.trod_lt m _ _ _ hm
  have lt1 : ∀ x ∈ p1, x.block < W.heap.size := by obtain ⟨m, hm⟩ := k1; exact DataW.trod_lt m _ _ _ hm
  obtain ⟨n0, rfl⟩ : ∃ n, v0 = .int .i64 n := by
    obtain ⟨fuel, hf⟩ := h0
    rcases okWide_int Try.underlying3 (hval 0 3 v0 rfl rfl) with ⟨n, rfl, _⟩
    exact ⟨n, rfl⟩
  have w1 : IsDos W a1 len1 := by
    obtain ⟨fuel, hf⟩ := h1
    rcases open_slice_fields Try.underlying22 Try.underlying34 (by kernel_rfl) (by kernel_rfl) hf with ⟨hcs, _⟩ | ⟨x, l, c, m, D, Pl, hcs, _, hl, hm, hmm, _, hi⟩
    · simp [Value.cells] at hcs
      obtain ⟨rfl, rfl, rfl⟩ := hcs
      exact ⟨[], rfl, by intro i hi; simp at hi⟩
    · simp [Value.cells] at hcs
      obtain ⟨rfl, rfl, rfl⟩ := hcs
      have hlm : len1 ≤ m := by rw [hmm]; exact hl
      obtain ⟨ps, hlen, hps⟩ := list_of len1 (P := fun i p => DoAt W x i p) fun i hil => by
        obtain ⟨ys, n, _, _, _, hf⟩ := hi i (by omega)
        exact do_of hf
      refine ⟨ps, hlen, fun i hi => ⟨x, rfl, ?_, hps i hi⟩⟩
      have := World.block_lt_of_cell? _ _ (hps i hi).1.1
      rwa [blk_add] at this
  clear hA0 hval0
  refine (walk n0 a1 len1 cap1 W w1).mono fun e W' ⟨he, bel⟩ => ?_
  subst he
  exact ⟨_, rfl, _, _, _, [], _, [], hW', trodAll_mk1 (shut_bool Try.underlying4 _), (trodAll_cons_mk (Below.trod laidOut (by kernel_rfl) (of_decide_eq_true (by kernel_rfl)) k0 bel lt0) (trodAll_cons_mk (Below.trod laidOut (by kernel_rfl) (of_decide_eq_true (by kernel_rfl)) k1 bel lt1) trodAll_mk0)), rfl, bel.frame _, fun h => by cases h⟩

theorem over : Rows.blocksPlaysRow.holds Try.pinned (OpenSpec.ofChange Rows.blocksPlaysSpec) :=
  OpenClaim.holds_of_wide 3 Try.f3 rfl rfl rfl rfl rfl rfl rfl ⟨rfl, rfl, rfl, rfl, rfl⟩ rfl rfl rfl rfl rfl (by kernel_rfl) Try.func3 (by kernel_rfl)
    (of_decide_eq_true (by kernel_rfl)) (by unfold Func.isWrapper; first | (rw [if_pos (by decide +kernel)]; kernel_rfl) | (rw [if_neg (by decide +kernel)]; exact ⟨rfl, rfl⟩))
    (fun os started H enc _ => lifted os started H enc)

/-- ████ THE STATEMENT ████ -/
theorem proved : Rows.BlocksPlaysSaid := over
#print axioms proved
end Go.Proofs.Ytniedfilhilhhaa.blocksPlays
