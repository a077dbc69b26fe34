/- A disk of blocks: Read. -/
import Derived.Test.YtniedfilhilhhaaDisk2
import Derived.Test.YtniedfilhilhhaaRead2
namespace Go.Proofs.Ytniedfilhilhhaa
open Go.RowKit

theorem drop_flat {l : List (List UInt8)} (h : ∀ b ∈ l, b.length = 128) (i : Nat) (hi : i ≤ l.length) : l.flatten.drop (i * 128) = (l.drop i).flatten := by
  induction i generalizing l with
  | zero => simp
  | succ i ih =>
    cases l with
    | nil => simp at hi
    | cons a l =>
      have ha := h a (by simp)
      rw [List.flatten_cons, show (i + 1) * 128 = a.length + i * 128 by rw [ha]; omega, ← List.drop_drop, List.drop_left]
      exact ih (fun b hb => h b (by simp [hb])) (by simpa using hi)
theorem take_flat {l : List (List UInt8)} (h : ∀ b ∈ l, b.length = 128) (i : Nat) (hi : i ≤ l.length) : l.flatten.take (i * 128) = (l.take i).flatten := by
  induction i generalizing l with
  | zero => simp
  | succ i ih =>
    cases l with
    | nil => simp at hi
    | cons a l =>
      have ha := h a (by simp)
      rw [List.flatten_cons, show (i + 1) * 128 = a.length + i * 128 by rw [ha]; omega, List.take_length_add_append]
      rw [ih (fun b hb => h b (by simp [hb])) (by simpa using hi)]
      simp
theorem len_flat {l : List (List UInt8)} (h : ∀ b ∈ l, b.length = 128) : l.flatten.length = l.length * 128 := by
  induction l with
  | nil => rfl
  | cons a l ih =>
    rw [List.flatten_cons, List.length_append, h a (by simp), ih (fun b hb => h b (by simp [hb])), List.length_cons]
    omega

theorem flat_at {l : List (List UInt8)} (h : ∀ b ∈ l, b.length = 128) (i : Nat) (hi : i < l.length) (j : Nat) (hj : j < 128) : (flat l)[i * 128 + j]? = (l[i].map bv)[j]? := by
  have hd := drop_flat h i (Nat.le_of_lt hi)
  rw [List.drop_eq_getElem_cons hi, List.flatten_cons] at hd
  have hli := h l[i] (List.getElem_mem hi)
  unfold flat
  rw [List.getElem?_toArray, List.getElem?_map, List.getElem?_map, ← List.getElem?_drop, hd, List.getElem?_append_left (by omega)]

theorem Dk.row {w : World} {g r : Nat} {s : DS} (k : Dk w g r s) (i : Nat) (hi : i < s.l.length) : Lies w (· = r) (some ((⟨r, 0, none⟩ : Addr).add (i * 128))) (s.l[i].map bv) := by
  intro _
  refine ⟨_, rfl, by rw [blk_add]; exact k.2.1.lt, by rw [blk_add], fun j u hu => ?_⟩
  have hj : j < 128 := by
    have := (List.getElem?_eq_some_iff.1 hu).1
    have h2 := k.2.2.1 _ (List.getElem_mem hi)
    simp at this
    omega
  rw [add_none, add_none, k.2.1.cell, Nat.zero_add, flat_at k.2.2.1 i hi j hj]
  exact hu

/-- What a read answers. -/
def DS.read (s : DS) (i : Int) : List UInt8 := if s.fine i = 0 then s.l[i.toNat]?.getD [] else []
/-- Behind a read. -/
def Red (w : World) (t : List UInt8) (x : Int) (e : Ending) (w' : World) : Prop :=
  ∃ A c, e = .returned (.tuple #[.slice A t.length c, .int .i64 x]) ∧ w'.ownsRow w.heap.size 5 1 (.slice A t.length c) t.length (t.map bv) ∧ Below w.heap.size w w'

theorem fine_range {s : DS} {i : Int} (h : s.fine i = 0) : s.down = false ∧ 0 ≤ i ∧ i < s.l.length := by
  unfold DS.fine at h
  cases hd : s.down with
  | true => rw [hd] at h; simp at h
  | false =>
    rw [hd] at h
    simp only [Bool.false_eq_true, if_false] at h
    split at h
    · simp at h
    · refine ⟨rfl, ?_, ?_⟩ <;> omega

theorem dread_any (w : World) (g r : Nat) (s : DS) (i : Int) (k : Dk w g r s) : Calls Try.prog 18 #[ptr g, .int .i64 i] w (Red w (s.read i) (s.fine i)) := by
  have HK := Lib.hid k
  by_cases hf : s.fine i = 0
  · obtain ⟨hd, h0, hl⟩ := fine_range hf
    obtain ⟨n, rfl⟩ := Int.eq_ofNat_of_zero_le h0
    have hn : n < s.l.length := by omega
    have hr : s.read n = s.l[n] := by unfold DS.read; rw [if_pos hf]; simp [hn]
    generalize hb' : s.l[n] = b at hr
    have HB' := Lib.hid hb'
    have H128 : Hid (b.length = 128) := by have := k.2.2.1 _ (List.getElem_mem hn); rw [hb'] at this; exact this
    have HR := Lib.hid hr
    have HF := Lib.hid hf
    have HN := Lib.hid hn
    obtain ⟨⟨k0, k1, k2, k3⟩, _⟩ := k.facts
    clear k hr hf h0 hd hb'
    go_enter Try.func18, Try.ntmps18
    go_wp2_with fail
    refine (fine_any w g r s n HK.out).mono ?_
    rw [HF.out]
    rintro e w1 ⟨rfl, rfl⟩
    go_wp2_with fail
    have hrow := HK.out.row n HN.out
    rw [add_none, Nat.zero_add, HB'.out] at hrow
    have hc := clone_any w _ _ 128 b hrow (by rw [H128.out]; unfold room; omega)
    rw [H128.out] at hc
    refine hc.mono ?_
    rintro e w2 ⟨A, c, rfl, ho, hb⟩
    rw [H128.out] at ho
    go_wp2
    refine bodyPost_ret (v := .tuple #[.slice A 128 c, .int .i64 0]) (by simp [results, Try.results18, go_sem, H128.out]) rfl ?_
    rw [HR.out, HF.out]
    exact ⟨A, c, by rw [H128.out], by rw [H128.out]; exact ho, hb⟩
  · have hr : s.read i = [] := by unfold DS.read; rw [if_neg hf]
    have HR := Lib.hid hr
    have hf' : (s.fine i != 0) = true := by simpa using hf
    clear k hr hf
    go_enter Try.func18, Try.ntmps18
    go_wp2_with fail
    refine (fine_any w g r s i HK.out).mono ?_
    rintro e w1 ⟨rfl, rfl⟩
    go_wp2
    exact bodyPost_ret (v := .tuple #[.slice none 0 0, .int .i64 (s.fine i)]) (by simp [results, Try.results18, go_sem]) rfl (by rw [HR.out]; exact ⟨none, 0, rfl, World.ownsRow_nil _ _ _ _, Below.refl _ _⟩)

end Go.Proofs.Ytniedfilhilhhaa
