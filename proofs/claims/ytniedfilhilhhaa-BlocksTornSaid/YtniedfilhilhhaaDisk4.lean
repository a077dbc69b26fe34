/- A disk of blocks: Write. -/
import Derived.Test.YtniedfilhilhhaaDisk3
import Derived.Test.YtniedfilhilhhaaRead5
namespace Go.Proofs.Ytniedfilhilhhaa
open Go.RowKit

theorem put_flat {l : List (List UInt8)} (h : ∀ b ∈ l, b.length = 128) (n : Nat) (hn : n < l.length) (x : List UInt8) (hx : x.length ≤ 128) :
    ((flat l).toList.take (n * 128) ++ x.map bv ++ (flat l).toList.drop (n * 128 + (x.map bv).length)).toArray = flat (l.set n (x ++ l[n].drop x.length)) := by
  have hli := h l[n] (List.getElem_mem hn)
  have hd := drop_flat h n (Nat.le_of_lt hn)
  have ht := take_flat h n (Nat.le_of_lt hn)
  rw [List.drop_eq_getElem_cons hn, List.flatten_cons] at hd
  unfold flat
  simp only [List.length_map]
  rw [← List.map_take, ← List.map_drop, ← List.drop_drop, hd, ht, List.drop_append_of_le_length (by omega), List.set_eq_take_append_cons_drop, if_pos hn, ← List.map_append, ← List.map_append]
  simp [List.append_assoc]

theorem wrote_row (W : World) (ty : TypeId) (r n m : Nat) (ad : Addr) (cb : Nat) (b : List UInt8) (l : List (List UInt8)) (hr : Blk W r 96 (flat l)) (h : ∀ b ∈ l, b.length = 128) (hn : n < l.length) (hb : b.length = 128) (hm : m ≤ 128) (old : List UInt8) (ho : l[n]? = some old)
    (hcell : ∀ j u, (b.map bv)[j]? = some u → W.cell? (ad.add j) = some u) :
    (Builtin.copy_ #[35, 35] ty #[.slice (some ⟨r, n * 128, none⟩) m 128, .slice (some ad) 128 cb]).run Try.prog W = .ok (goInt m) (W.setRow r (flat (l.set n (b.take m ++ old.drop m)))) := by
  obtain rfl : l[n] = old := by rw [List.getElem?_eq_getElem hn] at ho; exact Option.some.inj ho
  have hx : (b.take m).length = m := by rw [List.length_take]; omega
  have hfl : (flat l).size = l.length * 128 := by unfold flat; simp only [List.size_toArray, List.length_map, len_flat h]
  have hr2 := run_copy_row (P := Try.prog) W 35 35 ty 5 r (n * 128) m 128 ad 128 cb (flat l) 96 ((b.take m).map bv) Try.underlying35 size5' hr (by rw [List.length_map, hx]; exact (Nat.min_eq_right hm).symm)
    (fun j u hu => hcell j u (by
      rw [List.map_take, List.getElem?_take] at hu
      split at hu
      · exact hu
      · cases hu)) (by rw [hfl, List.length_map, hx]; have : (n + 1) * 128 ≤ l.length * 128 := Nat.mul_le_mul_right _ hn; omega) (bv_one _)
  rw [put_flat h n hn (b.take m) (by omega), List.length_map, hx] at hr2
  exact hr2

/-- What a write does. -/
def DS.write (s : DS) (i : Int) (b : List UInt8) : DS × Int :=
  if s.fine i ≠ 0 then (s, s.fine i) else if b.length ≠ 128 then (s, 1) else
    if s.left = 0 then ({ s with l := s.l.set i.toNat (b.take s.torn ++ (s.l[i.toNat]?.getD []).drop s.torn), down := true }, 30)
    else ({ s with l := s.l.set i.toNat b, left := max (s.left - 1) (-1) }, 0)

/-- Behind a write. -/
def Wrote (w : World) (g r : Nat) (o : DS × Int) (e : Ending) (w' : World) : Prop := e = .returned (.int .i64 o.2) ∧ Dk w' g r o.1 ∧ Chg (fun k => k = g ∨ k = r) w w'

set_option maxRecDepth 100000 in
set_option maxHeartbeats 1600000 in
theorem dwrite_any (w : World) (Q : Nat → Prop) (g r : Nat) (s : DS) (i : Int) (B : Option Addr) (cb : Nat) (b : List UInt8) (k : Dk w g r s) (hb : Lies w Q B (b.map bv)) (hq : ∀ i, Q i → i ≠ g ∧ i ≠ r) :
    Calls Try.prog 14 #[ptr g, .int .i64 i, .slice B b.length cb] w (Wrote w g r (s.write i b)) := by
  have HK := Lib.hid k
  have HB := Lib.hid hb
  have HQ := Lib.hid hq
  clear hb hq
  by_cases hf : s.fine i = 0
  · obtain ⟨hd, h0, hl⟩ := fine_range hf
    obtain ⟨n, rfl⟩ := Int.eq_ofNat_of_zero_le h0
    have hn : n < s.l.length := by omega
    have HF := Lib.hid hf
    have HN := Lib.hid hn
    obtain ⟨old, ho, hol⟩ : ∃ old, s.l[n]? = some old ∧ old.length = 128 := ⟨s.l[n], List.getElem?_eq_getElem hn, k.2.2.1 _ (List.getElem_mem hn)⟩
    have HO := Lib.hid ho
    have HOL := Lib.hid hol
    clear ho hol
    have hne := k.ne
    obtain ⟨⟨k0, k1, k2, k3⟩, f0, f1, f2, f3⟩ := k.facts
    have HD := Lib.hid hd
    rw [hd] at k3
    by_cases h128 : b.length = 128
    · have H128 := Lib.hid h128
      have hbl : ((b.length : Int) != 128) = false := by rw [bne_eq_false_iff_eq]; omega
      by_cases hl0 : s.left = 0
      · have hw : s.write n b = ({ s with l := s.l.set n (b.take s.torn ++ old.drop s.torn), down := true }, 30) := by unfold DS.write; rw [if_neg (by simpa using hf), if_neg (by simpa using h128), if_pos hl0, Int.toNat_natCast, HO.out]; rfl
        have HW := Lib.hid hw
        have HL0 := Lib.hid hl0
        rw [hl0] at k1
        have ht : s.torn ≤ 128 := HK.out.2.2.2.2.2.2
        have ht' : (s.torn : Int) ≤ 128 := by omega
        clear k hw hl0 hf h0 hd
        go_enter Try.func14, Try.ntmps14
        go_wp2_with fail
        refine (fine_any w g r s n HK.out).mono ?_
        rw [HF.out]
        rintro e w1 ⟨rfl, rfl⟩
        have k8 := (HK.out.1.put 3 (.bool true))
        have r8 := HK.out.2.1.chg (Chg.at_ w g 3 (.bool true)) (fun e => hne e.symm)
        obtain ⟨ad, rfl, had, hQ, hcell⟩ := (HB.out.chg (Chg.at_ w g 3 (.bool true)) (fun i hi => (HQ.out i hi).1)) (by intro e; rw [List.map_eq_nil_iff] at e; rw [e] at H128; exact absurd H128.out (by decide))
        have hcp := fun ty => wrote_row (w.setCell ⟨g, 3, none⟩ (.bool true)) ty r n s.torn ad cb b s.l r8 HK.out.2.2.1 HN.out H128.out ht old HO.out hcell
        go_upto_region 10 with fail
        have r9 := setRow_heap _ r _ (flat (s.l.set n (b.take s.torn ++ old.drop s.torn))) 96 _ r8
        have c9 := chg_setRow (w.setCell ⟨g, 3, none⟩ (.bool true)) r (flat (s.l.set n (b.take s.torn ++ old.drop s.torn)))
        have k9 := k8.chg c9 hne
        have d9 : Chg (fun k => k = g ∨ k = r) w ((w.setCell ⟨g, 3, none⟩ (.bool true)).setRow r (flat (s.l.set n (b.take s.torn ++ old.drop s.torn)))) :=
          ((Chg.at_ w g 3 (.bool true)).mono (S' := fun k => k = g ∨ k = r) (fun i _ e => .inl e)).trans c9 (fun i _ e => .inr e)
        generalize (w.setCell ⟨g, 3, none⟩ (.bool true)).setRow r (flat (s.l.set n (b.take s.torn ++ old.drop s.torn))) = W9 at r9 k9 d9 ⊢
        have HW9 : Hid (Dk W9 g r { s with l := s.l.set n (b.take s.torn ++ old.drop s.torn), down := true }) := by
          refine ⟨k9.to (by simp [HL0.out]), r9, fun x hx => ?_, by simpa using HK.out.2.2.2.1, HK.out.2.2.2.2⟩
          rcases List.mem_or_eq_of_mem_set hx with hx | rfl
          · exact HK.out.2.2.1 x hx
          · rw [List.length_append, List.length_take, List.length_drop, HOL.out, H128.out]
            omega
        have D9 := Lib.hid d9
        have q3 := k9.cell 3
        simp at q3
        clear r9 c9 k9 d9 hcp r8 k8
        go_wp2
        go_ret
        rw [HW.out]
        exact ⟨rfl, HW9.out, D9.out⟩
      · have hw : s.write n b = ({ s with l := s.l.set n b, left := max (s.left - 1) (-1) }, 0) := by unfold DS.write; rw [if_neg (by simpa using hf), if_neg (by simpa using h128), if_neg hl0]; rfl
        have HW := Lib.hid hw
        have hl0' : (s.left == 0) = false := by simpa using hl0
        clear k hw hl0 hf h0 hd
        go_enter Try.func14, Try.ntmps14
        go_wp2_with fail
        refine (fine_any w g r s n HK.out).mono ?_
        rw [HF.out]
        rintro e w1 ⟨rfl, rfl⟩
        obtain ⟨ad, rfl, had, hQ, hcell⟩ := HB.out (by intro e; rw [List.map_eq_nil_iff] at e; rw [e] at H128; exact absurd H128.out (by decide))
        have hcp := fun ty => wrote_row w ty r n 128 ad cb b s.l HK.out.2.1 HK.out.2.2.1 HN.out H128.out (Nat.le_refl _) old HO.out hcell
        go_upto_region 10 with fail
        have r9 := setRow_heap _ r _ (flat (s.l.set n b)) 96 _ HK.out.2.1
        have c9 := chg_setRow w r (flat (s.l.set n b))
        have k9 := HK.out.1.chg c9 hne
        have e128 : b.take 128 ++ old.drop 128 = b := by
          rw [List.take_of_length_le (by rw [H128.out]; exact Nat.le_refl _), List.drop_of_length_le (by rw [HOL.out]; exact Nat.le_refl _), List.append_nil]
        rw [e128]
        generalize w.setRow r (flat (s.l.set n b)) = W9 at r9 k9 c9 ⊢
        have HW9 : Hid (Dk W9 g r { s with l := s.l.set n b }) := by
          refine ⟨k9.to (by simp), r9, fun x hx => ?_, by simpa using HK.out.2.2.2.1, HK.out.2.2.2.2⟩
          rcases List.mem_or_eq_of_mem_set hx with hx | rfl
          · exact HK.out.2.2.1 x hx
          · exact H128.out
        have D9 := Lib.hid c9
        obtain ⟨⟨q0, q1, q2, q3⟩, p0, p1, p2, p3⟩ := HW9.out.facts
        rw [HD.out] at q3
        simp only at q0 q1 q2 q3
        have hw1 : IntKind.i64.wrap (s.left - 1) = s.left - 1 := by have := HK.out.2.2.2.2; rw [IntKind.wrap_i64]; omega
        have HMX : Hid (-1 ≤ max (s.left - 1) (-1) ∧ max (s.left - 1) (-1) ≤ 9223372036854775807 ∧ s.torn ≤ 128) := by have := HK.out.2.2.2.2; refine ⟨?_, ?_, this.2.2⟩ <;> omega
        clear r9 c9 k9 hcp k0 k1 k2 k3 f0 f1 f2 f3
        go_wp2
        all_goals
          go_ret
          rw [HW.out]
          refine ⟨rfl, (HW9.out.put (s' := { s with l := s.l.set n b, left := max (s.left - 1) (-1) }) rfl HMX.out (Chg.at_ _ _ _ _) ((HW9.out.1.put 1 _).to ?_)).1, (D9.out.mono (S' := fun k => k = g ∨ k = r) (fun i _ e => .inr e)).trans (Chg.at_ _ _ _ _) (fun _ _ e => .inl e)⟩
          simp
          omega
    · have hw : s.write n b = (s, 1) := by unfold DS.write; rw [if_neg (by simpa using hf), if_pos (by simpa using h128)]
      have HW := Lib.hid hw
      have hbl : ((b.length : Int) != 128) = true := by rw [bne_iff_ne]; omega
      clear k hw hf h0 hd
      go_enter Try.func14, Try.ntmps14
      go_wp2_with fail
      refine (fine_any w g r s n HK.out).mono ?_
      rw [HF.out]
      rintro e w1 ⟨rfl, rfl⟩
      go_wp2
      go_ret
      rw [HW.out]
      exact ⟨rfl, HK.out, Chg.refl _ _⟩
  · have hw : s.write i b = (s, s.fine i) := by unfold DS.write; rw [if_pos (by simpa using hf)]
    have HW := Lib.hid hw
    have hf' : (s.fine i != 0) = true := by simpa using hf
    clear k hw hf
    go_enter Try.func14, Try.ntmps14
    go_wp2_with fail
    refine (fine_any w g r s i HK.out).mono ?_
    rintro e w1 ⟨rfl, rfl⟩
    go_wp2
    go_ret
    rw [HW.out]
    exact ⟨rfl, HK.out, Chg.refl _ _⟩

end Go.Proofs.Ytniedfilhilhhaa
