/- The document's disk: Write. -/
import Derived.Test.YtniedfilhilhhaaRefD2
import Derived.Test.YtniedfilhilhhaaRef1
import Derived.Deep.RegionHeld3
namespace Go.Proofs.Ytniedfilhilhhaa
open Go.RowKit

theorem own_addr9 {w : World} {B : Nat} {e : TypeId} {size n c : Nat} {A : Option Addr} {xs : List Value} (h : w.ownsRow B e size (.slice A n c) n xs) (hn : 0 < n) : ∃ m, A = some ⟨m, 0, none⟩ ∧ B ≤ m := by
  rcases h.2 with ⟨_, h0⟩ | ⟨m, cap, cur, hv, hb, _⟩
  · omega
  · injection hv with hA
    exact ⟨m, hA, hb⟩
theorem own_drew {w : World} {B : Nat} {e : TypeId} {size n : Nat} {v : Value} {xs : List Value} (h : w.ownsRow B e size v n xs) : w.drew.ownsRow B e size v n xs := h
theorem own_put {w : World} {B : Nat} {e : TypeId} {n c m i : Nat} {xs : List Value} (h : w.ownsRow B e 1 (.slice (some ⟨m, 0, none⟩) n c) n xs) (hi : i < n) (v : Value) :
    (w.setCell ⟨m, i, none⟩ v).ownsRow B e 1 (.slice (some ⟨m, 0, none⟩) n c) n (xs.set i v) ∧ w.frozen? ⟨m, i, none⟩ = false ∧ ∃ u, w.cell? ⟨m, i, none⟩ = some u := by
  rcases h.2 with ⟨_, h0⟩ | ⟨m', cap, cur, hv, hb, hg, hnc, hm, hs, ht⟩
  · omega
  · injection hv with hA _ hc
    injection hA with hA
    injection hA with hA
    subst hA
    subst hc
    have hk : Blk w m e cur := hg
    have hl : cur.toList.length = c := by rw [Array.length_toList, hs]; omega
    refine ⟨⟨by simpa using h.1, .inr ⟨m, c, cur.setIfInBounds i v, rfl, hb, hk.put i v, hnc, hm, by simpa using hs, ?_⟩⟩, hk.frozen i, ⟨cur[i]'(by rw [hs]; omega), by rw [hk.cell i]; exact Array.getElem?_eq_getElem _⟩⟩
    rw [Nat.mul_one] at ht ⊢
    rw [← ht, Array.toList_setIfInBounds, List.take_set]

theorem lies4 {w : World} {P : Nat → Prop} {g : Nat} {A : Option Addr} {xs : List Value} (h : Lies w P A xs) (hp : ∀ i, P i → ¬ i = g) (x y z u : Value) :
    Lies ((((w.setCell ⟨g, 0, none⟩ x).setCell ⟨g, 1, none⟩ y).setCell ⟨g, 2, none⟩ z).setCell ⟨g, 3, none⟩ u) P A xs :=
  (((h.chg (Chg.at_ _ g 0 _) hp).chg (Chg.at_ _ g 1 _) hp).chg (Chg.at_ _ g 2 _) hp).chg (Chg.at_ _ g 3 _) hp

set_option maxRecDepth 100000 in
set_option maxHeartbeats 1600000 in
theorem rwrited_any (w : World) (Q : Nat → Prop) (A : Option Addr) (c : Nat) (s : DS) (i : Int) (b : List UInt8) (h : Lies w Q A (s.l.map sv)) (hq : ∀ i, w.heap.size ≤ i → Q i) (h128 : ∀ b ∈ s.l, b.length = 128) (h50 : s.l.length ≤ 50)
    (hs : -1 ≤ s.left ∧ s.left ≤ 9223372036854775807 ∧ s.torn ≤ 128) :
    Calls Try.prog 15 #[DV A c s, .int .i64 i, sv b] w fun e w' => ∃ A' c', e = .returned (.tuple #[DV A' c' (s.write i b).1, .int .i64 (s.write i b).2]) ∧ Lies w' Q A' ((s.write i b).1.l.map sv) ∧ Below w.heap.size w w' := by
  obtain ⟨i9, hi9, hz9, hs9, hb9⟩ := info_parts info9
  have HH := Lib.hid h
  have HQ := Lib.hid hq
  clear h hq
  by_cases hf : s.fine i = 0
  · obtain ⟨hd, h0, hl⟩ := fine_range hf
    obtain ⟨n, rfl⟩ := Int.eq_ofNat_of_zero_le h0
    have hn : n < s.l.length := by omega
    obtain ⟨old, ho⟩ : ∃ old, s.l[n]? = some old := ⟨s.l[n], List.getElem?_eq_getElem hn⟩
    have hol : old.length = 128 := h128 old (List.mem_of_getElem? ho)
    have hr : s.read n = old := by unfold DS.read; rw [if_pos hf, Int.toNat_natCast, ho]; rfl
    have HR := Lib.hid hr
    have HF := Lib.hid hf
    by_cases hb : b.length = 128
    · have hbs : (⟨b.toArray⟩ : ByteArray).size = b.length := text_size b
      have hbl : ((b.length : Int) != 128) = false := by rw [bne_eq_false_iff_eq]; omega
      have HB128 := Lib.hid hb
      have HO := Lib.hid ho
      have HOL := Lib.hid hol
      have HN := Lib.hid hn
      have HFN := Lib.hid hf
      clear hf hr h0 hd hol ho
      go_enter Try.func15, Try.ntmps15
      go_wp2_with fail
      refine (rread_any _ Q A c s n ((HH.out.chg ((Chg.refl (fun _ => False) w).alloc _) (fun _ _ h => h)).chg ((Chg.refl (fun _ => False) _).alloc _) (fun _ _ h => h))).mono ?_
      rw [HF.out]
      rintro e w1 ⟨rfl, hb1'⟩
      obtain ⟨hb0, hb1, hB⟩ := two_boxes hb1'
      have HB0 := Lib.hid hb0
      have HB1 := Lib.hid hb1
      have HB := Lib.hid hB
      have HH1 := Lib.hid ((HH.out.mono (Q' := fun i => Q i ∧ i < w.heap.size) (fun i hi hQ => ⟨hQ, hi⟩)).chg (Chg.new hB (fun _ => False)) (fun _ _ h => h))
      obtain ⟨⟨k0, k1, k2, k3⟩, e0, e1, e2, e3⟩ := box4 hb0
      clear hb1' hb0 hb1 hB
      go_upto_region 8 with (at_builtin; refine wpList_append_src _ rfl (.tmp 25) (.tmp 27) 28 rfl (w.heap.size + 2) 9 i9 (.string ⟨#[]⟩) 1 16 Try.underlying28 hi9 hz9 hs9 hb9 rfl (by decide) (.slice none 0 0) 0 [] rfl (World.ownsRow_nil _ _ _ _) (fun i => Q i ∧ i < w.heap.size) A s.l.length c (s.l.map sv) rfl (by simp) HH1.out ?a1 ?a3 ?a4 ?a5 ?_)
      case a1 => intro u hu; obtain ⟨x, _, rfl⟩ := List.mem_map.1 hu; rfl
      case a3 => unfold maxLen; omega
      case a4 => omega
      case a5 => have := HB1.out.lt; omega
      intro A' c' w5 hown hgrow hat
      go_upto_region 8 with fail
      have hc5 : Chg (fun _ => False) w1 w5 := Chg.grown hgrow (by intro i hi; simp [Value.ownBlock] at hi)
      have hown' : w5.ownsRow (w.heap.size + 2) 9 1 (.slice A' s.l.length c') s.l.length (s.l.map sv) := by simpa using hown
      obtain ⟨m, rfl, hm⟩ := own_addr9 hown' (by have := HN.out; omega)
      have HO5 := Lib.hid hown'
      have HM := Lib.hid hm
      have H50 := Lib.hid hc5
      have K5 := Lib.hid (HB0.out.chg hc5 (fun h => h))
      have N5 := Lib.hid (HB1.out.chg hc5 (fun h => h))
      have B5 := Lib.hid (below_chg HB.out hc5 (fun _ _ h => h.elim) HB.out.size)
      clear hown hgrow hat hc5 hown' hm k0 k1 k2 k3 e0 e1 e2 e3
      obtain ⟨⟨k0, k1, k2, k3⟩, e0, e1, e2, e3⟩ := box4 K5.out
      obtain ⟨⟨q0, q1, q2, q3⟩, g0, g1, g2, g3⟩ := box4 N5.out
      by_cases hl0 : s.left = 0
      · have hw : s.write n b = ({ s with l := s.l.set n (b.take s.torn ++ old.drop s.torn), down := true }, 30) := by unfold DS.write; rw [if_neg (by simpa using HFN.out), if_neg (by simpa using HB128.out), if_pos hl0, Int.toNat_natCast, HO.out]; rfl
        have HW := Lib.hid hw
        rw [hl0] at k1
        have ht : s.torn ≤ 128 := hs.2.2
        have HL0 := Lib.hid hl0
        clear hw hl0
        go_upto_region 9 with fail
        have hsz : (⟨b.toArray⟩ : ByteArray).size = 128 := by rw [text_size]; exact HB128.out
        have hso : (⟨old.toArray⟩ : ByteArray).size = 128 := by rw [text_size]; exact HOL.out
        have ht' : (s.torn : Int) ≤ 128 := by omega
        have hrl : (s.read n).length = 128 := by rw [HR.out]; exact HOL.out
        have htk := text_take b s.torn
        have hdr : ByteArray.extract ⟨(s.read n).toArray⟩ s.torn 128 = ⟨(old.drop s.torn).toArray⟩ := by rw [HR.out]; have := text_drop old s.torn; rw [HOL.out] at this; exact this
        obtain ⟨ho6, fz, u6, hu6⟩ := own_put (i := n) HO5.out HN.out (sv (b.take s.torn ++ old.drop s.torn))
        have HO6 := Lib.hid (own_drew ho6)
        clear ho6
        have mne : ¬ w.heap.size = m := by have := HM.out; omega
        have mne1 : ¬ w.heap.size + 1 = m := by have := HM.out; omega
        have K6 := Lib.hid (K5.out.chg (Chg.at_ w5 m n (sv (b.take s.torn ++ old.drop s.torn))) mne).drew
        have N6 := Lib.hid (N5.out.chg (Chg.at_ w5 m n (sv (b.take s.torn ++ old.drop s.torn))) mne1).drew
        have B6 : Hid (Below w.heap.size w (w5.setCell ⟨m, n, none⟩ (sv (b.take s.torn ++ old.drop s.torn))).drew) := (B5.out.setCell (by have := HM.out; show w.heap.size ≤ m; omega) _).drew
        refine wp_region_held_drew (S := fun w' => w'.cell? ⟨w.heap.size, 2, none⟩ = some (.int .i64 (s.torn : Int))) (by kernel_rfl) k2 (fun hHeld => ?_)
        refine wpAnyH_take (i := 0) (v := ?_) rfl (by kernel_rfl) (by kernel_rfl) (by kernel_rfl) (fun _ _ _ h => h) (Or.inl ⟨by kernel_rfl, ?_⟩) (by assumption) ?_
        rotate_left
        · (intro w hSw; go_simp; with_reducible rfl)
        simp only [Act.put]
        refine wpAnyH_take (i := 1) (v := ?_) rfl (by kernel_rfl) (by kernel_rfl) (by kernel_rfl) (fun _ _ _ h => h) (Or.inl ⟨by kernel_rfl, ?_⟩) (by assumption) ?_
        rotate_left
        · (intro w hSw; go_simp; with_reducible rfl)
        simp only [Act.put]
        refine wpAnyH_take (i := 2) (v := ?_) rfl (by kernel_rfl) (by kernel_rfl) (by kernel_rfl) (fun _ _ _ h => h) (Or.inl ⟨by kernel_rfl, ?_⟩) (by assumption) ?_
        rotate_left
        · (intro w hSw; go_simp; with_reducible rfl)
        simp only [Act.put]
        refine wpAnyH_take (i := 3) (v := ?_) rfl (by kernel_rfl) (by kernel_rfl) (by kernel_rfl) (fun _ _ _ h => h) (Or.inl ⟨by kernel_rfl, ?_⟩) (by assumption) ?_
        rotate_left
        · (intro w hSw; go_simp; with_reducible rfl)
        simp only [Act.put]
        refine wpAnyH_take (i := 4) (v := ?_) rfl (by kernel_rfl) (by kernel_rfl) (by kernel_rfl) (fun _ _ _ h => h) (Or.inl ⟨by kernel_rfl, ?_⟩) (by assumption) ?_
        rotate_left
        · (intro w hSw; go_simp; with_reducible rfl)
        simp only [Act.put]
        refine wpAnyH_take (i := 5) (v := .string ⟨(b.take s.torn).toArray⟩) rfl (by kernel_rfl) (by kernel_rfl) (by kernel_rfl) (fun _ _ _ h => h) (Or.inl ⟨by kernel_rfl, ?_⟩) (by assumption) ?_
        · (intro w hSw; go_simp)
        simp only [Act.put]
        refine wpAnyH_take (i := 6) (v := ?_) rfl (by kernel_rfl) (by kernel_rfl) (by kernel_rfl) (fun _ _ _ h => h) (Or.inl ⟨by kernel_rfl, ?_⟩) (by assumption) ?_
        rotate_left
        · (intro w hSw; go_simp; with_reducible rfl)
        simp only [Act.put]
        refine wpAnyH_take (i := 7) (v := ?_) rfl (by kernel_rfl) (by kernel_rfl) (by kernel_rfl) (fun _ _ _ h => h) (Or.inl ⟨by kernel_rfl, ?_⟩) (by assumption) ?_
        rotate_left
        · (intro w hSw; go_simp; with_reducible rfl)
        simp only [Act.put]
        refine wpAnyH_take (i := 8) (v := ?_) rfl (by kernel_rfl) (by kernel_rfl) (by kernel_rfl) (fun _ _ _ h => h) (Or.inl ⟨by kernel_rfl, ?_⟩) (by assumption) ?_
        rotate_left
        · (intro w hSw; go_simp; with_reducible rfl)
        simp only [Act.put]
        refine wpAnyH_take (i := 9) (v := .string ⟨(old.drop s.torn).toArray⟩) rfl (by kernel_rfl) (by kernel_rfl) (by kernel_rfl) (fun _ _ _ h => h) (Or.inl ⟨by kernel_rfl, ?_⟩) (by assumption) ?_
        · (intro w hSw; go_simp)
        simp only [Act.put]
        refine wpAnyH_take (i := 10) (v := sv (b.take s.torn ++ old.drop s.torn)) rfl (by kernel_rfl) (by kernel_rfl) (by kernel_rfl) (fun _ _ _ h => h) (Or.inl ⟨by kernel_rfl, ?_⟩) (by assumption) ?_
        · intro w hSw
          have hadd := run_text_add (P := Try.prog) w (b.take s.torn) (old.drop s.torn) _ rfl (room_small (by rw [List.length_append, List.length_take, List.length_drop, HOL.out, HB128.out]; omega))
          go_simp
        simp only [Act.put]
        refine wpAnyH_take (i := 11) (v := ?_) rfl (by kernel_rfl) (by kernel_rfl) (by kernel_rfl) (fun _ _ _ h => h) (Or.inl ⟨by kernel_rfl, ?_⟩) (by assumption) ?_
        rotate_left
        · (intro w hSw; go_simp; with_reducible rfl)
        simp only [Act.put]
        refine wpAnyH_ready (rs := [12]) (by kernel_rfl) (by simp) ?_
        refine AllReadyH.cons rfl (fun K hK => ?_) AllReadyH.nil
        go_simp
        refine hK.out _ _ (K6.out.cell 2) (fun _ => ?_)
        clear hK K
        generalize (w5.setCell ⟨m, n, none⟩ (sv (b.take s.torn ++ old.drop s.torn))).drew = W6 at HO6 K6 N6 B6 ⊢
        refine wpAnyH_done (by kernel_rfl) ?_ _
        clear k0 k1 k2 k3 e0 e1 e2 e3 q0 q1 q2 q3 g0 g1 g2 g3 hu6 fz
        obtain ⟨⟨k0, k1, k2, k3⟩, e0, e1, e2, e3⟩ := box4 K6.out
        obtain ⟨⟨q0, q1, q2, q3⟩, g0, g1, g2, g3⟩ := box4 N6.out
        have HL6 := Lib.hid (Lies.of_own (Q := fun j => w.heap.size + 2 ≤ j) HO6.out rfl (fun j hj => (HO6.out.lt j hj).1))
        go_wp2
        refine bodyPost_ret (v := .tuple #[DV (some ⟨m, 0, none⟩) c' { s with l := s.l.set n (b.take s.torn ++ old.drop s.torn), down := true }, .int .i64 30]) (by simp [results, Try.results15, go_sem, q0, q1, q2, q3]) rfl ⟨some ⟨m, 0, none⟩, c', by rw [HW.out], ?_, ?_⟩
        · rw [HW.out]
          have h1 := lies4 (g := w.heap.size + 1) ((HL6.out.chg (Chg.at_ _ w.heap.size 0 (.slice (some ⟨m, 0, none⟩) s.l.length c')) (fun i hi => by omega)).chg (Chg.at_ _ w.heap.size 3 (.bool true)) (fun i hi => by omega)) (fun i hi => by omega) (.slice (some ⟨m, 0, none⟩) s.l.length c') (.int .i64 s.left) (.int .i64 (s.torn : Int)) (.bool true)
          rw [← List.map_set] at h1
          exact h1.mono (fun i _ h => HQ.out i (by omega))
        · exact (((((B6.out.setCell (by simp) _).setCell (by simp) _).setCell (by simp) _).setCell (by simp) _).setCell (by simp) _).setCell (by simp) _
      · have hw : s.write n b = ({ s with l := s.l.set n b, left := max (s.left - 1) (-1) }, 0) := by unfold DS.write; rw [if_neg (by simpa using HFN.out), if_neg (by simpa using HB128.out), if_neg hl0]; rfl
        have HW := Lib.hid hw
        have hl0' : (s.left == 0) = false := by simpa using hl0
        clear hw hl0
        obtain ⟨ho6, fz, u6, hu6⟩ := own_put (i := n) HO5.out HN.out (sv b)
        have HO6 := Lib.hid ho6
        clear ho6
        go_upto_region 14 with fail
        have mne : ¬ w.heap.size = m := by have := HM.out; omega
        have mne1 : ¬ w.heap.size + 1 = m := by have := HM.out; omega
        have K6 := Lib.hid (K5.out.chg (Chg.at_ w5 m n (sv b)) mne)
        have N6 := Lib.hid (N5.out.chg (Chg.at_ w5 m n (sv b)) mne1)
        have B6 : Hid (Below w.heap.size w (w5.setCell ⟨m, n, none⟩ (sv b))) := B5.out.setCell (by have := HM.out; show w.heap.size ≤ m; omega) _
        generalize w5.setCell ⟨m, n, none⟩ (sv b) = W6 at HO6 K6 N6 B6 ⊢
        clear k0 k1 k2 k3 e0 e1 e2 e3 q0 q1 q2 q3 g0 g1 g2 g3
        obtain ⟨⟨k0, k1, k2, k3⟩, e0, e1, e2, e3⟩ := box4 K6.out
        obtain ⟨⟨q0, q1, q2, q3⟩, g0, g1, g2, g3⟩ := box4 N6.out
        have HL6 := Lib.hid (Lies.of_own (Q := fun j => w.heap.size + 2 ≤ j) HO6.out rfl (fun j hj => (HO6.out.lt j hj).1))
        by_cases hgt : 0 < s.left
        · have hwr : IntKind.i64.wrap (s.left - 1) = s.left - 1 := by rw [IntKind.wrap_i64]; omega
          go_wp2
          refine bodyPost_ret (v := .tuple #[DV (some ⟨m, 0, none⟩) c' { s with l := s.l.set n b, left := max (s.left - 1) (-1) }, .int .i64 0]) (by simp [results, Try.results15, go_sem, q0, q1, q2, q3]; omega) rfl ⟨some ⟨m, 0, none⟩, c', by rw [HW.out], ?_, ?_⟩
          · rw [HW.out]
            have h1 := lies4 (g := w.heap.size + 1) ((HL6.out.chg (Chg.at_ _ w.heap.size 0 (.slice (some ⟨m, 0, none⟩) s.l.length c')) (fun i hi => by omega)).chg (Chg.at_ _ w.heap.size 1 (.int .i64 (s.left - 1))) (fun i hi => by omega)) (fun i hi => by omega) (.slice (some ⟨m, 0, none⟩) s.l.length c') (.int .i64 (s.left - 1)) (.int .i64 (s.torn : Int)) (.bool s.down)
            rw [← List.map_set] at h1
            exact h1.mono (fun i _ h => HQ.out i (by omega))
          · exact (((((B6.out.setCell (by simp) _).setCell (by simp) _).setCell (by simp) _).setCell (by simp) _).setCell (by simp) _).setCell (by simp) _
        · have HM1 : Hid (s.left = -1) := by have := beq_eq_false_iff_ne.1 hl0'; unfold Hid; omega
          go_wp2
          refine bodyPost_ret (v := .tuple #[DV (some ⟨m, 0, none⟩) c' { s with l := s.l.set n b, left := max (s.left - 1) (-1) }, .int .i64 0]) (by have := HM1.out; simp [results, Try.results15, go_sem, q0, q1, q2, q3]; omega) rfl ⟨some ⟨m, 0, none⟩, ⟨c', by rw [HW.out]⟩, ?_, ?_⟩
          · rw [HW.out]
            have h1 := lies4 (g := w.heap.size + 1) (HL6.out.chg (Chg.at_ _ w.heap.size 0 (.slice (some ⟨m, 0, none⟩) s.l.length c')) (fun i hi => by omega)) (fun i hi => by omega) (.slice (some ⟨m, 0, none⟩) s.l.length c') (.int .i64 s.left) (.int .i64 (s.torn : Int)) (.bool s.down)
            rw [← List.map_set] at h1
            exact h1.mono (fun i _ h => HQ.out i (by omega))
          · exact ((((B6.out.setCell (by simp) _).setCell (by simp) _).setCell (by simp) _).setCell (by simp) _).setCell (by simp) _
    · have hw : s.write n b = (s, 1) := by unfold DS.write; rw [if_neg (by simpa using hf), if_pos (by simpa using hb)]
      have HW := Lib.hid hw
      have hbs : (⟨b.toArray⟩ : ByteArray).size = b.length := text_size b
      have hbl : ((b.length : Int) != 128) = true := by rw [bne_iff_ne]; omega
      clear hw hf hr h0 hd
      go_enter Try.func15, Try.ntmps15
      go_wp2_with fail
      refine (rread_any _ Q A c s n ((HH.out.chg ((Chg.refl (fun _ => False) w).alloc _) (fun _ _ h => h)).chg ((Chg.refl (fun _ => False) _).alloc _) (fun _ _ h => h))).mono ?_
      rw [HF.out]
      rintro e w1 ⟨rfl, hb⟩
      obtain ⟨hb0, hb1, hB⟩ := two_boxes hb
      have HB0 := Lib.hid hb0
      have HB1 := Lib.hid hb1
      have HB := Lib.hid hB
      have HH1 := Lib.hid ((HH.out.mono (Q' := fun i => Q i ∧ i < w.heap.size) (fun i hi hQ => ⟨hQ, hi⟩)).chg (Chg.new hB (fun _ => False)) (fun _ _ h => h))
      obtain ⟨⟨k0, k1, k2, k3⟩, _⟩ := box4 hb0
      obtain ⟨⟨q0, q1, q2, q3⟩, g0, g1, g2, g3⟩ := box4 hb1
      clear hb hb0 hb1 hB
      go_wp2
      refine bodyPost_ret (v := .tuple #[DV A c s, .int .i64 1]) (by simp [results, Try.results15, go_sem, q0, q1, q2, q3]) rfl ⟨A, c, by rw [HW.out], ?_, ?_⟩
      · rw [HW.out]
        exact (lies4 HH1.out (fun i hi => by omega) _ _ _ _).mono (fun i _ h => h.1)
      · exact (((HB.out.setCell (by simp) _).setCell (by simp) _).setCell (by simp) _).setCell (by simp) _
  · have hw : s.write i b = (s, s.fine i) := by unfold DS.write; rw [if_pos (by simpa using hf)]
    have HW := Lib.hid hw
    have hf' : (s.fine i != 0) = true := by simpa using hf
    clear hw hf
    go_enter Try.func15, Try.ntmps15
    go_wp2_with fail
    refine (rread_any _ Q A c s i ((HH.out.chg ((Chg.refl (fun _ => False) w).alloc _) (fun _ _ h => h)).chg ((Chg.refl (fun _ => False) _).alloc _) (fun _ _ h => h))).mono ?_
    rintro e w1 ⟨rfl, hb⟩
    obtain ⟨hb0, hb1, hB⟩ := two_boxes hb
    have HB0 := Lib.hid hb0
    have HB1 := Lib.hid hb1
    have HB := Lib.hid hB
    have HH1 := Lib.hid ((HH.out.mono (Q' := fun i => Q i ∧ i < w.heap.size) (fun i hi hQ => ⟨hQ, hi⟩)).chg (Chg.new hB (fun _ => False)) (fun _ _ h => h))
    obtain ⟨⟨k0, k1, k2, k3⟩, _⟩ := box4 hb0
    obtain ⟨⟨q0, q1, q2, q3⟩, g0, g1, g2, g3⟩ := box4 hb1
    clear hb hb0 hb1 hB
    go_wp2
    refine bodyPost_ret (v := .tuple #[DV A c s, .int .i64 (s.fine i)]) (by simp [results, Try.results15, go_sem, q0, q1, q2, q3]) rfl ⟨A, c, by rw [HW.out], ?_, ?_⟩
    · rw [HW.out]
      exact (lies4 HH1.out (fun i hi => by omega) _ _ _ _).mono (fun i _ h => h.1)
    · exact (((HB.out.setCell (by simp) _).setCell (by simp) _).setCell (by simp) _).setCell (by simp) _

end Go.Proofs.Ytniedfilhilhhaa
