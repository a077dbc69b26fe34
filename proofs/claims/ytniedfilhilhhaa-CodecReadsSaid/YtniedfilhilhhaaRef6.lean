/- The reference of layer 1: Bool, walked. -/
import Derived.Test.YtniedfilhilhhaaRef5
import Derived.RegionTactic
import Derived.BigRegion
namespace Go.Proofs.Ytniedfilhilhhaa
open Go.RowKit

theorem take1_cases (s : RS) : (∃ b r, s.e = 0 ∧ s.l = b :: r ∧ s.take 1 = (⟨r, 0⟩, some [b]) ∧ s.got 1 = [b]) ∨ ((s.take 1).1.e ≠ 0 ∧ (s.take 1).2 = none ∧ s.got 1 = []) := by
  rcases take_one s with ⟨b, ht⟩ | ht
  · have hs1 : s.take 1 = ((s.take 1).1, some [b]) := by rw [← ht]
    obtain ⟨h1, h2, h3⟩ := take_cons hs1
    refine .inl ⟨b, _, h1, h2, ?_, by unfold RS.got; rw [ht]; rfl⟩
    rw [hs1]
    congr 1
    cases hx : (s.take 1).1 with
    | mk l e => rw [hx] at h3; simp at h3; rw [h3]
  · refine .inr ⟨?_, ht, by unfold RS.got; rw [ht]; rfl⟩
    by_cases he : s.e = 0
    · exact take_no he ht
    · rw [take_err he]; exact he

set_option maxRecDepth 100000 in
set_option maxHeartbeats 800000 in
theorem rbool_any (w : World) (s : RS) : Calls Try.prog 44 #[RV s] w (Tells w s.bool.1 (.bool (s.bool.2 && decide (s.bool.1.e = 0)))) := by
  go_enter Try.func44, Try.ntmps44
  go_wp2_with fail
  refine (rfixed_any _ s 1).mono ?_
  rintro e w1 ⟨rfl, hb⟩
  obtain ⟨hb0, hb1, hB⟩ := two_boxes hb
  obtain ⟨k0, k1, f0, f1⟩ := box_facts hb0
  have hx : Blk ((w1.setCell ⟨w.heap.size, 0, none⟩ (.string ⟨(s.take 1).1.l.toArray⟩)).setCell ⟨w.heap.size, 1, none⟩ (.int .i64 (s.take 1).1.e)) w.heap.size 76 #[.string ⟨(s.take 1).1.l.toArray⟩, .int .i64 (s.take 1).1.e] := by simpa using (hb0.put 0 (.string ⟨(s.take 1).1.l.toArray⟩)).put 1 (.int .i64 (s.take 1).1.e)
  have hy : Blk ((w1.setCell ⟨w.heap.size, 0, none⟩ (.string ⟨(s.take 1).1.l.toArray⟩)).setCell ⟨w.heap.size, 1, none⟩ (.int .i64 (s.take 1).1.e)) (w.heap.size + 1) 76 #[.string ⟨#[]⟩, .int .i64 0] :=
    (hb1.chg (Chg.at_ w1 w.heap.size 0 _) (by simp)).chg (Chg.at_ _ w.heap.size 1 _) (by simp)
  have hz : Below w.heap.size w ((w1.setCell ⟨w.heap.size, 0, none⟩ (.string ⟨(s.take 1).1.l.toArray⟩)).setCell ⟨w.heap.size, 1, none⟩ (.int .i64 (s.take 1).1.e)) := (hB.setCell (by simp) _).setCell (by simp) _
  clear hb hb0 hb1 hB
  go_upto_region 2 with fail
  generalize ((w1.setCell ⟨w.heap.size, 0, none⟩ (.string ⟨(s.take 1).1.l.toArray⟩)).setCell ⟨w.heap.size, 1, none⟩ (.int .i64 (s.take 1).1.e)) = W2 at hx hy hz ⊢
  clear k0 k1 f0 f1
  rcases take1_cases s with ⟨b, r, he, hl, ht, hg⟩ | ⟨hne, ht, hg⟩
  · rw [ht] at hx ⊢
    rw [hg]
    simp only at hx
    obtain ⟨k0, k1, f0, f1⟩ := box_facts hx
    obtain ⟨q0, q1, g0, g1⟩ := box_facts hy
    have HB := Lib.hid hz
    have HT := Lib.hid ht
    clear hx hy hz ht hg he hl
    have hix : ∀ h, (⟨[b].toArray⟩ : ByteArray)[0]'h = b := fun _ => rfl
    by_cases hb : b.toNat ≤ 1
    · have HF : Hid (s.bool = (⟨r, 0⟩, b == 1)) := by
        unfold Hid RS.bool
        rw [HT.out]
        simp only
        rw [if_neg (by rw [gt_iff_lt, UInt8.lt_iff_toNat_lt]; simp; omega)]
      go_wp2
      go_region
      go_wp2
      refine bodyPost_ret (v := .tuple #[RV ⟨r, 0⟩, .bool ((b.toNat : Int) == 1)]) (by simp [results, Try.results44, go_sem, k0, k1, q0, q1, f0, f1, g0, g1]) rfl ⟨by rw [HF.out]; simp [byte_is_one], ?_⟩
      exact ((HB.out.setCell (by simp) _).setCell (by simp) _).drew
    · have HF : Hid (s.bool = (⟨r, 11⟩, b == 1)) := by
        unfold Hid RS.bool
        rw [HT.out]
        simp only
        rw [if_pos (by rw [gt_iff_lt, UInt8.lt_iff_toNat_lt]; simp; omega)]
        rfl
      go_wp2
      refine bodyPost_ret (v := .tuple #[RV ⟨r, 11⟩, .bool false]) (by simp [results, Try.results44, go_sem, k0, k1, q0, q1, f0, f1, g0, g1]) rfl ⟨by rw [HF.out]; simp, ?_⟩
      exact ((HB.out.setCell (by simp) _).setCell (by simp) _).setCell (by simp) _
  · have h0 : ((s.take 1).1.e != 0) = true := by simpa using hne
    have HF : Hid (s.bool = ((s.take 1).1, false)) := by
      unfold Hid RS.bool
      rw [show s.take 1 = ((s.take 1).1, none) by rw [← ht]]
    rw [hg]
    obtain ⟨k0, k1, f0, f1⟩ := box_facts hx
    obtain ⟨q0, q1, g0, g1⟩ := box_facts hy
    have HB := Lib.hid hz
    clear hx hy hz ht hg hne
    go_wp2
    refine bodyPost_ret (v := .tuple #[RV (s.take 1).1, .bool false]) (by simp [results, Try.results44, go_sem, k0, k1, q0, q1, f0, f1, g0, g1]) rfl ⟨by rw [HF.out]; simp, ?_⟩
    exact (HB.out.setCell (by simp) _).setCell (by simp) _

end Go.Proofs.Ytniedfilhilhhaa
