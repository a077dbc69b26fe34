/- The reference of layer 1: Bytes, Bool, End, walked. -/
import Derived.Test.YtniedfilhilhhaaRef4
import Derived.Deep.DeepCutAuto
namespace Go.Proofs.Ytniedfilhilhhaa
open Go.RowKit

theorem rend_any (w : World) (s : RS) : Calls Try.prog 47 #[RV s] w fun e w' => e = .returned (.int .i64 s.fin) ∧ Below w.heap.size w w' := by
  by_cases he : s.e = 0
  · have h0 : (s.e != 0) = false := by simpa using he
    cases hl : s.l with
    | nil =>
      have HF : Hid (s.fin = 0) := by unfold Hid RS.fin; rw [if_neg (by simpa using he), hl]; rfl
      clear he
      obtain ⟨l, e⟩ := s
      simp only at hl h0
      subst hl
      go_enter Try.func47, Try.ntmps47
      go_wp2
      go_ret
      rw [HF.out]
      exact ⟨rfl, (Below.refl _ _).alloc (Nat.le_refl _) _⟩
    | cons b r =>
      have HF : Hid (s.fin = 12) := by unfold Hid RS.fin; rw [if_neg (by simpa using he), hl]; rfl
      clear he
      obtain ⟨l, e⟩ := s
      simp only at hl h0
      subst hl
      go_enter Try.func47, Try.ntmps47
      go_wp2
      go_ret
      rw [HF.out]
      exact ⟨rfl, (Below.refl _ _).alloc (Nat.le_refl _) _⟩
  · have h0 : (s.e != 0) = true := by simpa using he
    have HF : Hid (s.fin = s.e) := by unfold Hid RS.fin; rw [if_pos (by simpa using he)]
    clear he
    go_enter Try.func47, Try.ntmps47
    go_wp2
    go_ret
    rw [HF.out]
    exact ⟨rfl, (Below.refl _ _).alloc (Nat.le_refl _) _⟩

/-- Two boxes that were laid, behind a call. -/
theorem two_boxes {w w1 : World} {c0 c1 : Array Value} {t0 t1 : TypeId} (hb : Below ((w.alloc (.cells c0 t0)).alloc (.cells c1 t1)).heap.size ((w.alloc (.cells c0 t0)).alloc (.cells c1 t1)) w1) :
    Blk w1 w.heap.size t0 c0 ∧ Blk w1 (w.heap.size + 1) t1 c1 ∧ Below w.heap.size w w1 := by
  have hn : Chg (fun _ => False) ((w.alloc (.cells c0 t0)).alloc (.cells c1 t1)) w1 := Chg.new hb _
  have h0 := ((Blk.new w t0 c0).alloc (.cells c1 t1)).chg hn (fun h => h)
  have h1 := (Blk.new (w.alloc (.cells c0 t0)) t1 c1).chg hn (fun h => h)
  refine ⟨h0, by simpa using h1, ?_⟩
  have h2 : Below w.heap.size w ((w.alloc (.cells c0 t0)).alloc (.cells c1 t1)) := ((Below.refl _ _).alloc (Nat.le_refl _) _).alloc (by simp) _
  exact h2.trans (hb.mono h2.size)

theorem box_facts {w : World} {g : Nat} {a b : Value} (h : Blk w g 76 #[a, b]) : w.cell? ⟨g, 0, none⟩ = some a ∧ w.cell? ⟨g, 1, none⟩ = some b ∧ w.frozen? ⟨g, 0, none⟩ = false ∧ w.frozen? ⟨g, 1, none⟩ = false :=
  ⟨h.cell 0, h.cell 1, h.frozen 0, h.frozen 1⟩

set_option maxRecDepth 100000 in
set_option maxHeartbeats 800000 in
theorem rbytes_any (w : World) (s : RS) (most : Int) (hm : Hid (most ≤ 9223372036854775807)) : Calls Try.prog 42 #[RV s, .int .i64 most] w (Tells w (s.bytes most).1 (.string ⟨(s.bytes most).2.toArray⟩)) := by
  go_enter Try.func42, Try.ntmps42
  go_wp2_with fail
  refine (ruint_any _ s).mono ?_
  rintro e w1 ⟨rfl, hb⟩
  obtain ⟨hb0, hb1, hB⟩ := two_boxes hb
  obtain ⟨k0, k1, f0, f1⟩ := box_facts hb0
  obtain ⟨q0, q1, g0, g1⟩ := box_facts hb1
  have HB0 := Lib.hid hb0
  have HB1 := Lib.hid hb1
  have HB := Lib.hid hB
  have hx : Blk ((w1.setCell ⟨w.heap.size, 0, none⟩ (.string ⟨s.uint.1.l.toArray⟩)).setCell ⟨w.heap.size, 1, none⟩ (.int .i64 s.uint.1.e)) w.heap.size 76 #[.string ⟨s.uint.1.l.toArray⟩, .int .i64 s.uint.1.e] := by simpa using (hb0.put 0 (.string ⟨s.uint.1.l.toArray⟩)).put 1 (.int .i64 s.uint.1.e)
  have hy : Blk ((w1.setCell ⟨w.heap.size, 0, none⟩ (.string ⟨s.uint.1.l.toArray⟩)).setCell ⟨w.heap.size, 1, none⟩ (.int .i64 s.uint.1.e)) (w.heap.size + 1) 76 #[.string ⟨#[]⟩, .int .i64 0] :=
    (hb1.chg (Chg.at_ w1 w.heap.size 0 _) (by simp)).chg (Chg.at_ _ w.heap.size 1 _) (by simp)
  have hz : Below w.heap.size w ((w1.setCell ⟨w.heap.size, 0, none⟩ (.string ⟨s.uint.1.l.toArray⟩)).setCell ⟨w.heap.size, 1, none⟩ (.int .i64 s.uint.1.e)) := (hB.setCell (by simp) _).setCell (by simp) _
  clear hb hb0 hb1 hB HB0 HB1 HB
  go_upto_region 2 with fail
  generalize ((w1.setCell ⟨w.heap.size, 0, none⟩ (.string ⟨s.uint.1.l.toArray⟩)).setCell ⟨w.heap.size, 1, none⟩ (.int .i64 s.uint.1.e)) = W2 at hx hy hz ⊢
  clear k0 k1 f0 f1 q0 q1 g0 g1
  obtain ⟨k0, k1, f0, f1⟩ := box_facts hx
  obtain ⟨q0, q1, g0, g1⟩ := box_facts hy
  have HB0 := Lib.hid hx
  have HB1 := Lib.hid hy
  have HB := Lib.hid hz
  clear hx hy hz
  by_cases he : s.uint.1.e = 0
  · have h0 : (s.uint.1.e != 0) = false := by simpa using he
    by_cases hn : most < 0
    · have HF : Hid (s.bytes most = (⟨s.uint.1.l, 13⟩, [])) := by unfold Hid RS.bytes; rw [if_neg (by simpa using he), if_pos (.inl hn)]; unfold RS.fail; rw [if_pos he]
      clear he
      go_wp2
      refine bodyPost_ret (v := .tuple #[RV ⟨s.uint.1.l, 13⟩, .string ⟨#[]⟩]) (by simp [results, Try.results42, go_sem, q0, q1]) rfl ⟨by rw [HF.out], ?_⟩
      exact ((HB.out.setCell (by simp) _).setCell (by simp) _).setCell (by simp) _
    · have hwm := wrap_u64_of (by omega : 0 ≤ most) hm.out
      by_cases hb : most < (s.uint.2 : Int)
      · have HF : Hid (s.bytes most = (⟨s.uint.1.l, 13⟩, [])) := by unfold Hid RS.bytes; rw [if_neg (by simpa using he), if_pos (.inr hb)]; unfold RS.fail; rw [if_pos he]
        clear he
        go_wp2
        refine bodyPost_ret (v := .tuple #[RV ⟨s.uint.1.l, 13⟩, .string ⟨#[]⟩]) (by simp [results, Try.results42, go_sem, q0, q1]) rfl ⟨by rw [HF.out], ?_⟩
        exact ((HB.out.setCell (by simp) _).setCell (by simp) _).setCell (by simp) _
      · have HF : Hid (s.bytes most = ((s.uint.1.take s.uint.2).1, s.uint.1.got s.uint.2)) := by unfold Hid RS.bytes; rw [if_neg (by simpa using he), if_neg (by omega)]
        have hwi := wrap_i64_of hb hm.out
        clear he
        go_wp2_with fail
        refine (rfixed_any _ s.uint.1 _).mono ?_
        rintro e w3 ⟨rfl, hb3⟩
        have hn3 : Chg (fun _ => False) W2 w3 := Chg.new hb3 _
        have B3 := Lib.hid (HB.out.trans (hb3.mono HB.out.size))
        have h1 := HB1.out.chg hn3 (fun h => h)
        clear k0 k1 f0 f1 q0 q1 g0 g1 hb3 hn3
        obtain ⟨q0, q1, g0, g1⟩ := box_facts h1
        go_wp2
        refine bodyPost_ret (v := .tuple #[RV (s.uint.1.take s.uint.2).1, .string ⟨(s.uint.1.got s.uint.2).toArray⟩]) (by simp [results, Try.results42, go_sem, q0, q1]) rfl ⟨by rw [HF.out], ?_⟩
        exact (B3.out.setCell (by simp) _).setCell (by simp) _
  · have h0 : (s.uint.1.e != 0) = true := by simpa using he
    have HF : Hid (s.bytes most = (s.uint.1, [])) := by unfold Hid RS.bytes; rw [if_pos (by simpa using he)]
    clear he
    go_wp2
    refine bodyPost_ret (v := .tuple #[RV s.uint.1, .string ⟨#[]⟩]) (by simp [results, Try.results42, go_sem, q0, q1]) rfl ⟨by rw [HF.out], ?_⟩
    exact (HB.out.setCell (by simp) _).setCell (by simp) _

end Go.Proofs.Ytniedfilhilhhaa
