/- Is a disk as the document's is? It answers true where it is. -/
import Derived.Test.YtniedfilhilhhaaAwake8
import Derived.BigQuiet
import Derived.Deep.QuietTactic
namespace Go.Proofs.Ytniedfilhilhhaa
open Go.RowKit

theorem quiet_same {P : Program} {f : FuncId} {args : Array Value} {w : World} {n : Nat} {v : Value}
    (h : Calls P f args (w.drewN n) fun e w' => e = .returned v ∧ w.drewN n = w') : Calls P f args (w.drewN n) fun e w'' => e = .returned v ∧ ∃ m, w'' = w.drewN m :=
  h.mono fun _ _ ⟨he, hm⟩ => ⟨he, n, hm.symm⟩

set_option maxRecDepth 100000 in
set_option maxHeartbeats 1600000 in
theorem like_any (w : World) (Q : Nat → Prop) (g r : Nat) (s : DS) (A : Option Addr) (c : Nat) (k : Dk w g r s) (h : Lies w Q A (s.l.map sv)) :
    Calls Try.prog 22 #[ptr g, DV A c s] w fun e w' => e = .returned (.bool true) ∧ Below w.heap.size w w' := by
  have B0 : Hid (Below w.heap.size w (w.alloc (.cells #[.slice A s.l.length c, .int .i64 s.left, .int .i64 (s.torn : Int), .bool s.down] 30))) := (Below.refl _ _).alloc (Nat.le_refl _) _
  have N0 : Hid (Blk (w.alloc (.cells #[.slice A s.l.length c, .int .i64 s.left, .int .i64 (s.torn : Int), .bool s.down] 30)) w.heap.size 30 #[.slice A s.l.length c, .int .i64 s.left, .int .i64 (s.torn : Int), .bool s.down]) := Blk.new w 30 _
  have hc0 : Chg (fun _ => False) w (w.alloc (.cells #[.slice A s.l.length c, .int .i64 s.left, .int .i64 (s.torn : Int), .bool s.down] 30)) := (Chg.refl _ w).alloc _
  have K0 := Lib.hid (k.chg hc0 (fun h => h) (fun h => h))
  have L0 := Lib.hid ((h.mono (Q' := fun i => i < w.heap.size) (fun i hi _ => hi)).chg hc0 (fun _ _ h => h))
  clear k h hc0
  obtain ⟨⟨k0, k1, k2, k3⟩, e0, e1, e2, e3⟩ := box4 N0.out
  go_enter Try.func22, Try.ntmps22
  go_upto_region 1 with fail
  generalize w.alloc (.cells #[.slice A s.l.length c, .int .i64 s.left, .int .i64 (s.torn : Int), .bool s.down] 30) = W0 at B0 N0 K0 L0 k0 k1 k2 k3 e0 e1 e2 e3 ⊢
  go_quiet (first | (go_at_call 23; refine quiet_same (len_any (W0.drewN _) g r s K0.out)) | (go_at_call 24; refine quiet_same (down_any (W0.drewN _) g r s K0.out)))
  have K1 : Hid (Dk (W0.drewN nq) g r s) := K0
  have N1 : Hid (Blk (W0.drewN nq) w.heap.size 30 #[.slice A s.l.length c, .int .i64 s.left, .int .i64 (s.torn : Int), .bool s.down]) := N0
  have L1 : Hid (Lies (W0.drewN nq) (fun i => i < w.heap.size) A (s.l.map sv)) := L0
  have B1 : Hid (Below w.heap.size w (W0.drewN nq)) := ⟨B0.out.os, B0.out.tape, B0.out.output, B0.out.size, B0.out.block⟩
  generalize W0.drewN nq = W1 at K1 N1 L1 B1 ⊢
  clear B0 N0 K0 L0 k0 k1 k2 k3 e0 e1 e2 e3
  go_wp2
  go_loopw [5] (fun v5 wr => ∃ i : Nat, i ≤ s.l.length ∧ v5 = .int .i64 i ∧ Hid (Dk wr g r s) ∧ Hid (Blk wr w.heap.size 30 #[.slice A s.l.length c, .int .i64 s.left, .int .i64 (s.torn : Int), .bool s.down]) ∧ Hid (Lies wr (fun i => i < w.heap.size) A (s.l.map sv)) ∧ Hid (Below w.heap.size w wr)) (fun v5 _ => s.l.length - (intOf v5).toNat)
  case atStart => exact ⟨0, Nat.zero_le _, rfl, K1, N1, L1, B1⟩
  case round =>
    obtain ⟨i, hi, rfl, hK, hN, hL, hB⟩ := hrel
    obtain ⟨⟨k0, k1, k2, k3⟩, e0, e1, e2, e3⟩ := box4 hN.out
    clear K1 N1 L1 B1
    by_cases hlt : i < s.l.length
    · cases hd : s.down with
      | true =>
        rw [hd] at k3
        go_wp2
        go_ret
        exact ⟨rfl, hB.out⟩
      | false =>
        rw [hd] at k3
        have HF : Hid (s.fine i = 0) := by unfold Hid DS.fine; rw [hd, if_neg (by simp), if_neg (by omega)]
        obtain ⟨t, ht⟩ : ∃ t, s.l[i]? = some t := ⟨_, List.getElem?_eq_getElem hlt⟩
        have HR : Hid (s.read i = t) := by unfold Hid DS.read; rw [if_pos HF.out, Int.toNat_natCast, ht]; rfl
        have HT := Lib.hid ht
        have HLT := Lib.hid hlt
        have HD := Lib.hid hd
        clear ht hd
        go_wp2_with fail
        have hrd := dread_any wr g r s i hK.out
        rw [HF.out, HR.out] at hrd
        refine hrd.mono ?_
        clear hrd
        rintro e w5 ⟨A5, c5, rfl, ho5, hb5⟩
        have hn5 := Chg.new hb5 (fun _ => False)
        have K5 := Lib.hid (hK.out.chg hn5 (fun h => h) (fun h => h))
        have N5 := Lib.hid (hN.out.chg hn5 (fun h => h))
        have L5 := Lib.hid (hL.out.chg hn5 (fun _ _ h => h))
        have B5 : Hid (Below w.heap.size w w5) := hB.out.trans (hb5.mono hB.out.size)
        have htx := fun n => run_text (P := Try.prog) (w5.drewN n) 35 9 5 (fun _ => True) _ c5 t Try.underlying35 Try.underlying5 Try.underlying9 (Lies.of_own (w := w5.drewN n) ho5 rfl (fun _ _ => trivial))
        clear k0 k1 k2 k3 e0 e1 e2 e3 hK hN hL hB hb5 hn5 ho5
        obtain ⟨⟨k0, k1, k2, k3⟩, e0, e1, e2, e3⟩ := box4 N5.out
        obtain ⟨ad, rfl, _, _, hcell⟩ := L5.out (by intro e; rw [List.map_eq_nil_iff] at e; have := HLT.out; rw [e] at this; simp at this)
        have hc5 : w5.cell? (ad.add i) = some (.string ⟨t.toArray⟩) := hcell i _ (by rw [List.getElem?_map, HT.out]; rfl)
        clear hcell
        go_wp2_with fail
        go_quiet (fail)
        have K6 : Hid (Dk (w5.drewN nq) g r s) := K5
        have N6 : Hid (Blk (w5.drewN nq) w.heap.size 30 #[.slice (some ad) s.l.length c, .int .i64 s.left, .int .i64 (s.torn : Int), .bool s.down]) := N5
        have L6 : Hid (Lies (w5.drewN nq) (fun i => i < w.heap.size) (some ad) (s.l.map sv)) := L5
        have B6 : Hid (Below w.heap.size w (w5.drewN nq)) := ⟨B5.out.os, B5.out.tape, B5.out.output, B5.out.size, B5.out.block⟩
        generalize w5.drewN nq = W6 at K6 N6 L6 B6 ⊢
        clear k0 k1 k2 k3 e0 e1 e2 e3 hc5 htx K5 N5 L5 B5
        rw [HD.out] at N6
        have h50 : s.l.length ≤ 50 := K6.out.2.2.2.1
        go_wp2
        refine ⟨⟨i + 1, HLT.out, by simp, K6, N6, L6, B6⟩, ?_⟩
        simp [intOf]
        omega
    · go_wp2
      go_ret
      exact ⟨rfl, hB.out⟩

end Go.Proofs.Ytniedfilhilhhaa
