/- The document's example of layer 1: it answers true, and nothing that was there has changed. -/
import Derived.Test.YtniedfilhilhhaaRead4
import Derived.Test.YtniedfilhilhhaaWrite1
import Derived.Lib.SlBytesConst
namespace Go.Proofs.Ytniedfilhilhhaa
open Go.RowKit

def b6 : List UInt8 := [172, 2, 1, 2, 120, 121]
def b4 : List UInt8 := [1, 2, 120, 121]
def b3 : List UInt8 := [2, 120, 121]
theorem room_small {n : Nat} (h : n ≤ 1000000) : n ≤ room := by unfold room; omega
theorem l300 : ([] ++ put 300).length = 2 := by
  rw [put_big (x := 300) (by decide), put_small (x := 300 / 128) (by decide)]
  rfl
theorem b6_put : [] ++ put 300 ++ [bit true] ++ put ([120, 121] : List UInt8).length ++ [120, 121] = b6 := by
  rw [put_big (x := 300) (by decide), put_small (x := 300 / 128) (by decide), put_small (by decide)]
  rfl
theorem rd1 : (RS.mk b6 0).uint = (⟨b4, 0⟩, 300) := by rfl
theorem rd2 : (RS.mk b4 0).bool = (⟨b3, 0⟩, true) := by rfl
theorem rd3 : (RS.mk b3 0).bytes 5 = (⟨[], 0⟩, [120, 121]) := by rfl
theorem rd4 : (RS.mk [] 0).fin = 0 := by rfl
theorem rd5 : (RS.mk [1] 0).fin = 12 := by rfl

theorem Lies.row (w : World) (l : List Value) (t : TypeId) (fr : Nat × Nat) : Lies (w.alloc (.cells l.toArray t fr)) (fun i => i = w.heap.size) (some ⟨w.heap.size, 0, none⟩) l := by
  intro _
  refine ⟨_, rfl, by simp, rfl, fun j x hj => ?_⟩
  rw [add_none, Nat.zero_add, World.cell?_alloc_mark]
  simpa using hj

theorem below_chg {S : Nat → Prop} {B : Nat} {w0 w w' : World} (h : Below B w0 w) (k : Chg S w w') (hs : ∀ i, i < w.heap.size → S i → B ≤ i) (hB : B ≤ w.heap.size) : Below B w0 w' :=
  h.trans ⟨k.os, k.tape, k.output, k.size, fun i hi => k.block i (by omega) (fun e => by have := hs i (by omega) e; omega)⟩

theorem Wr.own_lt {w : World} {base g : Nat} {v : Value} {bs : List UInt8} (h : Wr w base g v bs) : ∀ i, OfWr g v i → base ≤ i := by
  rintro i (rfl | hi)
  · exact h.2.2
  · exact (h.2.1.lt i hi).1

set_option maxRecDepth 100000 in
set_option maxHeartbeats 800000 in
theorem awake1_any (w : World) : Calls Try.prog 25 #[] w fun e w' => e = .returned (.bool true) ∧ Below w.heap.size w w' := by
  have kc := fun (w : World) (C : Array Value) (n c : Nat) => Lib.run_convert_bytes_const (P := Try.prog) w 35 5 C n c Try.underlying35 Try.underlying5
  go_enter Try.func25, Try.ntmps25
  go_wp2_with fail
  refine (wnew_any w).mono ?_
  rintro e w1 ⟨g, rfl, hg, hw1, hb1⟩
  have W1 := Lib.hid hw1
  have B1 := Lib.hid hb1
  clear hw1 hb1
  go_wp2_with fail
  refine (wuint_any w1 w.heap.size g _ [] 300 W1.out (by unfold Hid; decide) (room_small (by decide))).mono ?_
  rintro e w2 ⟨rfl, v2, hw2, hc2, ho2⟩
  have W2 := Lib.hid hw2
  have B2 := Lib.hid (below_chg B1.out hc2 (fun i _ h => W1.out.own_lt i h) B1.out.size)
  clear hw2 hc2 ho2
  go_wp2_with fail
  refine (wbool_any w2 w.heap.size g _ _ true W2.out (room_small (by rw [l300]; decide))).mono ?_
  rintro e w3 ⟨rfl, v3, hw3, hc3, ho3⟩
  have W3 := Lib.hid hw3
  have B3 := Lib.hid (below_chg B2.out hc3 (fun i _ h => W2.out.own_lt i h) B2.out.size)
  clear hw3 hc3 ho3
  go_wp2_with fail
  have W3' := Lib.hid (W3.out.chg ((Chg.refl (fun _ => False) w3).alloc (.cells #[bv 120, bv 121] 5 (2, 3))) (fun h => h) (fun _ _ h => h))
  have B3' := Lib.hid (B3.out.alloc B3.out.size (.cells #[bv 120, bv 121] 5 (2, 3)))
  refine (wbytes_any _ (fun i => i = w3.heap.size) w.heap.size g _ _ [120, 121] _ _ W3'.out (Lies.row w3 ([120, 121].map bv) 5 (2, 3)) ?hq (room_small (by rw [List.length_append, l300]; decide))).mono ?_
  case hq =>
    rintro i rfl (h | h)
    · have := W3.out.1.lt; omega
    · have := (W3.out.2.1.lt _ h).2; omega
  rintro e w4 ⟨rfl, v4, hw4, hc4, ho4⟩
  rw [b6_put] at hw4
  have W4 := Lib.hid hw4
  have B4 := Lib.hid (below_chg B3'.out hc4 (fun i _ h => W3'.out.own_lt i h) B3'.out.size)
  clear hw4 hc4 ho4
  go_wp2_with fail
  refine (wout_any w4 w.heap.size g _ b6 W4.out (room_small (by decide))).mono ?_
  rintro e w5 ⟨A5, c5, rfl, ho5, hb5⟩
  have B5 := Lib.hid (B4.out.trans (hb5.mono B4.out.size))
  have hl5 : Lies w5 (fun i => w4.heap.size ≤ i) A5 (b6.map bv) := Lies.of_own ho5 rfl (fun k hk => (ho5.lt k hk).1)
  have HL5 := Lib.hid hl5
  clear ho5 hb5 hl5
  go_wp2_with fail
  refine (new_any w5 _ A5 c5 b6 HL5.out (room_small (by decide))).mono ?_
  rintro e w6 ⟨r, rfl, hr6, hrd6, hb6⟩
  have R6 := Lib.hid hrd6
  have B6 := Lib.hid (B5.out.trans (hb6.mono B5.out.size))
  have hl6 : Lies w6 (fun i => i < w5.heap.size) A5 (b6.map bv) := by
    have := HL5.out.mono (Q' := fun i => i < w5.heap.size) (fun i hi _ => hi)
    exact this.chg (Chg.new hb6 (fun _ => False)) (fun _ _ h => h)
  have HL6 := Lib.hid hl6
  have HR := Lib.hid hr6
  have HRS : Hid (w.heap.size ≤ r) := Nat.le_trans B5.out.size hr6
  clear hrd6 hb6 hl6 hr6
  go_wp2_with fail
  refine (uint_any w6 _ r _ R6.out).mono ?_
  rw [rd1]
  rintro e w7 ⟨rfl, hr7, hc7⟩
  have R7 := Lib.hid hr7
  have B7 := Lib.hid (below_chg B6.out hc7 (fun i _ h => by rw [h]; exact HRS.out) B6.out.size)
  have HL7 := Lib.hid (HL6.out.chg hc7 (fun i hi h => by have := HR.out; omega))
  clear hr7 hc7
  go_wp2_with fail
  refine (bool_any w7 _ r _ R7.out).mono ?_
  rw [rd2]
  rintro e w8 ⟨rfl, hr8, hc8⟩
  have R8 := Lib.hid hr8
  have B8 := Lib.hid (below_chg B7.out hc8 (fun i _ h => by rw [h]; exact HRS.out) B7.out.size)
  have HL8 := Lib.hid (HL7.out.chg hc8 (fun i hi h => by have := HR.out; omega))
  clear hr8 hc8
  go_wp2_with fail
  refine (bytes_any w8 _ r _ 5 R8.out (room_small (by decide)) (by unfold Hid; decide)).mono ?_
  rw [rd3]
  rintro e w9 ⟨hr9, hc9, A9, c9, rfl, ho9⟩
  have R9 := Lib.hid hr9
  have B9 := Lib.hid (below_chg B8.out hc9 (fun i _ h => by rw [h]; exact HRS.out) B8.out.size)
  have HL9 := Lib.hid (HL8.out.chg hc9 (fun i hi h => by have := HR.out; omega))
  have htx : (convert 35 9 (.slice A9 2 c9)).run Try.prog w9 = .ok (.string ⟨#[120, 121]⟩) w9 := run_text (P := Try.prog) w9 35 9 5 (fun _ => True) A9 c9 [120, 121] Try.underlying35 Try.underlying5 Try.underlying9 (Lies.of_own ho9 rfl (fun _ _ => trivial))
  obtain ⟨a5, hA5, _, _, hcell⟩ := HL9.out (by simp [b6])
  subst hA5
  have k50 : w9.cell? a5 = some (bv 172) := by simpa [Addr.add] using hcell 0 (bv 172) rfl
  have k51 : w9.cell? ⟨a5.block, a5.off + 1, none⟩ = some (bv 2) := by simpa [Addr.add] using hcell 1 (bv 2) rfl
  clear hr9 hc9 ho9 hcell
  go_wp2_with fail
  refine (end_any w9 _ r _ R9.out).mono ?_
  rw [rd4]
  rintro e w' ⟨rfl, rfl⟩
  go_wp2_with fail
  refine (new_any _ _ (some ⟨w9.heap.size, 0, none⟩) 1 [1] (Lies.row w9 ([1].map bv) 5 (0, 0)) (room_small (by decide))).mono ?_
  rintro e w10 ⟨r2, rfl, _, hrd10, hb10⟩
  have R10 := Lib.hid hrd10
  have B10 := Lib.hid ((B9.out.alloc B9.out.size _).trans (hb10.mono (B9.out.alloc B9.out.size _).size))
  clear hrd10 hb10
  go_wp2_with fail
  refine (end_any w10 _ r2 _ R10.out).mono ?_
  rw [rd5]
  rintro e w' ⟨rfl, rfl⟩
  go_wp2
  go_ret
  exact ⟨rfl, B10.out⟩

end Go.Proofs.Ytniedfilhilhhaa
