/- filled: so many bytes, out of a seed. -/
import Derived.Test.YtniedfilhilhhaaDisk2
import Derived.Test.YtniedfilhilhhaaRef7
namespace Go.Proofs.Ytniedfilhilhhaa
open Go.RowKit

/-- The bytes out of a seed. -/
def fill (x n : Nat) : List UInt8 := (List.range n).map fun i => UInt8.ofNat (x + i * 7)
theorem fill_len (x n : Nat) : (fill x n).length = n := by simp [fill]

theorem own_of_blk {w : World} {base m : Nat} {l : List Value} (hb : base ≤ m) (hl : l.length ≤ maxLen) (h : Blk w m 5 l.toArray) : w.ownsRow base 5 1 (.slice (some ⟨m, 0, none⟩) l.length l.length) l.length l :=
  ⟨by simp, .inr ⟨m, l.length, l.toArray, rfl, hb, h, Nat.le_refl _, hl, by simp, by simp⟩⟩

theorem run_make_bytes (n : Nat) (hn : n ≤ 1000) (w : World) : (Instr.makeSlice 35 (.int .i64 (n : Int)) (.int .i64 (n : Int))).run Try.prog w = .ok (.slice (some ⟨w.heap.size, 0, none⟩) n n) (w.alloc (.cells (List.replicate n (.int .u8 0)).toArray 5)) := by
  obtain ⟨i, hi, hz, hs, hb⟩ := info_parts info5
  have hr := run_make (P := Try.prog) w 35 5 i (.int .u8 0) Try.underlying35 hi hz .i64 .i64 n n (by omega) (Int.le_refl _) (by rw [hb]; omega) (by omega)
  rw [hs] at hr
  simp only [Int.toNat_natCast, Nat.mul_one] at hr
  have e : (Value.int .u8 0).cells = (List.replicate 1 (Value.int .u8 0)).toArray := rfl
  rw [e, made_same 1 n _ (by decide)] at hr
  exact hr

/-- The first k bytes of them, and noughts behind. -/
def filling (t : List UInt8) (k : Nat) : Array Value := ((t.take k).map bv ++ List.replicate (t.length - k) (Value.int .u8 0)).toArray
theorem filling_zero (t : List UInt8) : filling t 0 = (List.replicate t.length (Value.int .u8 0)).toArray := by simp [filling]
theorem filling_all (t : List UInt8) : filling t t.length = (t.map bv).toArray := by simp [filling]
theorem filling_at (t : List UInt8) (k : Nat) (h : k < t.length) : (filling t k)[k]? = some (.int .u8 0) := by
  have e : t.length - k = (t.length - (k + 1)) + 1 := by omega
  unfold filling
  rw [e, List.replicate_succ, List.getElem?_toArray, List.getElem?_append_right (by simp; omega)]
  simp [Nat.min_eq_left (Nat.le_of_lt h)]
theorem filling_put (t : List UInt8) (k : Nat) (h : k < t.length) : (filling t k).setIfInBounds k (bv t[k]) = filling t (k + 1) := by
  unfold filling
  apply Array.toList_inj.1
  have e : t.length - k = (t.length - (k + 1)) + 1 := by omega
  rw [e, List.replicate_succ, List.take_succ_eq_append_getElem h]
  simp only [Array.toList_setIfInBounds, List.map_append, List.map_cons, List.map_nil]
  rw [List.set_append_right _ _ (by simp; omega)]
  simp [Nat.min_eq_left (Nat.le_of_lt h)]

set_option maxRecDepth 100000 in
set_option maxHeartbeats 800000 in
theorem filled_any (w : World) (x n : Nat) (_hx : x < 256) (hn : n ≤ 128) : Calls Try.prog 13 #[.int .u8 (x : Int), .int .i64 (n : Int)] w (Fresh w (fill x n)) := by
  have hmk := run_make_bytes n (by omega)
  generalize ht : fill x n = t
  have htn : t.length = n := by rw [← ht]; exact fill_len x n
  have HT := Lib.hid ht
  subst htn
  go_enter Try.func13, Try.ntmps13
  go_wp2
  have hnew : Blk (w.alloc (.cells (List.replicate t.length (.int .u8 0)).toArray 5)) w.heap.size 5 (filling t 0) := by rw [filling_zero]; exact Blk.new w 5 _
  go_loopw [6] (fun i wr => ∃ k : Nat, k ≤ t.length ∧ i = .int .i64 k ∧ Hid (Blk wr w.heap.size 5 (filling t k)) ∧ Hid (Below w.heap.size w wr)) (fun i _ => t.length - (intOf i).toNat)
  case atStart => exact ⟨0, Nat.zero_le _, rfl, hnew, (Below.refl _ _).alloc (Nat.le_refl _) _⟩
  case round =>
    obtain ⟨k, hk, rfl, hm, hB⟩ := hrel
    by_cases hlt : k < t.length
    · have hq := (hm.out.cell k).trans (filling_at t k hlt)
      have hf := hm.out.frozen k
      have hk7 : IntKind.i64.wrap ((k : Int) * 7) = ((k * 7 : Nat) : Int) := by rw [IntKind.wrap_i64]; omega
      have hbv : Hid (bv t[k] = .int .u8 (((x : Int) + (k : Int) * 7) % 256)) := by
        have h1 : t[k]? = some (UInt8.ofNat (x + k * 7)) := by
          rw [← HT.out]
          simp [fill, hlt]
        rw [List.getElem?_eq_getElem hlt] at h1
        rw [Option.some.inj h1]
        unfold Hid bv
        rw [UInt8.toNat_ofNat']
        congr 1
      go_wp2
      refine ⟨⟨k + 1, hlt, by simp, ?_, hB.out.setCell (Nat.le_refl _) _⟩, ?_⟩
      · have := hm.out.put k (bv t[k])
        rw [filling_put t k hlt, hbv.out] at this
        exact this
      · simp [intOf]
        omega
    · have hke : k = t.length := by omega
      subst hke
      clear hlt hk
      go_wp2
      go_ret
      have hm' := hm.out
      rw [filling_all] at hm'
      exact ⟨_, _, rfl, by have := own_of_blk (base := w.heap.size) (Nat.le_refl _) (by rw [List.length_map]; exact Nat.le_trans hn (by decide)) hm'; simpa using this, hB.out⟩

end Go.Proofs.Ytniedfilhilhhaa
