/- The document's disk: New. -/
import Derived.Test.YtniedfilhilhhaaRefD1
import Derived.Test.YtniedfilhilhhaaFilled
namespace Go.Proofs.Ytniedfilhilhhaa
open Go.RowKit

theorem info9 : (Try.prog.info? 9).map (fun i => (i.zero, i.size, i.bytes)) = some (some (.string ⟨#[]⟩), 1, 16) := by kernel_rfl
/-- A row of noughts. -/
def zrow : List UInt8 := List.replicate 128 0
theorem zrow_len : zrow.length = 128 := by simp [zrow]
theorem fresh_l (n : Nat) : (fresh n).l = List.replicate n zrow := rfl
def zcells : Array Value := (zrow.map bv).toArray
theorem run_make_zrow (w : World) : (Instr.makeSlice 35 (.int .i64 128) (.int .i64 128)).run Try.prog w = .ok (.slice (some ⟨w.heap.size, 0, none⟩) 128 128) (w.alloc (.cells zcells 5)) := by
  have h := run_make_bytes 128 (by decide) w
  have e : zcells = (List.replicate 128 (Value.int .u8 0)).toArray := by
    unfold zcells zrow
    rw [List.map_replicate]
    rfl
  rw [e]
  exact h

/-- Behind New. -/
def BornD (w : World) (n : Nat) (e : Ending) (w' : World) : Prop :=
  ∃ A c, e = .returned (.tuple #[DV A c (fresh n), .int .i64 0]) ∧ Lies w' (fun i => w.heap.size ≤ i) A ((fresh n).l.map sv) ∧ Below w.heap.size w w'

set_option maxRecDepth 100000 in
set_option maxHeartbeats 1600000 in
theorem rnewd_any (w : World) (n : Nat) (h1 : 1 ≤ n) (hn : n ≤ 50) : Calls Try.prog 12 #[.int .i64 (n : Int)] w (BornD w n) := by
  obtain ⟨i9, hi9, hz9, hs9, hb9⟩ := info_parts info9
  have hmk := run_make_zrow
  have h2 : ¬ (n : Int) < 1 := by omega
  have h3 : ¬ (65536 : Int) < (n : Int) := by omega
  have HN := Lib.hid hn
  go_enter Try.func12, Try.ntmps12
  go_wp2
  have B0 : Hid (Below w.heap.size w (w.alloc (.cells #[.slice none 0 0, .int .i64 0, .int .i64 0, .bool false] 30))) := (Below.refl _ _).alloc (Nat.le_refl _) _
  have K0 : Hid (Blk (w.alloc (.cells #[.slice none 0 0, .int .i64 0, .int .i64 0, .bool false] 30)) w.heap.size 30 #[.slice none 0 0, .int .i64 0, .int .i64 0, .bool false]) := Blk.new w 30 _
  go_loopw [4, 5] (fun v4 v5 wr => ∃ (k : Nat) (A : Option Addr) (c : Nat), k ≤ n ∧ v5 = .int .i64 k ∧ v4 = .slice A k c ∧ Hid (wr.ownsRow (w.heap.size + 1) 9 1 (.slice A k c) k ((List.replicate k zrow).map sv)) ∧ Hid (Blk wr w.heap.size 30 #[.slice none 0 0, .int .i64 0, .int .i64 0, .bool false]) ∧ Hid (Below w.heap.size w wr)) (fun _ v5 _ => n - (intOf v5).toNat)
  case atStart => exact ⟨0, none, 0, Nat.zero_le _, rfl, rfl, World.ownsRow_nil _ _ _ _, K0, B0⟩
  case round =>
    obtain ⟨k, A, c, hk, rfl, rfl, hO, hK, hB⟩ := hrel
    by_cases hlt : k < n
    · have htx := run_text (P := Try.prog) (wr.alloc (.cells zcells 5)) 35 9 5 (fun i => i = wr.heap.size) (some ⟨wr.heap.size, 0, none⟩) 128 zrow Try.underlying35 Try.underlying5 Try.underlying9 (Lies.row wr (zrow.map bv) 5 (0, 0))
      rw [zrow_len] at htx
      go_wp2_with (at_builtin; refine wpList_append_src _ rfl (.tmp 18) (.tmp 21) 28 rfl (w.heap.size + 1) 9 i9 (.string ⟨#[]⟩) 1 16 Try.underlying28 hi9 hz9 hs9 hb9 rfl (by decide) _ k ((List.replicate k zrow).map sv) rfl ((hO.out.alloc _).alloc _) (fun i => i = wr.heap.size + 1) (some ⟨wr.heap.size + 1, 0, none⟩) 1 1 [sv zrow] rfl rfl ?a0 ?a1 ?a3 ?a4 ?a5 ?_)
      case a0 => have := Lies.single (wr.alloc (.cells zcells 5)) (sv zrow) 9; simpa using this
      case a1 => intro u hu; simp at hu; subst hu; rfl
      case a3 => have := HN.out; unfold maxLen; omega
      case a4 => have := HN.out; omega
      case a5 => have := hB.out.size; have := hK.out.lt; simp; omega
      intro A' c' w5 hown hgrow hat
      have O5 : Hid (w5.ownsRow (w.heap.size + 1) 9 1 (.slice A' (k + 1) c') (k + 1) ((List.replicate (k + 1) zrow).map sv)) := by rw [List.replicate_succ', List.map_append]; simpa [Hid] using hown
      have hg5 : Chg (fun j => Value.ownBlock (.slice A k c) = some j) ((wr.alloc (.cells zcells 5)).alloc (.cells #[sv zrow] 9)) w5 := Chg.grown hgrow (fun j h => h.symm)
      have O4' := (hO.out.alloc (.cells zcells 5)).alloc (.cells #[sv zrow] 9)
      have hB4 : Below w.heap.size w ((wr.alloc (.cells zcells 5)).alloc (.cells #[sv zrow] 9)) := (hB.out.alloc hB.out.size _).alloc (hB.out.alloc hB.out.size (.cells zcells 5)).size _
      have K5 := Lib.hid (((hK.out.alloc (.cells zcells 5)).alloc (.cells #[sv zrow] 9)).chg hg5 (fun h => by have := (O4'.lt _ h).1; omega))
      have B5 := Lib.hid (below_chg hB4 hg5 (fun j _ h => by have := (O4'.lt j h).1; omega) hB4.size)
      clear hown hgrow hat hg5 O4' hB4
      go_wp2
      go_roundw
      case rel => exact ⟨k + 1, A', c', by omega, by go_num, rfl, O5, K5, B5⟩
      case measure => simp [intOf]; omega
    · have hke : k = n := by omega
      subst hke
      clear hlt hk
      obtain ⟨⟨k0, k1, k2, k3⟩, f0, f1, f2, f3⟩ := box4 hK.out
      have hl := Lies.of_own (Q := fun j => w.heap.size + 1 ≤ j) hO.out rfl (fun j hj => (hO.out.lt j hj).1)
      have HL := Lib.hid ((((hl.chg (Chg.at_ _ w.heap.size 0 (.slice A k c)) (fun i hi => by omega)).chg (Chg.at_ _ w.heap.size 1 (.int .i64 (-1))) (fun i hi => by omega)).chg (Chg.at_ _ w.heap.size 2 (.int .i64 0)) (fun i hi => by omega)).chg (Chg.at_ _ w.heap.size 3 (.bool false)) (fun i hi => by omega))
      clear hl
      go_wp2
      refine bodyPost_ret (v := .tuple #[DV A c (fresh k), .int .i64 0]) (by simp [results, Try.results12, go_sem, k0, k1, k2, k3, fresh]) rfl ⟨A, c, rfl, ?_, ?_⟩
      · rw [fresh_l]
        exact HL.out.mono (fun i _ h => by omega)
      · exact (((hB.out.setCell (by simp) _).setCell (by simp) _).setCell (by simp) _).setCell (by simp) _
theorem rnewd_bad (w : World) (n : Int) (h : n < 1 ∨ 65536 < n) : Calls Try.prog 12 #[.int .i64 n] w fun e w' => e = .returned (.tuple #[.agg #[.slice none 0 0, .int .i64 0, .int .i64 0, .bool false], .int .i64 1]) ∧ Below w.heap.size w w' := by
  by_cases h1 : n < 1
  · clear h
    go_enter Try.func12, Try.ntmps12
    go_wp2
    exact bodyPost_ret (v := .tuple #[.agg #[.slice none 0 0, .int .i64 0, .int .i64 0, .bool false], .int .i64 1]) (by simp [results, Try.results12, go_sem]) rfl ⟨rfl, (Below.refl _ _).alloc (Nat.le_refl _) _⟩
  · have h2 : 65536 < n := by omega
    clear h
    go_enter Try.func12, Try.ntmps12
    go_wp2
    exact bodyPost_ret (v := .tuple #[.agg #[.slice none 0 0, .int .i64 0, .int .i64 0, .bool false], .int .i64 1]) (by simp [results, Try.results12, go_sem]) rfl ⟨rfl, (Below.refl _ _).alloc (Nat.le_refl _) _⟩

end Go.Proofs.Ytniedfilhilhhaa
