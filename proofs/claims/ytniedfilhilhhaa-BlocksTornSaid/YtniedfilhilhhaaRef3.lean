/- The reference of layer 1: the readers, walked: Fixed. -/
import Derived.Test.YtniedfilhilhhaaMade
import Derived.Test.YtniedfilhilhhaaRead4
import Derived.Lib.Strings
namespace Go.Proofs.Ytniedfilhilhhaa
open Go.RowKit

/-- A reader of the reference, as a value. -/
abbrev RV (s : RS) : Value := .agg #[.string ⟨s.l.toArray⟩, .int .i64 s.e]

theorem text_size (l : List UInt8) : (⟨l.toArray⟩ : ByteArray).size = l.length := by show l.toArray.size = _; simp
theorem text_take (l : List UInt8) (n : Nat) : ByteArray.extract ⟨l.toArray⟩ 0 n = ⟨(l.take n).toArray⟩ := by
  apply ByteArray.ext
  apply Array.toList_inj.1
  rw [Lib.extract_data]
  simp
theorem text_drop (l : List UInt8) (n : Nat) : ByteArray.extract ⟨l.toArray⟩ n l.length = ⟨(l.drop n).toArray⟩ := by
  apply ByteArray.ext
  apply Array.toList_inj.1
  rw [Lib.extract_data, List.take_of_length_le (by simp)]

/-- Behind a reader of the reference: the reader as it is then, and what was read; nothing that was there has changed. -/
def Tells (w : World) (s : RS) (v : Value) (e : Ending) (w' : World) : Prop := e = .returned (.tuple #[RV s, v]) ∧ Below w.heap.size w w'

set_option maxRecDepth 100000 in
set_option maxHeartbeats 800000 in
theorem rfixed_any (w : World) (s : RS) (n : Int) : Calls Try.prog 43 #[RV s, .int .i64 n] w (Tells w (s.take n).1 (.string ⟨(s.got n).toArray⟩)) := by
  by_cases he : s.e = 0
  · have h0 : (s.e != 0) = false := by simpa using he
    by_cases hn : n < 0
    · have HT := Lib.hid (take_neg he hn)
      have HG : Hid (s.got n = []) := by unfold Hid RS.got; rw [HT.out]; rfl
      have HF : Hid (s.fail 1 = ⟨s.l, 1⟩) := by unfold Hid RS.fail; rw [if_pos he]
      clear he
      go_enter Try.func43, Try.ntmps43
      go_wp2
      refine bodyPost_ret (v := .tuple #[RV ⟨s.l, 1⟩, .string ⟨#[]⟩]) (by simp [results, Try.results43, go_sem]) rfl ⟨by rw [HT.out, HF.out, HG.out], ?_⟩
      exact ((Below.refl _ _).alloc (Nat.le_refl _) _).alloc (by simp) _
    · have hn' := hn
      by_cases hl : n > s.l.length
      · have HT := Lib.hid (take_long he hn hl)
        have HG : Hid (s.got n = []) := by unfold Hid RS.got; rw [HT.out]; rfl
        have HF : Hid (s.fail 10 = ⟨s.l, 10⟩) := by unfold Hid RS.fail; rw [if_pos he]
        have hz := text_size s.l
        clear he
        go_enter Try.func43, Try.ntmps43
        go_wp2
        refine bodyPost_ret (v := .tuple #[RV ⟨s.l, 10⟩, .string ⟨#[]⟩]) (by simp [results, Try.results43, go_sem]) rfl ⟨by rw [HT.out, HF.out, HG.out], ?_⟩
        exact ((Below.refl _ _).alloc (Nat.le_refl _) _).alloc (by simp) _
      · have HT := Lib.hid (take_ok he hn hl)
        obtain ⟨m, rfl⟩ := Int.eq_ofNat_of_zero_le (by omega : 0 ≤ n)
        have hm : m ≤ s.l.length := by omega
        have HG : Hid (s.got m = s.l.take m) := by unfold Hid RS.got; rw [HT.out]; rfl
        have hz := text_size s.l
        have HE := Lib.hid he
        have ht := text_take s.l m
        have hd := text_drop s.l m
        clear he hn hl hn'
        go_enter Try.func43, Try.ntmps43
        go_wp2
        refine bodyPost_ret (v := .tuple #[RV ⟨s.l.drop m, s.e⟩, .string ⟨(s.l.take m).toArray⟩]) (by simp [results, Try.results43, go_sem]) rfl ⟨by rw [HT.out, HG.out]; rfl, ?_⟩
        exact ((Below.refl _ _).alloc (Nat.le_refl _) _).alloc (by simp) _
  · have h0 : (s.e != 0) = true := by simpa using he
    have HT := Lib.hid (take_err (n := n) he)
    have HG : Hid (s.got n = []) := by unfold Hid RS.got; rw [HT.out]; rfl
    clear he
    go_enter Try.func43, Try.ntmps43
    go_wp2
    refine bodyPost_ret (v := .tuple #[RV s, .string ⟨#[]⟩]) (by simp [results, Try.results43, go_sem]) rfl ⟨by rw [HT.out, HG.out], ?_⟩
    exact ((Below.refl _ _).alloc (Nat.le_refl _) _).alloc (by simp) _

end Go.Proofs.Ytniedfilhilhhaa
