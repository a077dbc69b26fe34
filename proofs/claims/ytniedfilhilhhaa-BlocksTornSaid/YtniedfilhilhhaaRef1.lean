/- The reference of layer 1: Put and With, walked. -/
import Derived.Test.YtniedfilhilhhaaWrite1
import Derived.RegionTactic
namespace Go.Proofs.Ytniedfilhilhhaa
open Go.RowKit

theorem text_add (a b : List UInt8) : (⟨a.toArray⟩ : ByteArray) ++ ⟨b.toArray⟩ = ⟨(a ++ b).toArray⟩ := by
  apply ByteArray.ext
  simp

theorem run_text_add {P : Program} (W : World) (a b c : List UInt8) (hc : a ++ b = c) (h : c.length ≤ room) : (Op.stringOp .add ⟨a.toArray⟩ ⟨b.toArray⟩).run P W = .ok (.string ⟨c.toArray⟩) W := by
  rw [run_string_add_sum, text_add, hc]
  have := room_le h
  rw [← hc, List.length_append] at this
  show a.toArray.size + b.toArray.size ≤ _
  simp
  omega

theorem room_small' {n : Nat} (h : n ≤ 10) : n ≤ room := by unfold room; omega

/-- Behind a call that answers a text, and leaves what was there. -/
def Says (w : World) (l : List UInt8) (e : Ending) (w' : World) : Prop := e = .returned (.string ⟨l.toArray⟩) ∧ Below w.heap.size w w'

theorem drop_more (x : Nat) : ((x : Int) % 128 + 128) % 256 = ((UInt8.ofNat (x % 128 + 128)).toNat : Int) := by rw [UInt8.toNat_ofNat']; omega

theorem drop_more' (x : Nat) (hx : x < 18446744073709551616) : IntKind.u8.wrap (IntKind.u64.wrap (((x : Int)).tmod 128 + 128)) = ((x : Int) % 128 + 128) % 256 := by
  rw [Int.tmod_eq_emod_of_nonneg (by omega), IntKind.wrap_u64, IntKind.wrap_u8']
  omega

set_option maxRecDepth 100000 in
set_option maxHeartbeats 800000 in
theorem rput_any (x : Nat) : ∀ w : World, Hid (x < 18446744073709551616) → Calls Try.prog 28 #[.int .u64 (x : Int)] w (Says w (put x)) := by
  induction x using Nat.strongRecOn with
  | ind x ih =>
    intro w hx
    by_cases hlt : x < 128
    · have HS : Hid (put x = [UInt8.ofNat x]) := put_small hlt
      have HV : Hid (Value.int .u8 (x : Int) = bv (UInt8.ofNat x)) := by unfold Hid bv; rw [UInt8.toNat_ofNat']; congr 1; omega
      have hv : (x : Int) % 256 = ((UInt8.ofNat x).toNat : Int) := by rw [UInt8.toNat_ofNat']; omega
      have ht : (convert 35 9 (.slice (some ⟨w.heap.size, 0, none⟩) 1 1)).run Try.prog (w.alloc (.cells #[.int .u8 (x : Int)] 5)) = .ok (.string ⟨#[UInt8.ofNat x]⟩) (w.alloc (.cells #[.int .u8 (x : Int)] 5)) := by
        rw [HV.out]
        exact run_text (P := Try.prog) _ 35 9 5 (fun i => i = w.heap.size) _ 1 [UInt8.ofNat x] Try.underlying35 Try.underlying5 Try.underlying9 (Lies.single w (bv (UInt8.ofNat x)) 5)
      clear ih hx hv
      go_enter Try.func28, Try.ntmps28
      go_wp2
      go_ret
      rw [HS.out]
      exact ⟨rfl, (Below.refl _ _).alloc (Nat.le_refl _) _⟩
    · obtain ⟨y, hy⟩ : ∃ y, x / 128 = y := ⟨_, rfl⟩
      have HV0 : Value.int .u8 (((x : Int) % 128 + 128) % 256) = bv (UInt8.ofNat (x % 128 + 128)) := by unfold bv; rw [drop_more]
      have HS0 : [UInt8.ofNat (x % 128 + 128)] ++ put y = put x := by rw [put_big hlt, hy]; rfl
      generalize UInt8.ofNat (x % 128 + 128) = b at HV0 HS0
      have HS := Lib.hid HS0
      have HV := Lib.hid HV0
      have HX : Hid (y < 18446744073709551616) := by have := hx.out; unfold Hid; omega
      have IH := fun W => Lib.hid (ih y (by omega) W HX)
      have HI := Lib.hid IH
      have HL := Lib.hid (put_ten hx.out)
      have hadd := fun W => run_text_add (P := Try.prog) W [b] (put y) (put x) HS.out (room_small' HL.out)
      have hm' := drop_more' x hx.out
      have hq : IntKind.u64.wrap ((x : Int) / 128) = (y : Int) := by have := hx.out; rw [IntKind.wrap_u64]; omega
      clear ih hx IH hy HV0 HS0
      go_enter Try.func28, Try.ntmps28
      go_wp2_with fail
      refine wp_region_any (by kernel_rfl) ?_
      change wpAny _ _ _ _ _ _ _ (World.drew _)
      refine wpAny_take (i := 0) (v := ?_) rfl (by kernel_rfl) (by kernel_rfl) (by kernel_rfl) (fun _ _ _ h => h) (Or.inl ⟨by rfl, ?_⟩) ?_
      rotate_left
      · (intro w; go_simp; with_reducible rfl)
      refine wpAny_take (i := 1) (v := ?_) rfl (by kernel_rfl) (by kernel_rfl) (by kernel_rfl) (fun _ _ _ h => h) (Or.inl ⟨by rfl, ?_⟩) ?_
      rotate_left
      · (intro w; go_simp; with_reducible rfl)
      refine wpAny_take (i := 2) (v := ?_) rfl (by kernel_rfl) (by kernel_rfl) (by kernel_rfl) (fun _ _ _ h => h) (Or.inl ⟨by rfl, ?_⟩) ?_
      rotate_left
      · (intro w; go_simp; with_reducible rfl)
      refine wpAny_take (i := 3) (v := ?_) rfl (by kernel_rfl) (by kernel_rfl) (by kernel_rfl) (fun _ _ _ h => h) (Or.inl ⟨by rfl, ?_⟩) ?_
      rotate_left
      · (intro w; go_simp; with_reducible rfl)
      refine wpAny_take (i := 6) (v := ?_) rfl (by kernel_rfl) (by kernel_rfl) (by kernel_rfl) (fun _ _ _ h => h) (Or.inl ⟨by rfl, ?_⟩) ?_
      rotate_left
      · (intro w; go_simp; with_reducible rfl)
      refine wpAny_take (i := 7) (v := ?_) rfl (by kernel_rfl) (by kernel_rfl) (by kernel_rfl) (fun _ _ _ h => h) (Or.inl ⟨by rfl, ?_⟩) ?_
      rotate_left
      · (intro w; go_simp; with_reducible rfl)
      refine wpAny_ready (rs := [4, 8]) (by kernel_rfl) (by simp) ?_
      refine AllReady.cons rfl (fun K hK => ?_) ?_
      · go_simp
        refine hK _ _ ?_
        clear hK K
        have hms : w.heap.size < ((w.alloc (.cells #[.int .u8 (((x : Int) % 128 + 128) % 256)] 5)).drew).heap.size := by show w.heap.size < (w.alloc _).heap.size; simp
        have hml : Lies ((w.alloc (.cells #[.int .u8 (((x : Int) % 128 + 128) % 256)] 5)).drew) (fun _ => True) (some ⟨w.heap.size, 0, none⟩) ([b].map bv) := by rw [HV.out]; exact (Lies.single w (bv (b)) 5).mono (fun _ _ _ => trivial)
        have hmb : Below w.heap.size w ((w.alloc (.cells #[.int .u8 (((x : Int) % 128 + 128) % 256)] 5)).drew) := ((Below.refl _ _).alloc (Nat.le_refl _) _).drew
        generalize (w.alloc (.cells #[.int .u8 (((x : Int) % 128 + 128) % 256)] 5)).drew = W1 at hms hml hmb ⊢
        have HML := Lib.hid hml
        have HMB := Lib.hid hmb
        have ht : (convert 35 9 (.slice (some ⟨w.heap.size, 0, none⟩) 1 1)).run Try.prog W1 = .ok (.string ⟨[b].toArray⟩) W1 := run_text (P := Try.prog) W1 35 9 5 (fun _ => True) (some ⟨w.heap.size, 0, none⟩) 1 [b] Try.underlying35 Try.underlying5 Try.underlying9 hml
        clear hml hmb
        refine wpAny_ready (rs := [5, 8]) (by kernel_rfl) (by simp) ?_
        refine AllReady.cons rfl (fun K hK => ?_) ?_
        · go_simp
          refine hK _ _ ?_
          clear hK K
          refine wpAny_ready (rs := [8]) (by kernel_rfl) (by simp) ?_
          refine AllReady.cons rfl (fun K hK => ?_) AllReady.nil
          go_simp
          refine (HI.out _).out.mono ?_
          rintro e W2 ⟨rfl, hb⟩
          have BB := Lib.hid (HMB.out.trans (hb.mono HMB.out.size))
          have ht2 : (convert 35 9 (.slice (some ⟨w.heap.size, 0, none⟩) 1 1)).run Try.prog W2 = .ok (.string ⟨[b].toArray⟩) W2 := run_text (P := Try.prog) W2 35 9 5 (fun _ => True) (some ⟨w.heap.size, 0, none⟩) 1 [b] Try.underlying35 Try.underlying5 Try.underlying9 (HML.out.chg (Chg.new hb (fun _ => False)) (fun _ _ h => h))
          clear hb
          refine hK _ _ ?_
          clear hK K
          refine wpAny_ready (rs := [9]) (by kernel_rfl) (by simp) ?_
          refine AllReady.cons rfl (fun K hK => ?_) AllReady.nil
          go_simp
          refine hK _ _ ?_
          clear hK K
          refine wpAny_ready (rs := [10]) (by kernel_rfl) (by simp) ?_
          refine AllReady.cons rfl (fun K hK => ?_) AllReady.nil
          go_simp
          refine hK _ _ ?_
          clear hK K
          refine wpAny_done (by kernel_rfl) ?_ _
          go_wp2
          go_ret
          exact ⟨rfl, BB.out⟩
        refine AllReady.cons rfl (fun K hK => ?_) AllReady.nil
        go_simp
        refine (HI.out _).out.mono ?_
        rintro e W2 ⟨rfl, hb⟩
        have BB := Lib.hid (HMB.out.trans (hb.mono HMB.out.size))
        have ht2 : (convert 35 9 (.slice (some ⟨w.heap.size, 0, none⟩) 1 1)).run Try.prog W2 = .ok (.string ⟨[b].toArray⟩) W2 := run_text (P := Try.prog) W2 35 9 5 (fun _ => True) (some ⟨w.heap.size, 0, none⟩) 1 [b] Try.underlying35 Try.underlying5 Try.underlying9 (HML.out.chg (Chg.new hb (fun _ => False)) (fun _ _ h => h))
        clear hb
        refine hK _ _ ?_
        clear hK K
        refine wpAny_ready (rs := [5]) (by kernel_rfl) (by simp) ?_
        refine AllReady.cons rfl (fun K hK => ?_) AllReady.nil
        go_simp
        refine hK _ _ ?_
        clear hK K
        refine wpAny_ready (rs := [9]) (by kernel_rfl) (by simp) ?_
        refine AllReady.cons rfl (fun K hK => ?_) AllReady.nil
        go_simp
        refine hK _ _ ?_
        clear hK K
        refine wpAny_ready (rs := [10]) (by kernel_rfl) (by simp) ?_
        refine AllReady.cons rfl (fun K hK => ?_) AllReady.nil
        go_simp
        refine hK _ _ ?_
        clear hK K
        refine wpAny_done (by kernel_rfl) ?_ _
        go_wp2
        go_ret
        exact ⟨rfl, BB.out⟩
      refine AllReady.cons rfl (fun K hK => ?_) AllReady.nil
      go_simp
      refine (HI.out _).out.mono ?_
      rintro e W2 ⟨rfl, hb⟩
      have B2 : Hid (Below w.heap.size w W2) := (Below.refl _ w).drew.trans hb
      clear hb
      refine hK _ _ ?_
      clear hK K
      refine wpAny_ready (rs := [4]) (by kernel_rfl) (by simp) ?_
      refine AllReady.cons rfl (fun K hK => ?_) AllReady.nil
      go_simp
      refine hK _ _ ?_
      clear hK K
      have hml : Lies (W2.alloc (.cells #[.int .u8 (((x : Int) % 128 + 128) % 256)] 5)) (fun _ => True) (some ⟨W2.heap.size, 0, none⟩) ([b].map bv) := by rw [HV.out]; exact (Lies.single W2 (bv (b)) 5).mono (fun _ _ _ => trivial)
      have BB := Lib.hid (B2.out.alloc B2.out.size (.cells #[.int .u8 (((x : Int) % 128 + 128) % 256)] 5))
      have ht : (convert 35 9 (.slice (some ⟨W2.heap.size, 0, none⟩) 1 1)).run Try.prog (W2.alloc (.cells #[.int .u8 (((x : Int) % 128 + 128) % 256)] 5)) = .ok (.string ⟨[b].toArray⟩) (W2.alloc (.cells #[.int .u8 (((x : Int) % 128 + 128) % 256)] 5)) := run_text (P := Try.prog) (W2.alloc (.cells #[.int .u8 (((x : Int) % 128 + 128) % 256)] 5)) 35 9 5 (fun _ => True) (some ⟨W2.heap.size, 0, none⟩) 1 [b] Try.underlying35 Try.underlying5 Try.underlying9 hml
      clear hml
      refine wpAny_ready (rs := [5]) (by kernel_rfl) (by simp) ?_
      refine AllReady.cons rfl (fun K hK => ?_) AllReady.nil
      go_simp
      refine hK _ _ ?_
      clear hK K
      refine wpAny_ready (rs := [9]) (by kernel_rfl) (by simp) ?_
      refine AllReady.cons rfl (fun K hK => ?_) AllReady.nil
      go_simp
      refine hK _ _ ?_
      clear hK K
      refine wpAny_ready (rs := [10]) (by kernel_rfl) (by simp) ?_
      refine AllReady.cons rfl (fun K hK => ?_) AllReady.nil
      go_simp
      refine hK _ _ ?_
      clear hK K
      refine wpAny_done (by kernel_rfl) ?_ _
      go_wp2
      go_ret
      exact ⟨rfl, BB.out⟩

end Go.Proofs.Ytniedfilhilhhaa
