/- CodecOne, walked: whatever the bytes, it answers true, and nothing that was there has changed. -/
import Derived.Test.YtniedfilhilhhaaAwake1
import Derived.Test.YtniedfilhilhhaaOnePlain
import Derived.Deep.RegionWith
import Derived.BigRegion
namespace Go.Proofs.Ytniedfilhilhhaa
open Go.RowKit

set_option maxRecDepth 100000 in
set_option maxHeartbeats 400000 in
theorem one_walk (w : World) (A : Option Addr) (c : Nat) (bs : List UInt8) (h : Lies w (fun _ => True) A (bs.map bv)) :
    Calls Try.prog 6 #[.slice A bs.length c] w fun e w' => e = .returned (.bool true) ∧ Below w.heap.size w w' := by
  have HL := Lib.hid h
  clear h
  by_cases hlen : bs.length ≤ 20
  · have hroom : Hid (bs.length ≤ room) := room_small (by omega)
    by_cases hfin : (RS.mk bs 0).uint.1.fin = 0
    · have hf0 : ((RS.mk bs 0).uint.1.fin != 0) = false := by simpa using hfin
      have hput := one_law bs hfin
      have HP := Lib.hid hput
      have HT := Lib.hid (put_ten (uint_lt ⟨bs, 0⟩))
      have hl1 : 1 ≤ bs.length := by have := put_pos (RS.mk bs 0).uint.2; rw [hput] at this; exact this
      have hl10 : bs.length ≤ 10 := by have := HT.out; rw [hput] at this; exact this
      clear hfin hput
      go_enter Try.func6, Try.ntmps6
      go_wp2_with fail
      refine (awake1_any w).mono ?_
      rintro e w1 ⟨rfl, hb⟩
      have B1 := Lib.hid hb
      have HL1 := Lib.hid (HL.out.chg (Chg.new hb (fun _ => False)) (fun _ _ h => h))
      clear hb
      go_wp2_with fail
      refine (new_any w1 _ A c bs HL1.out hroom.out).mono ?_
      rintro e w2 ⟨r, rfl, hr, hrd, hb⟩
      have R2 := Lib.hid hrd
      have B2 := Lib.hid (B1.out.trans (hb.mono B1.out.size))
      have HRS : Hid (w.heap.size ≤ r) := Nat.le_trans B1.out.size hr
      clear hrd hb hr
      go_wp2_with fail
      refine (uint_any w2 _ r _ R2.out).mono ?_
      rintro e w3 ⟨rfl, hr3, hc3⟩
      have R3 := Lib.hid hr3
      have B3 := Lib.hid (below_chg B2.out hc3 (fun i _ h => by rw [h]; exact HRS.out) B2.out.size)
      clear hr3 hc3
      go_wp2_with fail
      refine (end_any w3 _ r _ R3.out).mono ?_
      rintro e w' ⟨rfl, rfl⟩
      go_wp2_with fail
      refine (wnew_any w3).mono ?_
      rintro e w4 ⟨g, rfl, hg, hw4, hb4⟩
      have W4 := Lib.hid hw4
      have B4 := Lib.hid (B3.out.trans (hb4.mono B3.out.size))
      clear hw4 hb4
      go_wp2_with fail
      refine (wuint_any w4 w3.heap.size g _ [] _ W4.out (uint_lt ⟨bs, 0⟩) (room_small (by decide))).mono ?_
      rintro e w5 ⟨rfl, v5, hw5, hc5, ho5⟩
      have W5 := Lib.hid hw5
      have B5 := Lib.hid (below_chg B4.out hc5 (fun i _ h => Nat.le_trans B3.out.size (W4.out.own_lt i h)) B4.out.size)
      have W5' : Hid (Wr w5 w3.heap.size g v5 bs) := by have := W5.out; rw [List.nil_append, HP.out] at this; exact this
      have HL5 := Lib.hid (HL.out.chg (Chg.new B5.out (fun _ => False)) (fun _ _ h => h))
      clear hw5 hc5 ho5
      go_wp2_with fail
      have ht0 := run_text (P := Try.prog) w5.drew 35 9 5 (fun _ => True) A c bs Try.underlying35 Try.underlying5 Try.underlying9 HL5.out
      have HL5d : Hid (Lies w5.drew (fun _ => True) A (bs.map bv)) := HL5.out
      have HW := Lib.hid (wout_any w5.drew w3.heap.size g v5 bs W5'.out hroom.out)
      have hd1 : decide (1 ≤ (bs.length : Int)) = true := by simp; omega
      have hd10 : decide ((bs.length : Int) ≤ 10) = true := by simp; omega
      clear hf0 HP HT B1 HL1 R2 B2 HRS R3 B3 W4 B4 W5 W5' HL5 hroom
      refine wp_region_any (by kernel_rfl) ?_
      change wpAny _ _ _ _ _ _ _ (World.drew _)
      refine wpAny_take (i := 0) (v := ?_) rfl (by kernel_rfl) (by kernel_rfl) (by kernel_rfl) (fun _ _ _ h => h) (Or.inl ⟨by rfl, ?_⟩) ?_
      rotate_left
      · (intro w; go_simp; with_reducible rfl)
      refine wpAny_take (i := 3) (v := ?_) rfl (by kernel_rfl) (by kernel_rfl) (by kernel_rfl) (fun _ _ _ h => h) (Or.inl ⟨by rfl, ?_⟩) ?_
      rotate_left
      · (intro w; go_simp; with_reducible rfl)
      refine wpAny_ready (rs := [1, 4]) (by kernel_rfl) (by simp) ?_
      refine AllReady.cons rfl (fun K hK => ?_) ?_
      · go_simp
        refine HW.out.mono ?_
        rintro e w6 ⟨A6, c6, rfl, ho6, hb6⟩
        have ht6 := run_text (P := Try.prog) w6 35 9 5 (fun _ => True) A6 c6 bs Try.underlying35 Try.underlying5 Try.underlying9 (Lies.of_own ho6 rfl (fun _ _ => trivial))
        have hA6 := run_text (P := Try.prog) w6 35 9 5 (fun _ => True) A c bs Try.underlying35 Try.underlying5 Try.underlying9 (HL5d.out.chg (Chg.new hb6 (fun _ => False)) (fun _ _ h => h))
        have HB6 := Lib.hid hb6
        clear hb6 ho6
        refine hK _ _ ?_
        clear hK K
        refine wpAny_ready (rs := [2, 4]) (by kernel_rfl) (by simp) ?_
        refine AllReady.cons rfl (fun K hK => ?_) ?_
        · go_simp
          refine hK _ _ ?_
          clear hK K
          refine wpAny_ready (rs := [4]) (by kernel_rfl) (by simp) ?_
          refine AllReady.cons rfl (fun K hK => ?_) AllReady.nil
          go_simp
          refine hK _ _ ?_
          clear hK K
          refine wpAny_ready (rs := [5]) (by kernel_rfl) (by simp) ?_
          refine AllReady.cons rfl (fun K hK => ?_) AllReady.nil
          go_simp
          refine hK _ _ ?_
          clear hK K
          refine wpAny_ready (rs := [6]) (by kernel_rfl) (by simp) ?_
          refine AllReady.cons rfl (fun K hK => ?_) AllReady.nil
          go_simp
          refine hK _ _ ?_
          clear hK K
          refine wpAny_ready (rs := [7]) (by kernel_rfl) (by simp) ?_
          refine AllReady.cons rfl (fun K hK => ?_) AllReady.nil
          go_simp
          refine hK _ _ ?_
          clear hK K
          refine wpAny_ready (rs := [8]) (by kernel_rfl) (by simp) ?_
          refine AllReady.cons rfl (fun K hK => ?_) AllReady.nil
          go_simp
          refine hK _ _ ?_
          clear hK K
          refine wpAny_ready (rs := [9]) (by kernel_rfl) (by simp) ?_
          refine AllReady.cons rfl (fun K hK => ?_) AllReady.nil
          go_simp
          refine hK _ _ ?_
          clear hK K
          refine wpAny_ready (rs := [10]) (by kernel_rfl) (by simp) ?_
          refine AllReady.cons rfl (fun K hK => ?_) AllReady.nil
          go_simp
          refine hK _ _ ?_
          clear hK K
          refine wpAny_ready (rs := [11]) (by kernel_rfl) (by simp) ?_
          refine AllReady.cons rfl (fun K hK => ?_) AllReady.nil
          go_simp
          refine hK _ _ ?_
          clear hK K
          refine wpAny_ready (rs := [12]) (by kernel_rfl) (by simp) ?_
          refine AllReady.cons rfl (fun K hK => ?_) AllReady.nil
          go_simp
          refine hK _ _ ?_
          clear hK K
          refine wpAny_ready (rs := [13]) (by kernel_rfl) (by simp) ?_
          refine AllReady.cons rfl (fun K hK => ?_) AllReady.nil
          go_simp
          refine hK _ _ ?_
          clear hK K
          refine wpAny_ready (rs := [14]) (by kernel_rfl) (by simp) ?_
          refine AllReady.cons rfl (fun K hK => ?_) AllReady.nil
          go_simp
          refine hK _ _ ?_
          clear hK K
          refine wpAny_ready (rs := [15]) (by kernel_rfl) (by simp) ?_
          refine AllReady.cons rfl (fun K hK => ?_) AllReady.nil
          go_simp
          refine hK _ _ ?_
          clear hK K
          refine wpAny_ready (rs := [16]) (by kernel_rfl) (by simp) ?_
          refine AllReady.cons rfl (fun K hK => ?_) AllReady.nil
          go_simp
          refine hK _ _ ?_
          clear hK K
          refine wpAny_done (by kernel_rfl) ?_ _
          go_wp2
          go_ret
          exact ⟨rfl, B5.out.drew.trans (HB6.out.mono B5.out.size)⟩
        refine AllReady.cons rfl (fun K hK => ?_) AllReady.nil
        go_simp
        refine hK _ _ ?_
        clear hK K
        refine wpAny_ready (rs := [2]) (by kernel_rfl) (by simp) ?_
        refine AllReady.cons rfl (fun K hK => ?_) AllReady.nil
        go_simp
        refine hK _ _ ?_
        clear hK K
        refine wpAny_ready (rs := [5]) (by kernel_rfl) (by simp) ?_
        refine AllReady.cons rfl (fun K hK => ?_) AllReady.nil
        go_simp
        refine hK _ _ ?_
        clear hK K
        refine wpAny_ready (rs := [6]) (by kernel_rfl) (by simp) ?_
        refine AllReady.cons rfl (fun K hK => ?_) AllReady.nil
        go_simp
        refine hK _ _ ?_
        clear hK K
        refine wpAny_ready (rs := [7]) (by kernel_rfl) (by simp) ?_
        refine AllReady.cons rfl (fun K hK => ?_) AllReady.nil
        go_simp
        refine hK _ _ ?_
        clear hK K
        refine wpAny_ready (rs := [8]) (by kernel_rfl) (by simp) ?_
        refine AllReady.cons rfl (fun K hK => ?_) AllReady.nil
        go_simp
        refine hK _ _ ?_
        clear hK K
        refine wpAny_ready (rs := [9]) (by kernel_rfl) (by simp) ?_
        refine AllReady.cons rfl (fun K hK => ?_) AllReady.nil
        go_simp
        refine hK _ _ ?_
        clear hK K
        refine wpAny_ready (rs := [10]) (by kernel_rfl) (by simp) ?_
        refine AllReady.cons rfl (fun K hK => ?_) AllReady.nil
        go_simp
        refine hK _ _ ?_
        clear hK K
        refine wpAny_ready (rs := [11]) (by kernel_rfl) (by simp) ?_
        refine AllReady.cons rfl (fun K hK => ?_) AllReady.nil
        go_simp
        refine hK _ _ ?_
        clear hK K
        refine wpAny_ready (rs := [12]) (by kernel_rfl) (by simp) ?_
        refine AllReady.cons rfl (fun K hK => ?_) AllReady.nil
        go_simp
        refine hK _ _ ?_
        clear hK K
        refine wpAny_ready (rs := [13]) (by kernel_rfl) (by simp) ?_
        refine AllReady.cons rfl (fun K hK => ?_) AllReady.nil
        go_simp
        refine hK _ _ ?_
        clear hK K
        refine wpAny_ready (rs := [14]) (by kernel_rfl) (by simp) ?_
        refine AllReady.cons rfl (fun K hK => ?_) AllReady.nil
        go_simp
        refine hK _ _ ?_
        clear hK K
        refine wpAny_ready (rs := [15]) (by kernel_rfl) (by simp) ?_
        refine AllReady.cons rfl (fun K hK => ?_) AllReady.nil
        go_simp
        refine hK _ _ ?_
        clear hK K
        refine wpAny_ready (rs := [16]) (by kernel_rfl) (by simp) ?_
        refine AllReady.cons rfl (fun K hK => ?_) AllReady.nil
        go_simp
        refine hK _ _ ?_
        clear hK K
        refine wpAny_done (by kernel_rfl) ?_ _
        go_wp2
        go_ret
        exact ⟨rfl, B5.out.drew.trans (HB6.out.mono B5.out.size)⟩
      refine AllReady.cons rfl (fun K hK => ?_) AllReady.nil
      go_simp
      refine hK _ _ ?_
      clear hK K
      refine wpAny_ready (rs := [1]) (by kernel_rfl) (by simp) ?_
      refine AllReady.cons rfl (fun K hK => ?_) AllReady.nil
      go_simp
      refine HW.out.mono ?_
      rintro e w6 ⟨A6, c6, rfl, ho6, hb6⟩
      have ht6 := run_text (P := Try.prog) w6 35 9 5 (fun _ => True) A6 c6 bs Try.underlying35 Try.underlying5 Try.underlying9 (Lies.of_own ho6 rfl (fun _ _ => trivial))
      have hA6 := run_text (P := Try.prog) w6 35 9 5 (fun _ => True) A c bs Try.underlying35 Try.underlying5 Try.underlying9 (HL5d.out.chg (Chg.new hb6 (fun _ => False)) (fun _ _ h => h))
      have HB6 := Lib.hid hb6
      clear hb6 ho6
      refine hK _ _ ?_
      clear hK K
      refine wpAny_ready (rs := [2]) (by kernel_rfl) (by simp) ?_
      refine AllReady.cons rfl (fun K hK => ?_) AllReady.nil
      go_simp
      refine hK _ _ ?_
      clear hK K
      refine wpAny_ready (rs := [5]) (by kernel_rfl) (by simp) ?_
      refine AllReady.cons rfl (fun K hK => ?_) AllReady.nil
      go_simp
      refine hK _ _ ?_
      clear hK K
      refine wpAny_ready (rs := [6]) (by kernel_rfl) (by simp) ?_
      refine AllReady.cons rfl (fun K hK => ?_) AllReady.nil
      go_simp
      refine hK _ _ ?_
      clear hK K
      refine wpAny_ready (rs := [7]) (by kernel_rfl) (by simp) ?_
      refine AllReady.cons rfl (fun K hK => ?_) AllReady.nil
      go_simp
      refine hK _ _ ?_
      clear hK K
      refine wpAny_ready (rs := [8]) (by kernel_rfl) (by simp) ?_
      refine AllReady.cons rfl (fun K hK => ?_) AllReady.nil
      go_simp
      refine hK _ _ ?_
      clear hK K
      refine wpAny_ready (rs := [9]) (by kernel_rfl) (by simp) ?_
      refine AllReady.cons rfl (fun K hK => ?_) AllReady.nil
      go_simp
      refine hK _ _ ?_
      clear hK K
      refine wpAny_ready (rs := [10]) (by kernel_rfl) (by simp) ?_
      refine AllReady.cons rfl (fun K hK => ?_) AllReady.nil
      go_simp
      refine hK _ _ ?_
      clear hK K
      refine wpAny_ready (rs := [11]) (by kernel_rfl) (by simp) ?_
      refine AllReady.cons rfl (fun K hK => ?_) AllReady.nil
      go_simp
      refine hK _ _ ?_
      clear hK K
      refine wpAny_ready (rs := [12]) (by kernel_rfl) (by simp) ?_
      refine AllReady.cons rfl (fun K hK => ?_) AllReady.nil
      go_simp
      refine hK _ _ ?_
      clear hK K
      refine wpAny_ready (rs := [13]) (by kernel_rfl) (by simp) ?_
      refine AllReady.cons rfl (fun K hK => ?_) AllReady.nil
      go_simp
      refine hK _ _ ?_
      clear hK K
      refine wpAny_ready (rs := [14]) (by kernel_rfl) (by simp) ?_
      refine AllReady.cons rfl (fun K hK => ?_) AllReady.nil
      go_simp
      refine hK _ _ ?_
      clear hK K
      refine wpAny_ready (rs := [15]) (by kernel_rfl) (by simp) ?_
      refine AllReady.cons rfl (fun K hK => ?_) AllReady.nil
      go_simp
      refine hK _ _ ?_
      clear hK K
      refine wpAny_ready (rs := [16]) (by kernel_rfl) (by simp) ?_
      refine AllReady.cons rfl (fun K hK => ?_) AllReady.nil
      go_simp
      refine hK _ _ ?_
      clear hK K
      refine wpAny_done (by kernel_rfl) ?_ _
      go_wp2
      go_ret
      exact ⟨rfl, B5.out.drew.trans (HB6.out.mono B5.out.size)⟩
    · have hf0 : ((RS.mk bs 0).uint.1.fin != 0) = true := by simpa using hfin
      clear hfin
      go_enter Try.func6, Try.ntmps6
      go_wp2_with fail
      refine (awake1_any w).mono ?_
      rintro e w1 ⟨rfl, hb⟩
      have B1 := Lib.hid hb
      have HL1 := Lib.hid (HL.out.chg (Chg.new hb (fun _ => False)) (fun _ _ h => h))
      clear hb
      go_wp2_with fail
      refine (new_any w1 _ A c bs HL1.out hroom.out).mono ?_
      rintro e w2 ⟨r, rfl, hr, hrd, hb⟩
      have R2 := Lib.hid hrd
      have B2 := Lib.hid (B1.out.trans (hb.mono B1.out.size))
      have HRS : Hid (w.heap.size ≤ r) := Nat.le_trans B1.out.size hr
      clear hrd hb hr
      go_wp2_with fail
      refine (uint_any w2 _ r _ R2.out).mono ?_
      rintro e w3 ⟨rfl, hr3, hc3⟩
      have R3 := Lib.hid hr3
      have B3 := Lib.hid (below_chg B2.out hc3 (fun i _ h => by rw [h]; exact HRS.out) B2.out.size)
      clear hr3 hc3
      go_wp2_with fail
      refine (end_any w3 _ r _ R3.out).mono ?_
      rintro e w' ⟨rfl, rfl⟩
      go_wp2
      go_ret
      exact ⟨rfl, B3.out⟩
  · go_enter Try.func6, Try.ntmps6
    go_wp2_with fail
    refine (awake1_any w).mono ?_
    rintro e w1 ⟨rfl, hb⟩
    have B1 := Lib.hid hb
    clear hb
    go_wp2
    go_ret
    exact ⟨rfl, B1.out⟩

end Go.Proofs.Ytniedfilhilhhaa
