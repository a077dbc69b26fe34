/- BlocksTorn, walked. -/
import Derived.Test.YtniedfilhilhhaaTornPlain
import Derived.Deep.CutBlock
import Derived.Deep.RegionWith
import Derived.Deep.RegionHeld3
namespace Go.Proofs.Ytniedfilhilhhaa
open Go.RowKit

theorem own_cap {w : World} {B : Nat} {e : TypeId} {size n c : Nat} {A : Option Addr} {xs : List Value} (h : w.ownsRow B e size (.slice A n c) n xs) (hn : 0 < n) : n ≤ c := by
  rcases h.2 with ⟨_, h0⟩ | ⟨m, cap, cur, hv, _, _, hc, _⟩
  · omega
  · injection hv with _ _ hcc
    omega

theorem run_head (W : World) (Q : Nat → Prop) (m c t : Nat) (l : List UInt8) (h : Lies W Q (some ⟨m, 0, none⟩) (l.map bv)) (ht : t ≤ 128) (hl : l.length = 128) :
    (convert 35 9 (.slice (some ⟨m, 0, none⟩) t c)).run Try.prog W = .ok (.string ⟨(l.take t).toArray⟩) W := by
  have h1 := h.take t
  rw [← List.map_take] at h1
  have h2 := run_text (P := Try.prog) W 35 9 5 Q (some ⟨m, 0, none⟩) c (l.take t) Try.underlying35 Try.underlying5 Try.underlying9 h1
  rw [List.length_take, hl, Nat.min_eq_left ht] at h2
  exact h2
theorem run_tail (W : World) (Q : Nat → Prop) (m c t : Nat) (l : List UInt8) (h : Lies W Q (some ⟨m, 0, none⟩) (l.map bv)) (_ht : t ≤ 128) (hc : 128 ≤ c) (hl : l.length = 128) :
    (convert 35 9 (.slice (if c = t then some ⟨m, 0, none⟩ else some ⟨m, t, none⟩) (128 - t) (c - t))).run Try.prog W = .ok (.string ⟨(l.drop t).toArray⟩) W := by
  have h1 := h.cut (k := t) (cap := c) (by simpa [hl] using hc)
  rw [← List.map_drop] at h1
  have h2 := run_text (P := Try.prog) W 35 9 5 Q _ (c - t) (l.drop t) Try.underlying35 Try.underlying5 Try.underlying9 h1
  rw [List.length_drop, hl] at h2
  simpa [add_none] using h2
theorem torn_len (a t : Nat) (h : t ≤ 128) : (torn a t).length = 128 := by simp [torn, fill_len]; omega

set_option maxRecDepth 100000 in
set_option maxHeartbeats 9600000 in
theorem torn_walk (w : World) (n i after : Nat) (tn : Int) (hn : n < 256) (hi : i < 256) (ha : after < 256) :
    Calls Try.prog 4 #[.int .u8 (n : Int), .int .u8 (i : Int), .int .u8 (after : Int), .int .i64 tn] w fun e w' => e = .returned (.bool true) ∧ Below w.heap.size w w' := by
  obtain ⟨k, hk, hk2, hk3⟩ : ∃ k : Nat, (n : Int) % 20 + 2 = (k : Int) ∧ 2 ≤ k ∧ k ≤ 21 := ⟨n % 20 + 2, by omega, by omega, by omega⟩
  obtain ⟨s, hs, hs2⟩ : ∃ s : Nat, (after : Int) % 20 = (s : Int) ∧ s < 20 := ⟨after % 20, by omega, by omega⟩
  have HK := Lib.hid hk
  have HS := Lib.hid hs
  have HS2 := Lib.hid hs2
  clear hk hs hs2
  go_enter Try.func4, Try.ntmps4
  go_wp2_with fail
  refine (awake8_any w).mono ?_
  rintro e w1 ⟨rfl, hb⟩
  have B1 := Lib.hid hb
  clear hb
  go_wp2_with fail
  rw [HK.out]
  refine (dnew_any w1 k (by omega) (by omega)).mono ?_
  rintro e w2 ⟨g, r, rfl, hg, hr, hkd, hb⟩
  have K2 : Hid (Dk w2 g r (dl k 0)) := by have := hkd; unfold Hid dl; rw [laid_zero]; exact this
  have HG : Hid (w.heap.size ≤ g) := Nat.le_trans B1.out.size hg
  have HR : Hid (w.heap.size ≤ r) := Nat.le_trans B1.out.size hr
  have B2 := Lib.hid (B1.out.trans (hb.mono B1.out.size))
  clear hkd hb hg hr B1
  go_wp2_with fail
  go_loopg [13] k (fun q v13 wr => ∃ j : Nat, j ≤ k ∧ q = k - j ∧ v13 = .int .i64 (j : Int) ∧ Hid (Dk wr g r (dl k j)) ∧ Hid (Below w.heap.size w wr))
  case atStart => exact ⟨0, Nat.zero_le _, rfl, rfl, K2, B2⟩
  case round =>
    obtain ⟨j, hj, rfl, rfl, hK, hB⟩ := hrel
    clear K2 B2
    by_cases hlt : j < k
    · have hwj : IntKind.u8.wrap (j : Int) = (j : Int) := by rw [IntKind.wrap_u8]; omega
      have HLT := Lib.hid hlt
      go_wp2_with fail
      refine (filled_any wr j 128 (by omega) (by decide)).mono ?_
      rintro e w5 ⟨A5, c5, rfl, ho5, hb5⟩
      have L5 := Lies.of_own (Q := fun i => wr.heap.size ≤ i) ho5 rfl (fun i hi => (ho5.lt i hi).1)
      have K5 := hK.out.chg (Chg.new hb5 (fun _ => False)) (fun h => h) (fun h => h)
      have B5 := hB.out.trans (hb5.mono hB.out.size)
      have hd := dwrite_any w5 _ g r (dl k j) j A5 c5 (fill j 128) K5 L5 (fun i hi => by have := hK.out.lt; exact ⟨by omega, by omega⟩)
      rw [dl_write k j HLT.out, fill_len] at hd
      have HD := Lib.hid hd
      have HB5 := Lib.hid B5
      clear hd L5 K5 B5 ho5 hb5 hwj
      rw [fill_len]
      go_wp2_with fail
      refine HD.out.mono ?_
      clear HD
      rintro e w6 ⟨rfl, hk6, hc6⟩
      have K6 : Hid (Dk w6 g r (dl k (j + 1))) := hk6
      have B6 := Lib.hid (below_chg HB5.out hc6 (fun i _ h => by have := HG.out; have := HR.out; omega) HB5.out.size)
      clear hk6 hc6
      go_wp2
      go_roundg (k - (j + 1))
      case measure => have := HLT.out; omega
      case rel => exact ⟨j + 1, HLT.out, rfl, by simp, K6, B6⟩
    · have hjk : k = j := by omega
      subst hjk
      clear hlt hj
      go_wp2_with fail
      rw [HS.out]
      have hst := stop_any wr g r (dl k k) (s : Int) tn hK.out (by have := HS2.out; omega)
      obtain ⟨a, hat, ha2⟩ : ∃ a : Nat, (i : Int) % (k : Int) = (a : Int) ∧ a < k := ⟨i % k, by simp, Nat.mod_lt _ (by omega)⟩
      obtain ⟨b, hbt, hb2, hab⟩ : ∃ b : Nat, ((a : Int) + 1) % (k : Int) = (b : Int) ∧ b < k ∧ a ≠ b := by
        refine ⟨(a + 1) % k, by simp, Nat.mod_lt _ (by omega), ?_⟩
        rcases Nat.lt_or_ge (a + 1) k with h | h
        · rw [Nat.mod_eq_of_lt h]; omega
        · have : a + 1 = k := by omega
          rw [this, Nat.mod_self]
          omega
      have HAT := Lib.hid hat
      have HA2 := Lib.hid ha2
      have HBT := Lib.hid hbt
      have HB2 := Lib.hid hb2
      have HAB := Lib.hid hab
      have hbt3 : (IntKind.i64.wrap ((a : Int) + 1)).tmod (k : Int) = (b : Int) := by
        rw [show IntKind.i64.wrap ((a : Int) + 1) = (a : Int) + 1 by rw [IntKind.wrap_i64]; omega, Int.tmod_eq_emod_of_nonneg (by omega)]
        exact hbt
      have HBT3 := Lib.hid hbt3
      clear hbt3
      rw [stopped k b s tn] at hst
      refine hst.mono ?_
      obtain ⟨t, ht⟩ : ∃ t, (min (max tn 0) 128).toNat = t := ⟨_, rfl⟩
      have HT := Lib.hid ht
      rw [ht]
      clear hst hat ha2 hbt hb2 hab ht
      rintro e w3 ⟨rfl, hk3, hc3⟩
      have K3 : Hid (Dk w3 g r (dw k b s t 0)) := hk3
      have B3 := Lib.hid (below_chg hB.out hc3 (fun i _ h => by have := HG.out; omega) hB.out.size)
      clear hk3 hc3 hK hB
      go_upto_region 16 with fail
      rw [HAT.out]
      go_loopg [16] s (fun q v16 wr => ∃ j : Nat, j ≤ s ∧ q = s - j ∧ v16 = .int .i64 (j : Int) ∧ Hid (Dk wr g r (dw k b s t j)) ∧ Hid (Below w.heap.size w wr))
      case atStart => exact ⟨0, Nat.zero_le _, rfl, rfl, K3, B3⟩
      case round =>
        obtain ⟨j, hj, rfl, rfl, hK, hB⟩ := hrel
        clear K3 B3
        by_cases hlt : j < s
        · have HLT := Lib.hid hlt
          have HKD : Hid (Dk wr.drew g r (dw k b s t j)) := hK
          have HBD : Hid (Below w.heap.size w wr.drew) := hB.out.drew
          go_upto_region 18 with fail
          refine wp_region_any (by kernel_rfl) ?_
          change wpAny _ _ _ _ _ _ _ (World.drew _)
          refine wpAny_take (i := 0) (v := ?_) rfl (by kernel_rfl) (by kernel_rfl) (by kernel_rfl) (fun _ _ _ h => h) (Or.inl ⟨by rfl, ?_⟩) ?_
          rotate_left
          · (intro w; go_simp; with_reducible rfl)
          refine wpAny_take (i := 1) (v := ?_) rfl (by kernel_rfl) (by kernel_rfl) (by kernel_rfl) (fun _ _ _ h => h) (Or.inl ⟨by rfl, ?_⟩) ?_
          rotate_left
          · (intro w; go_simp; with_reducible rfl)
          refine wpAny_take (i := 2) (v := ?_) rfl (by kernel_rfl) (by kernel_rfl) (by kernel_rfl) (fun _ _ _ h => h) (Or.inl ⟨by rfl, ?_⟩) ?_
          rotate_left
          · (intro w; go_simp; with_reducible rfl)
          refine wpAny_take (i := 3) (v := ?_) rfl (by kernel_rfl) (by kernel_rfl) (by kernel_rfl) (fun _ _ _ h => h) (Or.inl ⟨by rfl, ?_⟩) ?_
          rotate_left
          · (intro w; go_simp; with_reducible rfl)
          refine wpAny_take (i := 4) (v := .int .i64 (b : Int)) rfl (by kernel_rfl) (by kernel_rfl) (by kernel_rfl) (fun _ _ _ h => h) (Or.inl ⟨by rfl, ?_⟩) ?_
          · (intro w; go_simp; rw [if_neg (by omega), HBT3.out])
          refine wpAny_ready (rs := [5]) (by kernel_rfl) (by simp) ?_
          refine AllReady.cons rfl (fun K hK => ?_) AllReady.nil
          go_simp
          refine (filled_any wr.drew 99 128 (by decide) (by decide)).mono ?_
          rintro e w5 ⟨A5, c5, rfl, ho5, hb5⟩
          have L5 := Lies.of_own (Q := fun i => wr.heap.size ≤ i) ho5 rfl (fun i hi => (ho5.lt i hi).1)
          have K5 := HKD.out.chg (Chg.new hb5 (fun _ => False)) (fun h => h) (fun h => h)
          have B5 := HBD.out.trans (hb5.mono HBD.out.size)
          have hd := dwrite_any w5 _ g r (dw k b s t j) b A5 c5 (fill 99 128) K5 L5 (fun i hi => by have := HKD.out.lt; have e : wr.drew.heap.size = wr.heap.size := rfl; exact ⟨by omega, by omega⟩)
          rw [dw_write k b s t j HLT.out HB2.out, fill_len] at hd
          have HD := Lib.hid hd
          have HB5 := Lib.hid B5
          clear hd L5 K5 B5 ho5 hb5
          rw [fill_len]
          refine hK _ _ ?_
          clear hK K
          refine wpAny_ready (rs := [6]) (by kernel_rfl) (by simp) ?_
          refine AllReady.cons rfl (fun K hK => ?_) AllReady.nil
          go_simp
          refine HD.out.mono ?_
          clear HD
          rintro e w6 ⟨rfl, hk6, hc6⟩
          have K6 : Hid (Dk w6 g r (dw k b s t (j + 1))) := hk6
          have B6 := Lib.hid (below_chg HB5.out hc6 (fun i _ h => by have := HG.out; have := HR.out; omega) HB5.out.size)
          clear hk6 hc6
          refine hK _ _ ?_
          clear hK K
          refine wpAny_ready (rs := [7]) (by kernel_rfl) (by simp) ?_
          refine AllReady.cons rfl (fun K hK => ?_) AllReady.nil
          go_simp
          refine hK _ _ ?_
          clear hK K
          refine wpAny_done (by kernel_rfl) ?_ _
          have hj20 : j < 20 := by have := HS2.out; have := HLT.out; omega
          go_wp2_with fail
          go_roundg (s - (j + 1))
          case measure => have := HLT.out; omega
          case rel => exact ⟨j + 1, HLT.out, rfl, by simp, K6, B6⟩
        · have hjs : s = j := by omega
          subst hjs
          clear hlt hj
          go_wp2_with fail
          refine (filled_any wr 200 128 (by decide) (by decide)).mono ?_
          rintro e w5 ⟨A5, c5, rfl, ho5, hb5⟩
          have L5 := Lies.of_own (Q := fun i => wr.heap.size ≤ i) ho5 rfl (fun i hi => (ho5.lt i hi).1)
          have K5 := hK.out.chg (Chg.new hb5 (fun _ => False)) (fun h => h) (fun h => h)
          have B5 := hB.out.trans (hb5.mono hB.out.size)
          have hd := dwrite_any w5 _ g r (dw k b s t s) a A5 c5 (fill 200 128) K5 L5 (fun i hi => by have := hK.out.lt; exact ⟨by omega, by omega⟩)
          rw [dend_write k b s t a HA2.out HAB.out, fill_len] at hd
          have HD := Lib.hid hd
          have HB5 := Lib.hid B5
          clear hd L5 K5 B5 ho5 hb5
          rw [fill_len]
          go_wp2_with fail
          refine HD.out.mono ?_
          clear HD
          rintro e w6 ⟨rfl, hk6, hc6⟩
          have K6 : Hid (Dk w6 g r (dend k b s t a true 0)) := hk6
          have B6 := Lib.hid (below_chg HB5.out hc6 (fun i _ h => by have := HG.out; have := HR.out; omega) HB5.out.size)
          clear hk6 hc6 hK hB HB5
          go_wp2_with fail
          refine (restart_any w6 g r _ K6.out).mono ?_
          rw [dend_restart]
          rintro e w7 ⟨rfl, hk7, hc7⟩
          have K7 : Hid (Dk w7 g r (dend k b s t a false (-1))) := hk7
          have B7 := Lib.hid (below_chg B6.out hc7 (fun i _ h => by have := HG.out; omega) B6.out.size)
          clear hk7 hc7 K6 B6
          go_upto_if 85 with fail
          go_cut [18] from 28 (fun v18 wc => v18 = .int .i64 (max tn 0) ∧ w7 = wc)
          case first =>
            by_cases h0 : tn < 0
            · go_wp2_with fail
              go_meet
              exact ⟨by rw [Int.max_eq_right (by omega)], rfl⟩
            · go_wp2_with fail
              go_meet
              exact ⟨by rw [Int.max_eq_left (by omega)], rfl⟩
          case rest =>
            obtain ⟨rfl, rfl⟩ := hcut
            have ht0 : 0 ≤ max tn 0 := by omega
            have ht1 : min (max tn 0) 128 = (t : Int) := by have := HT.out; omega
            have HT1 := Lib.hid ht1
            have HT2 : Hid (t ≤ 128) := by unfold Hid; omega
            clear ht1 HT
            generalize max tn 0 = tx at ht0 HT1
            go_upto_if 87 with fail
            go_cut [18] from 28 (fun v18 wc => v18 = .int .i64 (t : Int) ∧ w7 = wc)
            case first =>
              by_cases h0 : 128 < tx
              · go_wp2_with fail
                go_meet
                exact ⟨by rw [← HT1.out, Int.min_eq_right (by omega)], rfl⟩
              · go_wp2_with fail
                go_meet
                exact ⟨by rw [← HT1.out, Int.min_eq_left (by omega)], rfl⟩
            case rest =>
              obtain ⟨rfl, rfl⟩ := hcut
              clear HT1 ht0
              go_wp2_with fail
              have hrd := dread_any w7 g r _ a K7.out
              rw [dend_read_at k b s t a _ HA2.out, dend_fine k b s t a a _ HA2.out] at hrd
              refine hrd.mono ?_
              clear hrd
              rintro e w8 ⟨A9, c9, rfl, ho9, hb9⟩
              have L8 := Lib.hid (Lies.of_own (Q := fun i => i < w8.heap.size) ho9 rfl (fun i hi => (ho9.lt i hi).2))
              have K8 := Lib.hid (K7.out.chg (Chg.new hb9 (fun _ => False)) (fun h => h) (fun h => h))
              have B8 := Lib.hid (B7.out.trans (hb9.mono B7.out.size))
              clear ho9 hb9 K7 B7
              go_upto_region 28 with fail
              have K8D : Hid (Dk w8.drew g r (dend k b s t a false (-1))) := K8
              have B8D : Hid (Below w.heap.size w w8.drew) := B8.out.drew
              have L8D : Hid (Lies w8.drew (fun i => i < w8.heap.size) A9 ((torn a t).map bv)) := L8
              have hak : a < 21 := by have := HA2.out; omega
              have hwa : IntKind.u8.wrap (a : Int) = (a : Int) := by rw [IntKind.wrap_u8]; omega
              have HT3 : Hid (t ≤ 128) := HT2
              have HROOM : Hid ((torn a t).length ≤ room) := room_small (by rw [torn_len a t HT2.out]; decide)
              go_cut [21] from 28 (fun v21 wc => v21 = sv (torn a t) ∧ Hid (Dk wc g r (dend k b s t a false (-1))) ∧ Hid (Lies wc (fun i => i < w8.heap.size) A9 ((torn a t).map bv)) ∧ Hid (Below w.heap.size w wc))
              case first =>
                refine wp_region_any (by kernel_rfl) ?_
                change wpAny _ _ _ _ _ _ _ (World.drew _)
                refine wpAny_take (i := 1) (v := ?_) rfl (by kernel_rfl) (by kernel_rfl) (by kernel_rfl) (fun _ _ _ h => h) (Or.inl ⟨by rfl, ?_⟩) ?_
                rotate_left
                · (intro w; go_simp; with_reducible rfl)
                refine wpAny_take (i := 4) (v := ?_) rfl (by kernel_rfl) (by kernel_rfl) (by kernel_rfl) (fun _ _ _ h => h) (Or.inl ⟨by rfl, ?_⟩) ?_
                rotate_left
                · (intro w; go_simp; with_reducible rfl)
                refine wpAny_take (i := 5) (v := .int .u8 (a : Int)) rfl (by kernel_rfl) (by kernel_rfl) (by kernel_rfl) (fun _ _ _ h => h) (Or.inl ⟨by rfl, ?_⟩) ?_
                · (intro w; go_simp)
                refine wpAny_take (i := 7) (v := ?_) rfl (by kernel_rfl) (by kernel_rfl) (by kernel_rfl) (fun _ _ _ h => h) (Or.inl ⟨by rfl, ?_⟩) ?_
                rotate_left
                · (intro w; go_simp; with_reducible rfl)
                refine wpAny_ready (rs := [0]) (by kernel_rfl) (by simp) ?_
                refine AllReady.cons rfl (fun K hK => ?_) AllReady.nil
                go_simp
                refine (filled_any w8.drew 200 128 (by decide) (by decide)).mono ?_
                rintro e w9 ⟨A5, c5, rfl, ho9, hb9⟩
                rw [fill_len] at ho9
                obtain ⟨m5, rfl, hm5⟩ := own_addr9 ho9 (by decide)
                have hc5 : 128 ≤ c5 := own_cap ho9 (by decide)
                have L9 := Lib.hid (Lies.of_own (Q := fun i => i < w9.heap.size) ho9 rfl (fun i hi => (ho9.lt i hi).2))
                have B9 := Lib.hid (B8D.out.trans (hb9.mono B8D.out.size))
                have K9 := Lib.hid (K8D.out.chg (Chg.new hb9 (fun _ => False)) (fun h => h) (fun h => h))
                have M9 := Lib.hid (L8D.out.chg (Chg.new hb9 (fun _ => False)) (fun _ _ h => h))
                have hh9 := run_head w9 _ m5 c5 t _ L9.out HT3.out (fill_len 200 128)
                have ht5 : t ≤ c5 := by have := HT3.out; omega
                clear ho9 hb9 hm5
                rw [fill_len]
                refine hK _ _ ?_
                clear hK K
                refine wpAny_take (i := 2) (v := .slice (some ⟨m5, 0, none⟩) t c5) rfl (by kernel_rfl) (by kernel_rfl) (by kernel_rfl) (fun _ _ _ h => h) (Or.inl ⟨by rfl, ?_⟩) ?_
                · (intro w; go_simp)
                refine wpAny_ready (rs := [3, 6]) (by kernel_rfl) (by simp) ?_
                refine AllReady.cons rfl (fun K hK => ?_) ?_
                · go_simp
                  refine hK _ _ ?_
                  clear hK K
                  refine wpAny_ready (rs := [6]) (by kernel_rfl) (by simp) ?_
                  refine AllReady.cons rfl (fun K hK => ?_) AllReady.nil
                  go_simp
                  refine (filled_any w9 a 128 (by omega) (by decide)).mono ?_
                  rintro e w10 ⟨A6, c6, rfl, ho10, hb10⟩
                  rw [fill_len] at ho10
                  obtain ⟨m6, rfl, hm6⟩ := own_addr9 ho10 (by decide)
                  have hc6 : 128 ≤ c6 := own_cap ho10 (by decide)
                  have L10 := Lib.hid (Lies.of_own (Q := fun i => i < w10.heap.size) ho10 rfl (fun i hi => (ho10.lt i hi).2))
                  have B10 := Lib.hid (B9.out.trans (hb10.mono B9.out.size))
                  have K10 := Lib.hid (K9.out.chg (Chg.new hb10 (fun _ => False)) (fun h => h) (fun h => h))
                  have M10 := Lib.hid (M9.out.chg (Chg.new hb10 (fun _ => False)) (fun _ _ h => h))
                  have hh10 := run_head w10 _ m5 c5 t _ (L9.out.chg (Chg.new hb10 (fun _ => False)) (fun _ _ h => h)) HT3.out (fill_len 200 128)
                  have htt10 := run_tail w10 _ m6 c6 t _ L10.out HT3.out hc6 (fill_len a 128)
                  have hadd := run_text_add (P := Try.prog) w10 ((fill 200 128).take t) ((fill a 128).drop t) (torn a t) rfl HROOM.out
                  have ht6 : t ≤ 128 := HT3.out
                  clear ho10 hb10 hm6
                  rw [fill_len]
                  refine hK _ _ ?_
                  clear hK K
                  refine wpAny_take (i := 8) (v := .slice (if c6 = t then some ⟨m6, 0, none⟩ else some ⟨m6, t, none⟩) (128 - t) (c6 - t)) rfl (by kernel_rfl) (by kernel_rfl) (by kernel_rfl) (fun _ _ _ h => h) (Or.inl ⟨by rfl, ?_⟩) ?_
                  · (intro w; go_simp; intro h; exfalso; omega)
                  refine wpAny_ready (rs := [9]) (by kernel_rfl) (by simp) ?_
                  refine AllReady.cons rfl (fun K hK => ?_) AllReady.nil
                  go_simp
                  refine hK _ _ ?_
                  clear hK K
                  refine wpAny_ready (rs := [10]) (by kernel_rfl) (by simp) ?_
                  refine AllReady.cons rfl (fun K hK => ?_) AllReady.nil
                  go_simp
                  refine hK _ _ ?_
                  clear hK K
                  refine wpAny_ready (rs := [11]) (by kernel_rfl) (by simp) ?_
                  refine AllReady.cons rfl (fun K hK => ?_) AllReady.nil
                  go_simp
                  refine hK _ _ ?_
                  clear hK K
                  refine wpAny_done (by kernel_rfl) ?_ _
                  go_wp2_with fail
                  all_goals
                    go_meet
                    exact ⟨rfl, K10, M10, B10⟩
                refine AllReady.cons rfl (fun K hK => ?_) AllReady.nil
                go_simp
                refine (filled_any w9 a 128 (by omega) (by decide)).mono ?_
                rintro e w10 ⟨A6, c6, rfl, ho10, hb10⟩
                rw [fill_len] at ho10
                obtain ⟨m6, rfl, hm6⟩ := own_addr9 ho10 (by decide)
                have hc6 : 128 ≤ c6 := own_cap ho10 (by decide)
                have L10 := Lib.hid (Lies.of_own (Q := fun i => i < w10.heap.size) ho10 rfl (fun i hi => (ho10.lt i hi).2))
                have B10 := Lib.hid (B9.out.trans (hb10.mono B9.out.size))
                have K10 := Lib.hid (K9.out.chg (Chg.new hb10 (fun _ => False)) (fun h => h) (fun h => h))
                have M10 := Lib.hid (M9.out.chg (Chg.new hb10 (fun _ => False)) (fun _ _ h => h))
                have hh10 := run_head w10 _ m5 c5 t _ (L9.out.chg (Chg.new hb10 (fun _ => False)) (fun _ _ h => h)) HT3.out (fill_len 200 128)
                have htt10 := run_tail w10 _ m6 c6 t _ L10.out HT3.out hc6 (fill_len a 128)
                have hadd := run_text_add (P := Try.prog) w10 ((fill 200 128).take t) ((fill a 128).drop t) (torn a t) rfl HROOM.out
                have ht6 : t ≤ 128 := HT3.out
                clear ho10 hb10 hm6
                rw [fill_len]
                refine hK _ _ ?_
                clear hK K
                refine wpAny_take (i := 8) (v := .slice (if c6 = t then some ⟨m6, 0, none⟩ else some ⟨m6, t, none⟩) (128 - t) (c6 - t)) rfl (by kernel_rfl) (by kernel_rfl) (by kernel_rfl) (fun _ _ _ h => h) (Or.inl ⟨by rfl, ?_⟩) ?_
                · (intro w; go_simp; intro h; exfalso; omega)
                refine wpAny_ready (rs := [3, 9]) (by kernel_rfl) (by simp) ?_
                refine AllReady.cons rfl (fun K hK => ?_) ?_
                · go_simp
                  refine hK _ _ ?_
                  clear hK K
                  refine wpAny_ready (rs := [9]) (by kernel_rfl) (by simp) ?_
                  refine AllReady.cons rfl (fun K hK => ?_) AllReady.nil
                  go_simp
                  refine hK _ _ ?_
                  clear hK K
                  refine wpAny_ready (rs := [10]) (by kernel_rfl) (by simp) ?_
                  refine AllReady.cons rfl (fun K hK => ?_) AllReady.nil
                  go_simp
                  refine hK _ _ ?_
                  clear hK K
                  refine wpAny_ready (rs := [11]) (by kernel_rfl) (by simp) ?_
                  refine AllReady.cons rfl (fun K hK => ?_) AllReady.nil
                  go_simp
                  refine hK _ _ ?_
                  clear hK K
                  refine wpAny_done (by kernel_rfl) ?_ _
                  go_wp2_with fail
                  all_goals
                    go_meet
                    exact ⟨rfl, K10, M10, B10⟩
                refine AllReady.cons rfl (fun K hK => ?_) AllReady.nil
                go_simp
                refine hK _ _ ?_
                clear hK K
                refine wpAny_ready (rs := [3]) (by kernel_rfl) (by simp) ?_
                refine AllReady.cons rfl (fun K hK => ?_) AllReady.nil
                go_simp
                refine hK _ _ ?_
                clear hK K
                refine wpAny_ready (rs := [10]) (by kernel_rfl) (by simp) ?_
                refine AllReady.cons rfl (fun K hK => ?_) AllReady.nil
                go_simp
                refine hK _ _ ?_
                clear hK K
                refine wpAny_ready (rs := [11]) (by kernel_rfl) (by simp) ?_
                refine AllReady.cons rfl (fun K hK => ?_) AllReady.nil
                go_simp
                refine hK _ _ ?_
                clear hK K
                refine wpAny_done (by kernel_rfl) ?_ _
                go_wp2_with fail
                all_goals
                  go_meet
                  exact ⟨rfl, K10, M10, B10⟩
              case rest =>
                obtain ⟨rfl, K9, M9, B9⟩ := hcut
                clear K8D B8D L8D K8 B8 L8 hwa
                go_wp2_with fail
                go_loopg [22] k (fun q v22 wr => ∃ j : Nat, j ≤ k ∧ q = k - j ∧ v22 = .int .i64 (j : Int) ∧ Hid (Dk wr g r (dend k b s t a false (-1))) ∧ Hid (Lies wr (fun i => i < w8.heap.size) A9 ((torn a t).map bv)) ∧ Hid (Below w.heap.size w wr))
                case atStart => exact ⟨0, Nat.zero_le _, rfl, rfl, K9, M9, B9⟩
                case round =>
                  obtain ⟨j, hj, rfl, rfl, hK, hM, hB⟩ := hrel
                  clear K9 M9 B9
                  by_cases hlt : j < k
                  · have HLT := Lib.hid hlt
                    have hj21 : j < 21 := by omega
                    have hwj : IntKind.u8.wrap (j : Int) = (j : Int) := by rw [IntKind.wrap_u8]; omega
                    go_wp2_with fail
                    refine (dread_any wr g r _ j hK.out).mono ?_
                    rw [dend_fine k b s t a j _ HLT.out]
                    generalize hv : (dend k b s t a false (-1)).read (j : Int) = v
                    have HV := Lib.hid hv
                    clear hv
                    rintro e w12 ⟨A12, c12, rfl, ho12, hb12⟩
                    have O12 := Lib.hid ho12
                    have K12 := Lib.hid (hK.out.chg (Chg.new hb12 (fun _ => False)) (fun h => h) (fun h => h))
                    have M12 := Lib.hid (hM.out.chg (Chg.new hb12 (fun _ => False)) (fun _ _ h => h))
                    have B12 := Lib.hid (hB.out.trans (hb12.mono hB.out.size))
                    clear ho12 hb12 hK hM hB
                    go_upto_region 33 with fail
                    have hk0 : ¬ k = 0 := by omega
                    go_cut [139] from 105 to 139 (fun v139 wc => v139 = .bool false ∧ Hid (Dk wc g r (dend k b s t a false (-1))) ∧ Hid (Lies wc (fun i => i < w8.heap.size) A9 ((torn a t).map bv)) ∧ Hid (Below w.heap.size w wc))
                    case first =>
                      by_cases hja : j = a
                      · have hg1 : ((j : Int) != (a : Int)) = false := by rw [hja]; simp
                        clear hja
                        go_quiet (fail)
                        go_wp2_with fail
                        go_meet
                        exact ⟨rfl, K12, M12, ⟨B12.out.os, B12.out.tape, B12.out.output, B12.out.size, B12.out.block⟩⟩
                      · have hg1 : ((j : Int) != (a : Int)) = true := by rw [bne_iff_ne]; omega
                        by_cases hjb : j = b
                        · have hg2 : ((j : Int) != (b : Int)) = false := by rw [hjb]; simp
                          by_cases hs0 : s = 0
                          · have hg3 : ((s : Int) == 0) = true := by rw [hs0]; rfl
                            have hv : (dend k b s t a false (-1)).read (j : Int) = fill j 128 := dend_read k b s t a j _ HLT.out hja (.inr hs0)
                            have HVF : Hid (v = fill j 128) := HV.out.symm.trans hv
                            have L12 := Lib.hid (Lies.of_own (Q := fun i => i < w12.heap.size) O12.out rfl (fun i hi => (O12.out.lt i hi).2))
                            clear hv O12 hja hjb hs0
                            refine wp_region_held_drew (S := fun w' => Hid (Lies w' (fun i => i < w12.heap.size) A12 (v.map bv)) ∧ Hid (Dk w' g r (dend k b s t a false (-1))) ∧ Hid (Lies w' (fun i => i < w8.heap.size) A9 ((torn a t).map bv)) ∧ Hid (Below w.heap.size w w')) (by kernel_rfl) ⟨L12, K12, M12, B12.out.drew⟩ (fun hHeld => ?_)
                            refine wpAnyH_take (i := 0) (v := ?_) rfl (by kernel_rfl) (by kernel_rfl) (by kernel_rfl) (fun _ _ _ h => h) (Or.inl ⟨by kernel_rfl, ?_⟩) (by assumption) ?_
                            rotate_left
                            · (intro w hSw; go_simp; with_reducible rfl)
                            simp only [Act.put]
                            refine wpAnyH_take (i := 1) (v := ?_) rfl (by kernel_rfl) (by kernel_rfl) (by kernel_rfl) (fun _ _ _ h => h) (Or.inl ⟨by kernel_rfl, ?_⟩) (by assumption) ?_
                            rotate_left
                            · (intro w hSw; go_simp; with_reducible rfl)
                            simp only [Act.put]
                            refine wpAnyH_take (i := 2) (v := .bool true) rfl (by kernel_rfl) (by kernel_rfl) (by kernel_rfl) (fun _ _ _ h => h) (Or.inl ⟨by kernel_rfl, ?_⟩) (by assumption) ?_
                            · (intro w hSw; go_simp)
                            simp only [Act.put]
                            refine wpAnyH_take (i := 3) (v := .bool true) rfl (by kernel_rfl) (by kernel_rfl) (by kernel_rfl) (fun _ _ _ h => h) (Or.inl ⟨by kernel_rfl, ?_⟩) (by assumption) ?_
                            · (intro w hSw; go_simp)
                            simp only [Act.put]
                            refine wpAnyH_take (i := 4) (v := ?_) rfl (by kernel_rfl) (by kernel_rfl) (by kernel_rfl) (fun _ _ _ h => h) (Or.inl ⟨by kernel_rfl, ?_⟩) (by assumption) ?_
                            rotate_left
                            · (intro w hSw; go_simp; with_reducible rfl)
                            simp only [Act.put]
                            refine wpAnyH_take (i := 5) (v := ?_) rfl (by kernel_rfl) (by kernel_rfl) (by kernel_rfl) (fun _ _ _ h => h) (Or.inl ⟨by kernel_rfl, ?_⟩) (by assumption) ?_
                            rotate_left
                            · (intro w hSw; go_simp; with_reducible rfl)
                            simp only [Act.put]
                            refine wpAnyH_take (i := 6) (v := ?_) rfl (by kernel_rfl) (by kernel_rfl) (by kernel_rfl) (fun _ _ _ h => h) (Or.inl ⟨by kernel_rfl, ?_⟩) (by assumption) ?_
                            rotate_left
                            · (intro w hSw; go_simp; with_reducible rfl)
                            simp only [Act.put]
                            refine wpAnyH_take (i := 7) (v := ?_) rfl (by kernel_rfl) (by kernel_rfl) (by kernel_rfl) (fun _ _ _ h => h) (Or.inl ⟨by kernel_rfl, ?_⟩) (by assumption) ?_
                            rotate_left
                            · (intro w hSw; go_simp; with_reducible rfl)
                            simp only [Act.put]
                            refine wpAnyH_take (i := 8) (v := .int .i64 (b : Int)) rfl (by kernel_rfl) (by kernel_rfl) (by kernel_rfl) (fun _ _ _ h => h) (Or.inl ⟨by kernel_rfl, ?_⟩) (by assumption) ?_
                            · (intro w hSw; go_simp; exact HBT3.out)
                            simp only [Act.put]
                            refine wpAnyH_take (i := 9) (v := .bool false) rfl (by kernel_rfl) (by kernel_rfl) (by kernel_rfl) (fun _ _ _ h => h) (Or.inl ⟨by kernel_rfl, ?_⟩) (by assumption) ?_
                            · (intro w hSw; go_simp)
                            simp only [Act.put]
                            refine wpAnyH_take (i := 10) (v := .bool false) rfl (by kernel_rfl) (by kernel_rfl) (by kernel_rfl) (fun _ _ _ h => h) (Or.inl ⟨by kernel_rfl, ?_⟩) (by assumption) ?_
                            · (intro w hSw; go_simp)
                            simp only [Act.put]
                            refine wpAnyH_take (i := 11) (v := ?_) rfl (by kernel_rfl) (by kernel_rfl) (by kernel_rfl) (fun _ _ _ h => h) (Or.inl ⟨by kernel_rfl, ?_⟩) (by assumption) ?_
                            rotate_left
                            · (intro w hSw; go_simp; with_reducible rfl)
                            simp only [Act.put]
                            refine wpAnyH_take (i := 12) (v := .bool true) rfl (by kernel_rfl) (by kernel_rfl) (by kernel_rfl) (fun _ _ _ h => h) (Or.inl ⟨by kernel_rfl, ?_⟩) (by assumption) ?_
                            · (intro w hSw; go_simp)
                            simp only [Act.put]
                            refine wpAnyH_take (i := 13) (v := .bool true) rfl (by kernel_rfl) (by kernel_rfl) (by kernel_rfl) (fun _ _ _ h => h) (Or.inl ⟨by kernel_rfl, ?_⟩) (by assumption) ?_
                            · (intro w hSw; go_simp)
                            simp only [Act.put]
                            refine wpAnyH_take (i := 14) (v := .bool true) rfl (by kernel_rfl) (by kernel_rfl) (by kernel_rfl) (fun _ _ _ h => h) (Or.inl ⟨by kernel_rfl, ?_⟩) (by assumption) ?_
                            · (intro w hSw; go_simp)
                            simp only [Act.put]
                            refine wpAnyH_take (i := 15) (v := .bool true) rfl (by kernel_rfl) (by kernel_rfl) (by kernel_rfl) (fun _ _ _ h => h) (Or.inl ⟨by kernel_rfl, ?_⟩) (by assumption) ?_
                            · (intro w hSw; go_simp)
                            simp only [Act.put]
                            refine wpAnyH_take (i := 16) (v := ?_) rfl (by kernel_rfl) (by kernel_rfl) (by kernel_rfl) (fun _ _ _ h => h) (Or.inl ⟨by kernel_rfl, ?_⟩) (by assumption) ?_
                            rotate_left
                            · (intro w hSw; go_simp; with_reducible rfl)
                            simp only [Act.put]
                            refine wpAnyH_take (i := 17) (v := sv v) rfl (by kernel_rfl) (by kernel_rfl) (by kernel_rfl) (fun _ _ _ h => h) (Or.inl ⟨by kernel_rfl, ?_⟩) (by assumption) ?_
                            · (intro w hSw; go_simp; have htx := run_text (P := Try.prog) w 35 9 5 _ A12 c12 v Try.underlying35 Try.underlying5 Try.underlying9 hSw.1.out; go_simp)
                            simp only [Act.put]
                            refine wpAnyH_take (i := 18) (v := ?_) rfl (by kernel_rfl) (by kernel_rfl) (by kernel_rfl) (fun _ _ _ h => h) (Or.inl ⟨by kernel_rfl, ?_⟩) (by assumption) ?_
                            rotate_left
                            · (intro w hSw; go_simp; with_reducible rfl)
                            simp only [Act.put]
                            refine wpAnyH_take (i := 19) (v := .int .u8 (j : Int)) rfl (by kernel_rfl) (by kernel_rfl) (by kernel_rfl) (fun _ _ _ h => h) (Or.inl ⟨by kernel_rfl, ?_⟩) (by assumption) ?_
                            · (intro w hSw; go_simp)
                            simp only [Act.put]
                            refine wpAnyH_ready (rs := [20]) (by kernel_rfl) (by simp) ?_
                            refine AllReadyH.cons rfl (fun K hK => ?_) AllReadyH.nil
                            go_simp
                            refine (filled_any _ j 128 (by omega) (by decide)).mono ?_
                            rintro e w13 ⟨A13, c13, rfl, ho13, hb13⟩
                            rw [fill_len] at ho13
                            have L13 := Lies.of_own (Q := fun _ => True) ho13 rfl (fun _ _ => trivial)
                            have htx13 := run_text (P := Try.prog) w13 35 9 5 _ A13 c13 (fill j 128) Try.underlying35 Try.underlying5 Try.underlying9 L13
                            have S13a := Lib.hid (hHeld.1.out.chg (Chg.new hb13 (fun _ => False)) (fun _ _ h => h))
                            have S13b := Lib.hid (hHeld.2.1.out.chg (Chg.new hb13 (fun _ => False)) (fun h => h) (fun h => h))
                            have S13c := Lib.hid (hHeld.2.2.1.out.chg (Chg.new hb13 (fun _ => False)) (fun _ _ h => h))
                            have S13d : Hid (Below w.heap.size w w13) := hHeld.2.2.2.out.trans (hb13.mono hHeld.2.2.2.out.size)
                            clear ho13 hb13 L13
                            rw [fill_len] at htx13
                            rw [fill_len]
                            refine hK.out _ _ ⟨S13a, S13b, S13c, S13d⟩ (fun hHeld => ?_)
                            clear hK K
                            refine wpAnyH_ready (rs := [21]) (by kernel_rfl) (by simp) ?_
                            refine AllReadyH.cons rfl (fun K hK => ?_) AllReadyH.nil
                            go_simp
                            refine hK.out _ _ hHeld (fun hHeld => ?_)
                            clear hK K
                            refine wpAnyH_take (i := 22) (v := .bool false) rfl (by kernel_rfl) (by kernel_rfl) (by kernel_rfl) (fun _ _ _ h => h) (Or.inl ⟨by kernel_rfl, ?_⟩) (by assumption) ?_
                            · (intro w hSw; rw [HVF.out]; go_simp)
                            simp only [Act.put, List.getElem_toArray, List.getElem_cons_succ, List.getElem_cons_zero, List.setIfInBounds_toArray, List.set_cons_succ, List.set_cons_zero]
                            refine wpAnyH_take (i := 23) (v := .bool false) rfl (by kernel_rfl) (by kernel_rfl) (by kernel_rfl) (fun _ _ _ h => h) (Or.inl ⟨by kernel_rfl, ?_⟩) (by assumption) ?_
                            · (intro w hSw; go_simp)
                            simp only [Act.put, List.getElem_toArray, List.getElem_cons_succ, List.getElem_cons_zero, List.setIfInBounds_toArray, List.set_cons_succ, List.set_cons_zero]
                            refine wpAnyH_done (by kernel_rfl) ?_ _
                            go_wp2_with fail
                            go_meet
                            exact ⟨rfl, S13b, S13c, S13d⟩
                          · have hg3 : ((s : Int) == 0) = false := by rw [beq_eq_false_iff_ne]; omega
                            clear hja hjb hs0
                            refine wp_region_any (by kernel_rfl) ?_
                            change wpAny _ _ _ _ _ _ _ (World.drew _)
                            refine wpAny_take (i := 0) (v := ?_) rfl (by kernel_rfl) (by kernel_rfl) (by kernel_rfl) (fun _ _ _ h => h) (Or.inl ⟨by kernel_rfl, ?_⟩) ?_
                            rotate_left
                            · (intro w; go_simp; with_reducible rfl)
                            simp only [Act.put]
                            refine wpAny_take (i := 1) (v := ?_) rfl (by kernel_rfl) (by kernel_rfl) (by kernel_rfl) (fun _ _ _ h => h) (Or.inl ⟨by kernel_rfl, ?_⟩) ?_
                            rotate_left
                            · (intro w; go_simp; with_reducible rfl)
                            simp only [Act.put]
                            refine wpAny_take (i := 2) (v := .bool true) rfl (by kernel_rfl) (by kernel_rfl) (by kernel_rfl) (fun _ _ _ h => h) (Or.inl ⟨by kernel_rfl, ?_⟩) ?_
                            · (intro w; go_simp)
                            simp only [Act.put]
                            refine wpAny_take (i := 3) (v := .bool true) rfl (by kernel_rfl) (by kernel_rfl) (by kernel_rfl) (fun _ _ _ h => h) (Or.inl ⟨by kernel_rfl, ?_⟩) ?_
                            · (intro w; go_simp)
                            simp only [Act.put]
                            refine wpAny_take (i := 4) (v := ?_) rfl (by kernel_rfl) (by kernel_rfl) (by kernel_rfl) (fun _ _ _ h => h) (Or.inl ⟨by kernel_rfl, ?_⟩) ?_
                            rotate_left
                            · (intro w; go_simp; with_reducible rfl)
                            simp only [Act.put]
                            refine wpAny_take (i := 5) (v := ?_) rfl (by kernel_rfl) (by kernel_rfl) (by kernel_rfl) (fun _ _ _ h => h) (Or.inl ⟨by kernel_rfl, ?_⟩) ?_
                            rotate_left
                            · (intro w; go_simp; with_reducible rfl)
                            simp only [Act.put]
                            refine wpAny_take (i := 6) (v := ?_) rfl (by kernel_rfl) (by kernel_rfl) (by kernel_rfl) (fun _ _ _ h => h) (Or.inl ⟨by kernel_rfl, ?_⟩) ?_
                            rotate_left
                            · (intro w; go_simp; with_reducible rfl)
                            simp only [Act.put]
                            refine wpAny_take (i := 7) (v := ?_) rfl (by kernel_rfl) (by kernel_rfl) (by kernel_rfl) (fun _ _ _ h => h) (Or.inl ⟨by kernel_rfl, ?_⟩) ?_
                            rotate_left
                            · (intro w; go_simp; with_reducible rfl)
                            simp only [Act.put]
                            refine wpAny_take (i := 8) (v := .int .i64 (b : Int)) rfl (by kernel_rfl) (by kernel_rfl) (by kernel_rfl) (fun _ _ _ h => h) (Or.inl ⟨by kernel_rfl, ?_⟩) ?_
                            · (intro w; go_simp; exact HBT3.out)
                            simp only [Act.put]
                            refine wpAny_take (i := 9) (v := .bool false) rfl (by kernel_rfl) (by kernel_rfl) (by kernel_rfl) (fun _ _ _ h => h) (Or.inl ⟨by kernel_rfl, ?_⟩) ?_
                            · (intro w; go_simp)
                            simp only [Act.put]
                            refine wpAny_take (i := 10) (v := .bool false) rfl (by kernel_rfl) (by kernel_rfl) (by kernel_rfl) (fun _ _ _ h => h) (Or.inl ⟨by kernel_rfl, ?_⟩) ?_
                            · (intro w; go_simp)
                            simp only [Act.put]
                            refine wpAny_take (i := 11) (v := ?_) rfl (by kernel_rfl) (by kernel_rfl) (by kernel_rfl) (fun _ _ _ h => h) (Or.inl ⟨by kernel_rfl, ?_⟩) ?_
                            rotate_left
                            · (intro w; go_simp; with_reducible rfl)
                            simp only [Act.put]
                            refine wpAny_take (i := 12) (v := .bool false) rfl (by kernel_rfl) (by kernel_rfl) (by kernel_rfl) (fun _ _ _ h => h) (Or.inl ⟨by kernel_rfl, ?_⟩) ?_
                            · (intro w; go_simp)
                            simp only [Act.put]
                            refine wpAny_take (i := 13) (v := .bool false) rfl (by kernel_rfl) (by kernel_rfl) (by kernel_rfl) (fun _ _ _ h => h) (Or.inl ⟨by kernel_rfl, ?_⟩) ?_
                            · (intro w; go_simp)
                            simp only [Act.put]
                            refine wpAny_take (i := 14) (v := .bool false) rfl (by kernel_rfl) (by kernel_rfl) (by kernel_rfl) (fun _ _ _ h => h) (Or.inl ⟨by kernel_rfl, ?_⟩) ?_
                            · (intro w; go_simp)
                            simp only [Act.put]
                            refine wpAny_take (i := 15) (v := .bool false) rfl (by kernel_rfl) (by kernel_rfl) (by kernel_rfl) (fun _ _ _ h => h) (Or.inl ⟨by kernel_rfl, ?_⟩) ?_
                            · (intro w; go_simp)
                            simp only [Act.put]
                            refine wpAny_take (i := 16) (v := undef) rfl (by kernel_rfl) (by kernel_rfl) (by kernel_rfl) (fun _ _ _ h => h) (Or.inr ⟨by kernel_rfl, rfl⟩) ?_
                            simp only [Act.put]
                            refine wpAny_take (i := 17) (v := undef) rfl (by kernel_rfl) (by kernel_rfl) (by kernel_rfl) (fun _ _ _ h => h) (Or.inr ⟨by kernel_rfl, rfl⟩) ?_
                            simp only [Act.put]
                            refine wpAny_take (i := 18) (v := undef) rfl (by kernel_rfl) (by kernel_rfl) (by kernel_rfl) (fun _ _ _ h => h) (Or.inr ⟨by kernel_rfl, rfl⟩) ?_
                            simp only [Act.put]
                            refine wpAny_take (i := 19) (v := undef) rfl (by kernel_rfl) (by kernel_rfl) (by kernel_rfl) (fun _ _ _ h => h) (Or.inr ⟨by kernel_rfl, rfl⟩) ?_
                            simp only [Act.put]
                            refine wpAny_take (i := 20) (v := undef) rfl (by kernel_rfl) (by kernel_rfl) (by kernel_rfl) (fun _ _ _ h => h) (Or.inr ⟨by kernel_rfl, rfl⟩) ?_
                            simp only [Act.put]
                            refine wpAny_take (i := 21) (v := undef) rfl (by kernel_rfl) (by kernel_rfl) (by kernel_rfl) (fun _ _ _ h => h) (Or.inr ⟨by kernel_rfl, rfl⟩) ?_
                            simp only [Act.put]
                            refine wpAny_take (i := 22) (v := undef) rfl (by kernel_rfl) (by kernel_rfl) (by kernel_rfl) (fun _ _ _ h => h) (Or.inr ⟨by kernel_rfl, rfl⟩) ?_
                            simp only [Act.put]
                            refine wpAny_take (i := 23) (v := .bool false) rfl (by kernel_rfl) (by kernel_rfl) (by kernel_rfl) (fun _ _ _ h => h) (Or.inl ⟨by kernel_rfl, ?_⟩) ?_
                            · (intro w; go_simp)
                            simp only [Act.put, List.getElem_toArray, List.getElem_cons_succ, List.getElem_cons_zero, List.setIfInBounds_toArray, List.set_cons_succ, List.set_cons_zero]
                            refine wpAny_done (by kernel_rfl) ?_ _
                            go_wp2_with fail
                            go_meet
                            exact ⟨rfl, K12, M12, B12.out.drew⟩
                        · have hg2 : ((j : Int) != (b : Int)) = true := by rw [bne_iff_ne]; omega
                          have hv : (dend k b s t a false (-1)).read (j : Int) = fill j 128 := dend_read k b s t a j _ HLT.out hja (.inl hjb)
                          have HVF : Hid (v = fill j 128) := HV.out.symm.trans hv
                          have L12 := Lib.hid (Lies.of_own (Q := fun i => i < w12.heap.size) O12.out rfl (fun i hi => (O12.out.lt i hi).2))
                          clear hv O12 hja hjb
                          refine wp_region_held_drew (S := fun w' => Hid (Lies w' (fun i => i < w12.heap.size) A12 (v.map bv)) ∧ Hid (Dk w' g r (dend k b s t a false (-1))) ∧ Hid (Lies w' (fun i => i < w8.heap.size) A9 ((torn a t).map bv)) ∧ Hid (Below w.heap.size w w')) (by kernel_rfl) ⟨L12, K12, M12, B12.out.drew⟩ (fun hHeld => ?_)
                          refine wpAnyH_take (i := 0) (v := ?_) rfl (by kernel_rfl) (by kernel_rfl) (by kernel_rfl) (fun _ _ _ h => h) (Or.inl ⟨by kernel_rfl, ?_⟩) (by assumption) ?_
                          rotate_left
                          · (intro w hSw; go_simp; with_reducible rfl)
                          simp only [Act.put]
                          refine wpAnyH_take (i := 1) (v := ?_) rfl (by kernel_rfl) (by kernel_rfl) (by kernel_rfl) (fun _ _ _ h => h) (Or.inl ⟨by kernel_rfl, ?_⟩) (by assumption) ?_
                          rotate_left
                          · (intro w hSw; go_simp; with_reducible rfl)
                          simp only [Act.put]
                          refine wpAnyH_take (i := 2) (v := .bool true) rfl (by kernel_rfl) (by kernel_rfl) (by kernel_rfl) (fun _ _ _ h => h) (Or.inl ⟨by kernel_rfl, ?_⟩) (by assumption) ?_
                          · (intro w hSw; go_simp)
                          simp only [Act.put]
                          refine wpAnyH_take (i := 3) (v := .bool true) rfl (by kernel_rfl) (by kernel_rfl) (by kernel_rfl) (fun _ _ _ h => h) (Or.inl ⟨by kernel_rfl, ?_⟩) (by assumption) ?_
                          · (intro w hSw; go_simp)
                          simp only [Act.put]
                          refine wpAnyH_take (i := 4) (v := ?_) rfl (by kernel_rfl) (by kernel_rfl) (by kernel_rfl) (fun _ _ _ h => h) (Or.inl ⟨by kernel_rfl, ?_⟩) (by assumption) ?_
                          rotate_left
                          · (intro w hSw; go_simp; with_reducible rfl)
                          simp only [Act.put]
                          refine wpAnyH_take (i := 5) (v := ?_) rfl (by kernel_rfl) (by kernel_rfl) (by kernel_rfl) (fun _ _ _ h => h) (Or.inl ⟨by kernel_rfl, ?_⟩) (by assumption) ?_
                          rotate_left
                          · (intro w hSw; go_simp; with_reducible rfl)
                          simp only [Act.put]
                          refine wpAnyH_take (i := 6) (v := ?_) rfl (by kernel_rfl) (by kernel_rfl) (by kernel_rfl) (fun _ _ _ h => h) (Or.inl ⟨by kernel_rfl, ?_⟩) (by assumption) ?_
                          rotate_left
                          · (intro w hSw; go_simp; with_reducible rfl)
                          simp only [Act.put]
                          refine wpAnyH_take (i := 7) (v := ?_) rfl (by kernel_rfl) (by kernel_rfl) (by kernel_rfl) (fun _ _ _ h => h) (Or.inl ⟨by kernel_rfl, ?_⟩) (by assumption) ?_
                          rotate_left
                          · (intro w hSw; go_simp; with_reducible rfl)
                          simp only [Act.put]
                          refine wpAnyH_take (i := 8) (v := .int .i64 (b : Int)) rfl (by kernel_rfl) (by kernel_rfl) (by kernel_rfl) (fun _ _ _ h => h) (Or.inl ⟨by kernel_rfl, ?_⟩) (by assumption) ?_
                          · (intro w hSw; go_simp; exact HBT3.out)
                          simp only [Act.put]
                          refine wpAnyH_take (i := 9) (v := .bool true) rfl (by kernel_rfl) (by kernel_rfl) (by kernel_rfl) (fun _ _ _ h => h) (Or.inl ⟨by kernel_rfl, ?_⟩) (by assumption) ?_
                          · (intro w hSw; go_simp)
                          simp only [Act.put]
                          refine wpAnyH_take (i := 10) (v := .bool true) rfl (by kernel_rfl) (by kernel_rfl) (by kernel_rfl) (fun _ _ _ h => h) (Or.inl ⟨by kernel_rfl, ?_⟩) (by assumption) ?_
                          · (intro w hSw; go_simp)
                          simp only [Act.put]
                          refine wpAnyH_take (i := 11) (v := undef) rfl (by kernel_rfl) (by kernel_rfl) (by kernel_rfl) (fun _ _ _ h => h) (Or.inr ⟨by kernel_rfl, rfl⟩) (by assumption) ?_
                          simp only [Act.put]
                          refine wpAnyH_take (i := 12) (v := undef) rfl (by kernel_rfl) (by kernel_rfl) (by kernel_rfl) (fun _ _ _ h => h) (Or.inr ⟨by kernel_rfl, rfl⟩) (by assumption) ?_
                          simp only [Act.put]
                          refine wpAnyH_take (i := 13) (v := .bool true) rfl (by kernel_rfl) (by kernel_rfl) (by kernel_rfl) (fun _ _ _ h => h) (Or.inl ⟨by kernel_rfl, ?_⟩) (by assumption) ?_
                          · (intro w hSw; go_simp)
                          simp only [Act.put]
                          refine wpAnyH_take (i := 14) (v := .bool true) rfl (by kernel_rfl) (by kernel_rfl) (by kernel_rfl) (fun _ _ _ h => h) (Or.inl ⟨by kernel_rfl, ?_⟩) (by assumption) ?_
                          · (intro w hSw; go_simp)
                          simp only [Act.put]
                          refine wpAnyH_take (i := 15) (v := .bool true) rfl (by kernel_rfl) (by kernel_rfl) (by kernel_rfl) (fun _ _ _ h => h) (Or.inl ⟨by kernel_rfl, ?_⟩) (by assumption) ?_
                          · (intro w hSw; go_simp)
                          simp only [Act.put]
                          refine wpAnyH_take (i := 16) (v := ?_) rfl (by kernel_rfl) (by kernel_rfl) (by kernel_rfl) (fun _ _ _ h => h) (Or.inl ⟨by kernel_rfl, ?_⟩) (by assumption) ?_
                          rotate_left
                          · (intro w hSw; go_simp; with_reducible rfl)
                          simp only [Act.put]
                          refine wpAnyH_take (i := 17) (v := sv v) rfl (by kernel_rfl) (by kernel_rfl) (by kernel_rfl) (fun _ _ _ h => h) (Or.inl ⟨by kernel_rfl, ?_⟩) (by assumption) ?_
                          · (intro w hSw; go_simp; have htx := run_text (P := Try.prog) w 35 9 5 _ A12 c12 v Try.underlying35 Try.underlying5 Try.underlying9 hSw.1.out; go_simp)
                          simp only [Act.put]
                          refine wpAnyH_take (i := 18) (v := ?_) rfl (by kernel_rfl) (by kernel_rfl) (by kernel_rfl) (fun _ _ _ h => h) (Or.inl ⟨by kernel_rfl, ?_⟩) (by assumption) ?_
                          rotate_left
                          · (intro w hSw; go_simp; with_reducible rfl)
                          simp only [Act.put]
                          refine wpAnyH_take (i := 19) (v := .int .u8 (j : Int)) rfl (by kernel_rfl) (by kernel_rfl) (by kernel_rfl) (fun _ _ _ h => h) (Or.inl ⟨by kernel_rfl, ?_⟩) (by assumption) ?_
                          · (intro w hSw; go_simp)
                          simp only [Act.put]
                          refine wpAnyH_ready (rs := [20]) (by kernel_rfl) (by simp) ?_
                          refine AllReadyH.cons rfl (fun K hK => ?_) AllReadyH.nil
                          go_simp
                          refine (filled_any _ j 128 (by omega) (by decide)).mono ?_
                          rintro e w13 ⟨A13, c13, rfl, ho13, hb13⟩
                          rw [fill_len] at ho13
                          have L13 := Lies.of_own (Q := fun _ => True) ho13 rfl (fun _ _ => trivial)
                          have htx13 := run_text (P := Try.prog) w13 35 9 5 _ A13 c13 (fill j 128) Try.underlying35 Try.underlying5 Try.underlying9 L13
                          have S13a := Lib.hid (hHeld.1.out.chg (Chg.new hb13 (fun _ => False)) (fun _ _ h => h))
                          have S13b := Lib.hid (hHeld.2.1.out.chg (Chg.new hb13 (fun _ => False)) (fun h => h) (fun h => h))
                          have S13c := Lib.hid (hHeld.2.2.1.out.chg (Chg.new hb13 (fun _ => False)) (fun _ _ h => h))
                          have S13d : Hid (Below w.heap.size w w13) := hHeld.2.2.2.out.trans (hb13.mono hHeld.2.2.2.out.size)
                          clear ho13 hb13 L13
                          rw [fill_len] at htx13
                          rw [fill_len]
                          refine hK.out _ _ ⟨S13a, S13b, S13c, S13d⟩ (fun hHeld => ?_)
                          clear hK K
                          refine wpAnyH_ready (rs := [21]) (by kernel_rfl) (by simp) ?_
                          refine AllReadyH.cons rfl (fun K hK => ?_) AllReadyH.nil
                          go_simp
                          refine hK.out _ _ hHeld (fun hHeld => ?_)
                          clear hK K
                          refine wpAnyH_take (i := 22) (v := .bool false) rfl (by kernel_rfl) (by kernel_rfl) (by kernel_rfl) (fun _ _ _ h => h) (Or.inl ⟨by kernel_rfl, ?_⟩) (by assumption) ?_
                          · (intro w hSw; rw [HVF.out]; go_simp)
                          simp only [Act.put, List.getElem_toArray, List.getElem_cons_succ, List.getElem_cons_zero, List.setIfInBounds_toArray, List.set_cons_succ, List.set_cons_zero]
                          refine wpAnyH_take (i := 23) (v := .bool false) rfl (by kernel_rfl) (by kernel_rfl) (by kernel_rfl) (fun _ _ _ h => h) (Or.inl ⟨by kernel_rfl, ?_⟩) (by assumption) ?_
                          · (intro w hSw; go_simp)
                          simp only [Act.put, List.getElem_toArray, List.getElem_cons_succ, List.getElem_cons_zero, List.setIfInBounds_toArray, List.set_cons_succ, List.set_cons_zero]
                          refine wpAnyH_done (by kernel_rfl) ?_ _
                          go_wp2_with fail
                          go_meet
                          exact ⟨rfl, S13b, S13c, S13d⟩
                    case rest =>
                      obtain ⟨rfl, K14, M14, B14⟩ := hcut
                      clear K12 M12 B12 O12
                      go_wp2_with fail
                      go_roundg (k - (j + 1))
                      case measure => have := HLT.out; omega
                      case rel => exact ⟨j + 1, HLT.out, rfl, by simp, K14, M14, B14⟩
                  · have hjk : k = j := by omega
                    subst hjk
                    clear hlt hj
                    have htx := run_text (P := Try.prog) wr 35 9 5 _ A9 c9 (torn a t) Try.underlying35 Try.underlying5 Try.underlying9 hM.out
                    go_wp2_with fail
                    refine (stop_none wr 1 1).mono ?_
                    rintro e w20 ⟨rfl, rfl⟩
                    go_wp2_with fail
                    refine (restart_none wr).mono ?_
                    rintro e w21 ⟨rfl, rfl⟩
                    go_wp2_with fail
                    refine (dread_none wr 0).mono ?_
                    rintro e w22 ⟨rfl, rfl⟩
                    go_wp2_with fail
                    refine (dwrite_none wr 0).mono ?_
                    rintro e w23 ⟨rfl, rfl⟩
                    go_wp2_with fail
                    refine (len_none wr).mono ?_
                    rintro e w24 ⟨rfl, rfl⟩
                    go_wp2_with fail
                    refine (down_none wr).mono ?_
                    rintro e w25 ⟨rfl, rfl⟩
                    go_wp2
                    go_ret
                    exact ⟨rfl, hB.out⟩

end Go.Proofs.Ytniedfilhilhhaa
