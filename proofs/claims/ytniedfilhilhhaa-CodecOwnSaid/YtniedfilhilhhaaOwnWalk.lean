/- CodecOwn, walked: what is read, and what is put, is in memory of its own. -/
import Derived.Test.YtniedfilhilhhaaAwake1
import Derived.Deep.RegionWith
import Derived.BigQuiet
import Derived.Deep.QuietTactic
import Derived.Lib.Strings
namespace Go.Proofs.Ytniedfilhilhhaa
open Go.RowKit

/-- What '[]byte(s)' made. -/
theorem row_cell (w : World) (bs : List UInt8) (cap : Nat) (fr : Nat × Nat) (j : Nat) (hj : j < bs.length) :
    ((w.alloc (.cells (bytesRow ⟨bs.toArray⟩ cap) 5 fr)).drew).cell? ⟨w.heap.size, j, none⟩ = some (bv bs[j]) := by
  show (w.alloc (.cells (bytesRow ⟨bs.toArray⟩ cap) 5 fr)).cell? ⟨w.heap.size, j, none⟩ = _
  rw [World.cell?_alloc_mark, bytesRow_at _ _ _ (by simpa using hj)]
  simp
theorem row_lies (w : World) (bs : List UInt8) (cap : Nat) (fr : Nat × Nat) :
    Lies ((w.alloc (.cells (bytesRow ⟨bs.toArray⟩ cap) 5 fr)).drew) (fun i => i = w.heap.size) (some ⟨w.heap.size, 0, none⟩) (bs.map bv) := by
  intro _
  refine ⟨_, rfl, by show w.heap.size < (w.alloc _).heap.size; simp, rfl, fun j x hj => ?_⟩
  simp only [List.getElem?_map, Option.map_eq_some_iff] at hj
  obtain ⟨b, hb, rfl⟩ := hj
  obtain ⟨hlt, rfl⟩ := List.getElem?_eq_some_iff.1 hb
  rw [add_none, Nat.zero_add]
  exact row_cell w bs cap fr j hlt
theorem row_frozen (w : World) (bs : List UInt8) (cap : Nat) (j : Nat) (hj : j < bs.length) :
    ((w.alloc (.cells (bytesRow ⟨bs.toArray⟩ cap) 5 ((bytesRow ⟨bs.toArray⟩ cap).size, (bytesRow ⟨bs.toArray⟩ cap).size + 1))).drew).frozen? ⟨w.heap.size, j, none⟩ = false := by
  show (w.alloc _).frozen? ⟨w.heap.size, j, none⟩ = _
  rw [World.frozen?_alloc_mark]
  have : bs.length ≤ (bytesRow ⟨bs.toArray⟩ cap).size := by simp [bytesRow]
  simp
  omega

theorem made_bytes (w : World) (bs : List UInt8) (cap : Nat) :
    Below w.heap.size w ((w.alloc (.cells (bytesRow ⟨bs.toArray⟩ cap) 5 ((bytesRow ⟨bs.toArray⟩ cap).size, (bytesRow ⟨bs.toArray⟩ cap).size + 1))).drew) ∧
    ((w.alloc (.cells (bytesRow ⟨bs.toArray⟩ cap) 5 ((bytesRow ⟨bs.toArray⟩ cap).size, (bytesRow ⟨bs.toArray⟩ cap).size + 1))).drew).heap.size = w.heap.size + 1 ∧
    Lies ((w.alloc (.cells (bytesRow ⟨bs.toArray⟩ cap) 5 ((bytesRow ⟨bs.toArray⟩ cap).size, (bytesRow ⟨bs.toArray⟩ cap).size + 1))).drew) (fun i => i = w.heap.size) (some ⟨w.heap.size, 0, none⟩) (bs.map bv) ∧
    ∀ j (h : j < bs.length), ((w.alloc (.cells (bytesRow ⟨bs.toArray⟩ cap) 5 ((bytesRow ⟨bs.toArray⟩ cap).size, (bytesRow ⟨bs.toArray⟩ cap).size + 1))).drew).cell? ⟨w.heap.size, j, none⟩ = some (bv bs[j]) ∧
      ((w.alloc (.cells (bytesRow ⟨bs.toArray⟩ cap) 5 ((bytesRow ⟨bs.toArray⟩ cap).size, (bytesRow ⟨bs.toArray⟩ cap).size + 1))).drew).frozen? ⟨w.heap.size, j, none⟩ = false :=
  ⟨((Below.refl _ _).alloc (Nat.le_refl _) _).drew, by show (w.alloc _).heap.size = _; simp, row_lies _ _ _ _, fun j h => ⟨row_cell _ _ _ _ j h, row_frozen _ _ _ j h⟩⟩

theorem extract_take (bs : List UInt8) (n : Nat) : ByteArray.extract ⟨bs.toArray⟩ 0 n = ⟨(bs.take n).toArray⟩ := by
  apply ByteArray.ext
  apply Array.toList_inj.1
  rw [Lib.extract_data]
  simp

theorem extract_drop (bs : List UInt8) (n : Nat) : ByteArray.extract ⟨bs.toArray⟩ n bs.length = ⟨(bs.drop n).toArray⟩ := by
  apply ByteArray.ext
  apply Array.toList_inj.1
  rw [Lib.extract_data, List.take_of_length_le (by simp)]

/-- A cell of a row of its own. -/
theorem own_at {w : World} {B n g c : Nat} {xs : List Value} (h : w.ownsRow B 5 1 (.slice (some ⟨g, 0, none⟩) n c) n xs) (j : Nat) (u : Value) (hj : xs[j]? = some u) : w.cell? ⟨g, j, none⟩ = some u ∧ w.frozen? ⟨g, j, none⟩ = false := by
  have hc := h.cells (g := g) rfl j u hj
  rw [add_none, Nat.zero_add] at hc
  refine ⟨hc, ?_⟩
  rcases h.2 with ⟨h0, _⟩ | ⟨g', cap, cur, hv, _, hh, _⟩
  · cases h0
  · injection hv with hv
    injection hv with hv
    injection hv with hv
    subst hv
    exact Blk.frozen hh j
theorem own_addr {w : World} {B : Nat} {e : TypeId} {size n c : Nat} {A : Option Addr} {xs : List Value} (h : w.ownsRow B e size (.slice A n c) n xs) (hn : 0 < n) : ∃ g, A = some ⟨g, 0, none⟩ ∧ B ≤ g ∧ g < w.heap.size := by
  obtain ⟨g, cap, hv, h1, h2⟩ := h.form hn
  injection hv with hA
  exact ⟨g, hA, h1, h2⟩

set_option maxRecDepth 100000 in
set_option maxHeartbeats 800000 in
theorem own_walk (w : World) (A : Option Addr) (c : Nat) (bs : List UInt8) (x : Int) (h : Lies w (fun _ => True) A (bs.map bv)) :
    Calls Try.prog 8 #[.slice A bs.length c, .int .u8 x] w fun e w' => e = .returned (.bool true) ∧ Below w.heap.size w w' := by
  have HL := Lib.hid h
  clear h
  by_cases hlen : 3 ≤ bs.length ∧ bs.length ≤ 200 ∧ ¬ x = 0
  · obtain ⟨hl3, hl200, hx0⟩ := hlen
    have hx : (x == 0) = false := by simpa using hx0
    have hroom : Hid (bs.length ≤ room) := room_small (by omega)
    clear hx0
    go_enter Try.func8, Try.ntmps8
    go_wp2_with fail
    refine (awake1_any w).mono ?_
    rintro e w1 ⟨rfl, hb⟩
    have B1 := Lib.hid hb
    have HL1 := Lib.hid (HL.out.chg (Chg.new hb (fun _ => False)) (fun _ _ h => h))
    clear hb
    have htx := run_text (P := Try.prog) w1 35 9 5 (fun _ => True) A c bs Try.underlying35 Try.underlying5 Try.underlying9 HL1.out
    have hby := run_bytes_of_string (P := Try.prog) w1 9 35 5 ⟨bs.toArray⟩ Try.underlying9 Try.underlying35 Try.underlying5
    go_wp2_with fail
    have hm := made_bytes w1 bs (grownCap w1 bs.length 0 5)
    generalize (w1.alloc (.cells (bytesRow ⟨bs.toArray⟩ (grownCap w1 bs.length 0 5)) 5 ((bytesRow ⟨bs.toArray⟩ (grownCap w1 bs.length 0 5)).size, (bytesRow ⟨bs.toArray⟩ (grownCap w1 bs.length 0 5)).size + 1))).drew = W2 at hm ⊢
    obtain ⟨m1, m2, m3, m4⟩ := hm
    generalize grownCap w1 bs.length 0 5 = cap2
    have HS2 : Hid (W2.heap.size = w1.heap.size + 1) := m2
    have M4 := Lib.hid m4
    have B2 := Lib.hid (B1.out.trans (m1.mono B1.out.size))
    clear m1 m2 m4 hby htx
    refine (new_any _ _ _ _ bs m3 hroom.out).mono ?_
    rintro e w3 ⟨r, rfl, hr, hrd, hb3⟩
    have h1s : w1.heap.size < W2.heap.size := by have := HS2.out; omega
    have k1 : w3.cell? ⟨w1.heap.size, 1, none⟩ = some (bv bs[1]) := (hb3.cell (p := ⟨w1.heap.size, 1, none⟩) h1s).trans (M4.out 1 (by omega)).1
    have f1 : w3.frozen? ⟨w1.heap.size, 1, none⟩ = false := (hb3.frozen (p := ⟨w1.heap.size, 1, none⟩) h1s).trans (M4.out 1 (by omega)).2
    have B3 := Lib.hid (B2.out.trans (hb3.mono B2.out.size))
    have R3 : Hid (Rd w3 (fun i => W2.heap.size ≤ i ∧ i < w3.heap.size) r ⟨bs, 0⟩) := hrd
    have HR : Hid (W2.heap.size ≤ r) := hr
    have HRL : Hid (r < w3.heap.size) := hrd.lt
    have H1S := Lib.hid h1s
    clear hr hrd hb3 m3 h1s
    obtain ⟨t, htk⟩ : ∃ t, bs.take 2 = t := ⟨_, rfl⟩
    have ht2 : t.length = 2 := by rw [← htk, List.length_take]; omega
    have htake : (RS.mk bs 0).take 2 = (⟨bs.drop 2, 0⟩, some t) := by rw [take_ok rfl (by decide) (by simp; omega), ← htk]; rfl
    have hgot : (RS.mk bs 0).got 2 = t := by unfold RS.got; rw [htake]; rfl
    have hex : ByteArray.extract ⟨bs.toArray⟩ 0 2 = ⟨t.toArray⟩ := by rw [← htk]; exact extract_take bs 2
    have HT := Lib.hid htake
    have HG := Lib.hid hgot
    clear htake hgot htk
    go_wp2_with fail
    have hc4 : Chg (fun i => i = w1.heap.size) w3 (w3.setCell ⟨w1.heap.size, 1, none⟩ (.int .u8 (bits .xor .u8 (bs[1].toNat : Int) x))) := Chg.at_ _ _ _ _
    have R4 := R3.out.chg hc4 (by have := HR.out; have := HS2.out; omega) (fun i hi h => by have := HS2.out; omega)
    have B4 := Lib.hid (below_chg B3.out hc4 (fun i _ h => by rw [h]; exact B1.out.size) B3.out.size)
    refine (fixed_any _ _ r _ 2 R4 hroom.out).mono ?_
    rw [HT.out, HG.out]
    rintro e w5 ⟨hr5, hc5, A5, c5, rfl, ho5⟩
    have hsz4 : (w3.setCell ⟨w1.heap.size, 1, none⟩ (.int .u8 (bits .xor .u8 (bs[1].toNat : Int) x))).heap.size = w3.heap.size := by simp [World.setCell]
    obtain ⟨g5, rfl, hg5, hg5'⟩ := own_addr ho5 (by rw [ht2]; decide)
    have HG5 : Hid (w3.heap.size ≤ g5) := by unfold Hid; omega
    have HG5' : Hid (g5 < w5.heap.size) := hg5'
    have R5 : Hid (Rd w5 (fun i => W2.heap.size ≤ i ∧ i < w3.heap.size) r ⟨bs.drop 2, 0⟩) := hr5
    have B5 := Lib.hid (below_chg B4.out hc5 (fun i _ h => by rw [h]; exact Nat.le_trans B2.out.size HR.out) B4.out.size)
    have htx := fun n => run_text (P := Try.prog) (w5.drewN n) 35 9 5 (fun _ => True) _ c5 t Try.underlying35 Try.underlying5 Try.underlying9 (Lies.of_own (w := w5.drewN n) ho5 rfl (fun _ _ => trivial))
    rw [ht2] at ho5 htx
    have hz0 : t[0]? = some t[0] := by simp
    obtain ⟨k5, f5⟩ := own_at ho5 0 (bv t[0]) (by rw [List.getElem?_map, hz0]; rfl)
    clear hr5 hc5 ho5 hg5 hg5' hc4 R4 hsz4 hz0 k1 f1
    go_wp2_with fail
    go_quiet (fail)
    clear htx
    obtain ⟨u, hu⟩ : ∃ u, bs.drop 2 = u := ⟨_, rfl⟩
    have hul : (u.length : Int) = (bs.length : Int) - 2 := by rw [← hu, List.length_drop]; omega
    have htake : (RS.mk u 0).take ((bs.length : Int) - 2) = (⟨[], 0⟩, some u) := by
      rw [← hul, take_ok rfl (by omega) (by simp)]
      simp
    have hgot : (RS.mk u 0).got ((bs.length : Int) - 2) = u := by unfold RS.got; rw [htake]; rfl
    have HU : Hid (ByteArray.extract ⟨bs.toArray⟩ 2 bs.length = ⟨u.toArray⟩) := by rw [← hu]; exact extract_drop bs 2
    have HUL := Lib.hid hul
    have HT2 := Lib.hid htake
    have HGT2 := Lib.hid hgot
    have R5' : Hid (Rd w5 (fun i => W2.heap.size ≤ i ∧ i < w3.heap.size) r ⟨u, 0⟩) := by rw [← hu]; exact R5.out
    clear htake hgot hu hul
    go_wp2_with fail
    have hc6 : Chg (fun i => i = g5) w5 ((w5.drewN nq).setCell ⟨g5, 0, none⟩ (.int .u8 (bits .xor .u8 (t[0].toNat : Int) x))) := Chg.setCell (S := fun i => i = g5) (p := ⟨g5, 0, none⟩) ((Chg.refl _ w5).drewN nq) (.inl rfl) _
    have R6 := R5'.out.chg hc6 (by have := HG5.out; have := HRL.out; omega) (fun i hi h => by have := HG5.out; omega)
    have B6 := Lib.hid (below_chg B5.out hc6 (fun i _ h => by rw [h]; exact Nat.le_trans B3.out.size HG5.out) B5.out.size)
    refine (fixed_any _ _ r _ _ R6 (room_small (by have := HUL.out; simp; omega))).mono ?_
    rw [HT2.out, HGT2.out]
    rintro e w7 ⟨hr7, hc7, A7, c7, rfl, ho7⟩
    have B7 := Lib.hid (below_chg B6.out hc7 (fun i _ h => by rw [h]; exact Nat.le_trans B2.out.size HR.out) B6.out.size)
    have O7 : Hid (w7.ownsRow w5.heap.size 5 1 (.slice A7 u.length c7) u.length (u.map bv)) := own_base ho7 (by simp [World.setCell])
    clear hr7 hc7 ho7 hc6 R6
    go_wp2_with fail
    refine (wnew_any w7).mono ?_
    rintro e w8 ⟨g, rfl, hg, hw8, hb8⟩
    have W8 := Lib.hid hw8
    have B8 := Lib.hid (B7.out.trans (hb8.mono B7.out.size))
    have O8 := Lib.hid (own_chg O7.out (Chg.new hb8 (fun _ => False)) (fun _ _ h => h))
    have HL8 := Lib.hid (HL.out.chg (Chg.new B8.out (fun _ => False)) (fun _ _ h => h))
    have HG : Hid (w7.heap.size ≤ g) := hg
    have HS7 : Hid (∀ k, Value.ownBlock (.slice A7 u.length c7) = some k → k < w7.heap.size) := fun k hk => (O7.out.lt k hk).2
    clear hg hw8 hb8
    go_wp2_with fail
    refine (wfixed_any w8 _ w7.heap.size g _ [] bs A c W8.out HL8.out (room_small (by simp; omega))).mono ?_
    rintro e w9 ⟨rfl, v9, hw9, hc9, ho9⟩
    have W9 : Hid (Wr w9 w7.heap.size g v9 bs) := hw9
    have B9 := Lib.hid (below_chg B8.out hc9 (fun i _ h => Nat.le_trans B7.out.size (W8.out.own_lt i h)) B8.out.size)
    have O9 := Lib.hid (own_chg O8.out hc9 (fun k hk h => by have := W8.out.own_lt k h; have := HS7.out k hk; omega))
    clear hw9 hc9 ho9
    go_wp2_with fail
    refine (wout_any w9 w7.heap.size g _ bs W9.out hroom.out).mono ?_
    rintro e w10 ⟨A10, c10, rfl, ho10, hb10⟩
    have hn10 : Chg (fun _ => False) w9 w10 := Chg.new hb10 _
    have W10 := Lib.hid (W9.out.chg hn10 (fun h => h) (fun _ _ h => h))
    have B10 := Lib.hid (B9.out.trans (hb10.mono B9.out.size))
    have O10 := Lib.hid (own_chg O9.out hn10 (fun _ _ h => h))
    obtain ⟨g10, rfl, hg10, hg10'⟩ := own_addr ho10 (by omega)
    have HG10 : Hid (w9.heap.size ≤ g10) := hg10
    have hz0 : bs[0]? = some bs[0] := by simp
    obtain ⟨k10, f10⟩ := own_at ho10 0 (bv bs[0]) (by rw [List.getElem?_map, hz0]; rfl)
    clear hn10 hb10 ho10 hg10 hg10' hz0
    go_wp2_with fail
    have hc11 : Chg (fun i => i = g10) w10 (w10.setCell ⟨g10, 0, none⟩ (.int .u8 (bits .xor .u8 (bs[0].toNat : Int) x))) := Chg.at_ _ _ _ _
    generalize w10.setCell ⟨g10, 0, none⟩ (.int .u8 (bits .xor .u8 (bs[0].toNat : Int) x)) = W11 at hc11 ⊢
    have W11' : Hid (Wr W11 w7.heap.size g v9 bs) := W10.out.chg hc11 (by have := W9.out.1.lt; have := HG10.out; omega) (fun k hk h => by have := (W9.out.2.1.lt k hk).2; have := HG10.out; omega)
    have O11 : Hid (W11.ownsRow w5.heap.size 5 1 (.slice A7 u.length c7) u.length (u.map bv)) := own_chg O10.out hc11 (fun k hk h => by have := (O9.out.lt k hk).2; have := HG10.out; omega)
    have B11 := Lib.hid (below_chg B10.out hc11 (fun i _ h => by rw [h]; exact Nat.le_trans B9.out.size HG10.out) B10.out.size)
    have htd := run_text (P := Try.prog) W11.drew 35 9 5 (fun _ => True) A7 c7 u Try.underlying35 Try.underlying5 Try.underlying9 (Lies.of_own (w := W11.drew) O11.out rfl (fun _ _ => trivial))
    have HW := Lib.hid (wout_any W11.drew w7.heap.size g v9 bs W11'.out hroom.out)
    have hU := HU.out
    have h2i : (2 : Int) ≤ (bs.length : Int) := by omega
    clear k5 f5 k10 f10 hc11 HL B1 HL1 HS2 M4 B2 B3 R3 HR HRL H1S HT HG R5 B5 HG5 HG5' HU HUL HT2 HGT2 R5' B6 B7 O7 W8 B8 O8 HL8 HS7 W9 B9 O9 W10 B10 O10 HG10 O11 W11' hroom
    refine wp_region_any (by kernel_rfl) ?_
    change wpAny _ _ _ _ _ _ _ (World.drew _)
    refine wpAny_take (i := 0) (v := ?_) rfl (by kernel_rfl) (by kernel_rfl) (by kernel_rfl) (fun _ _ _ h => h) (Or.inl ⟨by rfl, ?_⟩) ?_
    rotate_left
    · (intro w; go_simp; with_reducible rfl)
    refine wpAny_take (i := 2) (v := ?_) rfl (by kernel_rfl) (by kernel_rfl) (by kernel_rfl) (fun _ _ _ h => h) (Or.inl ⟨by rfl, ?_⟩) ?_
    rotate_left
    · (intro w; go_simp; with_reducible rfl)
    refine wpAny_take (i := 3) (v := ?_) rfl (by kernel_rfl) (by kernel_rfl) (by kernel_rfl) (fun _ _ _ h => h) (Or.inl ⟨by rfl, ?_⟩) ?_
    rotate_left
    · (intro w; go_simp; with_reducible rfl)
    refine wpAny_ready (rs := [1]) (by kernel_rfl) (by simp) ?_
    refine AllReady.cons rfl (fun K hK => ?_) AllReady.nil
    go_simp
    refine hK _ _ ?_
    clear hK K
    refine wpAny_ready (rs := [4]) (by kernel_rfl) (by simp) ?_
    refine AllReady.cons rfl (fun K hK => ?_) AllReady.nil
    go_simp
    refine hK _ _ ?_
    clear hK K
    refine wpAny_ready (rs := [5]) (by kernel_rfl) (by simp) ?_
    refine AllReady.cons rfl (fun K hK => ?_) AllReady.nil
    go_simp
    refine hK _ _ ?_
    clear hK K
    refine wpAny_take (i := 6) (v := ?_) rfl (by kernel_rfl) (by kernel_rfl) (by kernel_rfl) (fun _ _ _ h => h) (Or.inl ⟨by rfl, ?_⟩) ?_
    rotate_left
    · (intro w; go_simp; with_reducible rfl)
    refine wpAny_take (i := 9) (v := ?_) rfl (by kernel_rfl) (by kernel_rfl) (by kernel_rfl) (fun _ _ _ h => h) (Or.inl ⟨by rfl, ?_⟩) ?_
    rotate_left
    · (intro w; go_simp; with_reducible rfl)
    refine wpAny_ready (rs := [7]) (by kernel_rfl) (by simp) ?_
    refine AllReady.cons rfl (fun K hK => ?_) AllReady.nil
    go_simp
    refine HW.out.mono ?_
    rintro e w12 ⟨A12, c12, rfl, ho12, hb12⟩
    have ht12 := run_text (P := Try.prog) w12 35 9 5 (fun _ => True) A12 c12 bs Try.underlying35 Try.underlying5 Try.underlying9 (Lies.of_own ho12 rfl (fun _ _ => trivial))
    have HB12 := Lib.hid hb12
    clear hb12 ho12
    refine hK _ _ ?_
    clear hK K
    refine wpAny_ready (rs := [8]) (by kernel_rfl) (by simp) ?_
    refine AllReady.cons rfl (fun K hK => ?_) AllReady.nil
    go_simp
    refine hK _ _ ?_
    clear hK K
    refine wpAny_ready (rs := [10]) (by kernel_rfl) (by simp) ?_
    refine AllReady.cons rfl (fun K hK => ?_) AllReady.nil
    go_simp
    refine hK _ _ ?_
    clear hK K
    refine wpAny_ready (rs := [11]) (by kernel_rfl) (by simp) ?_
    refine AllReady.cons rfl (fun K hK => ?_) AllReady.nil
    go_simp
    refine hK _ _ ?_
    clear hK K
    refine wpAny_ready (rs := [12]) (by kernel_rfl) (by simp) ?_
    refine AllReady.cons rfl (fun K hK => ?_) AllReady.nil
    go_simp
    refine hK _ _ ?_
    clear hK K
    refine wpAny_done (by kernel_rfl) ?_ _
    go_wp2
    go_ret
    exact ⟨rfl, B11.out.drew.trans (HB12.out.mono B11.out.size)⟩
  · have hd : bs.length < 3 ∨ 3 ≤ bs.length ∧ 200 < bs.length ∨ 3 ≤ bs.length ∧ bs.length ≤ 200 ∧ x = 0 := by omega
    rcases hd with hd | ⟨hd, hd2⟩ | ⟨hd, hd2, rfl⟩
    all_goals
      go_enter Try.func8, Try.ntmps8
      go_wp2_with fail
      refine (awake1_any w).mono ?_
      rintro e w1 ⟨rfl, hb⟩
      have B1 := Lib.hid hb
      clear hb
      go_wp2
      go_ret
      exact ⟨rfl, B1.out⟩

end Go.Proofs.Ytniedfilhilhhaa
