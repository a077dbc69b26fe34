/- CodecMany, walked. -/
import Derived.Test.YtniedfilhilhhaaAwake1
import Derived.Test.YtniedfilhilhhaaManyPlain
namespace Go.Proofs.Ytniedfilhilhhaa
open Go.RowKit

theorem info3 : (Try.prog.info? 3).map (fun i => (i.zero, i.size, i.bytes)) = some (some (.int .i64 0), 1, 8) := by kernel_rfl

theorem own_own_ne {w : World} {b1 b2 : Nat} {e1 e2 : TypeId} {s1 s2 n1 n2 : Nat} {v1 v2 : Value} {x1 x2 : List Value} (h1 : w.ownsRow b1 e1 s1 v1 n1 x1) (h2 : w.ownsRow b2 e2 s2 v2 n2 x2) (hne : e1 ≠ e2) {k : Nat} (hk : v1.ownBlock = some k) : v2.ownBlock ≠ some k := by
  rcases h1.2 with ⟨rfl, _⟩ | ⟨g', cap, cur, rfl, _, hh, _⟩
  · simp [Value.ownBlock] at hk
  · have : g' = k := by simpa [Value.ownBlock] using hk
    subst this
    exact own_blk_ne h2 hh (Ne.symm hne)

theorem own_addr {w : World} {B : Nat} {e : TypeId} {size n c : Nat} {A : Option Addr} {xs : List Value} (h : w.ownsRow B e size (.slice A n c) n xs) (hn : 0 < n) : ∃ g, A = some ⟨g, 0, none⟩ := by
  obtain ⟨g, cap, hv, _, _⟩ := h.form hn
  injection hv with hA
  exact ⟨g, hA⟩

theorem own_cap {w : World} {B : Nat} {e : TypeId} {size n c : Nat} {A : Option Addr} {v : Value} {xs : List Value} (h : w.ownsRow B e size v n xs) (hv : v = .slice A n c) : n ≤ c := by
  obtain ⟨_, _, h1, h2⟩ := own_shape h
  rw [hv] at h1
  injection h1 with _ _ h1
  rw [h1]
  exact h2

theorem new_calls (w : World) (Q : Nat → Prop) (A : Option Addr) (c n : Nat) (bs : List UInt8) (hn : bs.length = n) (hr : Lies w Q A (bs.map bv)) (hb : bs.length ≤ room) :
    Calls Try.prog 34 #[.slice A n c] w (Opened w bs) := by
  subst hn
  exact new_any w Q A c bs hr hb

/-- A number as a cell. -/
abbrev uv (x : Nat) : Value := .int .u64 (x : Int)
/-- Where the numbers end. -/
def endsOf (l : List Nat) (i : Nat) : List Value := (List.range i).map fun j => .int .i64 ((enc (l.take (j + 1))).length : Int)

theorem endsOf_succ (l : List Nat) (i : Nat) : endsOf l (i + 1) = endsOf l i ++ [.int .i64 ((enc (l.take (i + 1))).length : Int)] := by
  simp [endsOf, List.range_succ]

set_option maxRecDepth 100000 in
set_option maxHeartbeats 800000 in
theorem many_walk (w : World) (A : Option Addr) (c : Nat) (l : List Nat) (a : Nat) (h : Lies w (fun _ => True) A (l.map uv)) (hx : ∀ x ∈ l, x < 18446744073709551616) (ha : a < 65536) :
    Calls Try.prog 7 #[.slice A l.length c, .int .u16 (a : Int)] w fun e w' => e = .returned (.bool true) ∧ Below w.heap.size w w' := by
  have HL := Lib.hid h
  have HX := Lib.hid hx
  clear h hx
  obtain ⟨i3, hi3, hz3, hz4, hz5⟩ := info_parts info3
  by_cases hlen : l.length ≤ 40
  · go_enter Try.func7, Try.ntmps7
    go_wp2_with fail
    refine (awake1_any w).mono ?_
    rintro e w1 ⟨rfl, hb⟩
    have B1 := Lib.hid hb
    clear hb
    go_wp2_with fail
    refine (wnew_any w1).mono ?_
    rintro e w2 ⟨g, rfl, hg, hw2, hb2⟩
    have W2 : Hid (Wr w2 w.heap.size g (.slice none 0 0) []) := ⟨hw2.1, own_base hw2.2.1 B1.out.size, Nat.le_trans B1.out.size hg⟩
    have B2 := Lib.hid (B1.out.trans (hb2.mono B1.out.size))
    clear hw2 hb2 hg
    go_wp2
    go_loopw [7, 8] (fun v7 v8 wr => ∃ (i : Nat) (A7 : Option Addr) (c7 : Nat) (v : Value), i ≤ l.length ∧ v8 = .int .i64 i ∧ v7 = .slice A7 i c7 ∧ Hid (Wr wr w.heap.size g v (enc (l.take i))) ∧ Hid (wr.ownsRow w.heap.size 3 1 (.slice A7 i c7) i (endsOf l i)) ∧ Hid (Below w.heap.size w wr)) (fun _ v8 _ => l.length - (intOf v8).toNat)
    case atStart => exact ⟨0, none, 0, .slice none 0 0, Nat.zero_le _, rfl, rfl, W2, World.ownsRow_nil _ _ _ _, B2⟩
    case round =>
      obtain ⟨i, A7, c7, v, hi, rfl, rfl, hW, hO, hB⟩ := hrel
      by_cases hlt : i < l.length
      · obtain ⟨ad, rfl, had, _, hcell⟩ := HL.out (by intro e; rw [List.map_eq_nil_iff] at e; rw [e] at hlt; simp at hlt)
        have hci : wr.cell? (ad.add i) = some (uv l[i]) := (hB.out.cell (p := ad.add i) (by rw [blk_add]; exact had)).trans (hcell i (uv l[i]) (by simp [hlt]))
        have HXI : Hid (l[i] < 18446744073709551616) := HX.out _ (List.getElem_mem hlt)
        have HE : Hid ((enc (l.take i)).length ≤ 400) := by
          have h1 := enc_len (l.take i) (fun x hx => HX.out x (List.mem_of_mem_take hx))
          have h2 : (l.take i).length ≤ 40 := by rw [List.length_take]; omega
          unfold Hid
          omega
        have HS : Hid (enc (l.take (i + 1)) = enc (l.take i) ++ put l[i]) := enc_snoc l i hlt
        have HP := Lib.hid (put_ten HXI.out)
        clear hcell had
        go_wp2_with fail
        refine (wuint_any wr w.heap.size g v _ l[i] hW.out HXI (room_small (by have := HE.out; omega))).mono ?_
        rintro e w3 ⟨rfl, v3, hw3, hc3, ho3⟩
        have W3 : Hid (Wr w3 w.heap.size g v3 (enc (l.take (i + 1)))) := by have := hw3; rw [← HS.out] at this; exact this
        have B3 := Lib.hid (below_chg hB.out hc3 (fun i _ h => hW.out.own_lt i h) hB.out.size)
        have O3 := Lib.hid (own_chg hO.out hc3 (fun k hk h => by
          rcases h with h | h
          · exact own_blk_ne hO.out hW.out.1 (by decide) (by rw [← h]; exact hk)
          · exact own_own_ne hO.out hW.out.2.1 (by decide) hk h))
        clear hw3 hc3 ho3 hci
        go_wp2_with fail
        refine (wout_any w3 w.heap.size g _ _ W3.out (room_small (by rw [HS.out, List.length_append]; have := HE.out; have := HP.out; omega))).mono ?_
        rintro e w4 ⟨A4, c4, rfl, ho4, hb4⟩
        have hn4 : Chg (fun _ => False) w3 w4 := Chg.new hb4 _
        have W4 := Lib.hid (W3.out.chg hn4 (fun h => h) (fun _ _ h => h))
        have B4 := Lib.hid (B3.out.trans (hb4.mono B3.out.size))
        have O4 := Lib.hid (own_chg O3.out hn4 (fun _ _ h => h))
        clear ho4 hb4 hn4
        go_wp2_with (at_builtin; refine wpList_append_src _ rfl (.tmp 33) (.tmp 37) 71 rfl w.heap.size 3 i3 (.int .i64 0) 1 8 Try.underlying71 hi3 hz3 hz4 hz5 rfl (by decide) _ i (endsOf l i) rfl (O4.out.alloc _) (fun i => i = w4.heap.size) (some ⟨w4.heap.size, 0, none⟩) 1 1 [.int .i64 ((enc (l.take (i + 1))).length : Int)] rfl rfl (Lies.single _ _ _) ?a1 ?a3 ?a4 ?a5 ?_)
        case a1 => intro u hu; simp at hu; subst hu; rfl
        case a3 => unfold maxLen; omega
        case a4 => omega
        case a5 => have := B4.out.size; simp; omega
        intro A' c' w5 hown hgrow hat
        have O5 : Hid (w5.ownsRow w.heap.size 3 1 (.slice A' (i + 1) c') (i + 1) (endsOf l (i + 1))) := by rw [endsOf_succ]; exact hown
        have hg5 : Chg (fun k => Value.ownBlock (.slice A7 i c7) = some k) (w4.alloc (.cells #[.int .i64 ((enc (l.take (i + 1))).length : Int)] 3)) w5 := Chg.grown hgrow (fun k h => h.symm)
        have W4' : Wr (w4.alloc (.cells #[.int .i64 ((enc (l.take (i + 1))).length : Int)] 3)) w.heap.size g v3 (enc (l.take (i + 1))) := W4.out.chg ((Chg.refl (fun _ => False) w4).alloc _) (fun h => h) (fun _ _ h => h)
        have O4' := O4.out.alloc (.cells #[.int .i64 ((enc (l.take (i + 1))).length : Int)] 3)
        have W5 := Lib.hid (W4'.chg hg5 (fun h => own_blk_ne O4' W4'.1 (by decide) h) (fun k hk h => own_own_ne O4' W4'.2.1 (by decide) h hk))
        have B5 := Lib.hid (below_chg (B4.out.alloc B4.out.size _) hg5 (fun k _ h => (O4'.lt k h).1) (B4.out.alloc B4.out.size _).size)
        clear hown hgrow hat hg5 W4' O4'
        go_wp2
        go_roundw
        case rel => exact ⟨i + 1, A', c', v3, by omega, by go_num, rfl, W5, O5, B5⟩
        case measure => simp [intOf]; omega
      · have hil : i = l.length := by omega
        have hend : enc (l.take i) = enc l := by rw [hil, List.take_length]
        rw [hend] at hW
        have HI := Lib.hid hil
        have HE : Hid ((enc l).length ≤ 400) := by have := enc_len l HX.out; unfold Hid; omega
        clear hend hil
        go_wp2_with fail
        refine (wout_any wr w.heap.size g _ _ hW.out (room_small (by have := HE.out; omega))).mono ?_
        rintro e w3 ⟨A9, c9, rfl, ho3, hb3⟩
        have hn3 : Chg (fun _ => False) wr w3 := Chg.new hb3 _
        have B3 := Lib.hid (hB.out.trans (hb3.mono hB.out.size))
        have O3 := Lib.hid (own_chg hO.out hn3 (fun _ _ h => h))
        have L3 := Lib.hid (Lies.of_own (Q := fun i => wr.heap.size ≤ i) ho3 rfl (fun k hk => (ho3.lt k hk).1))
        have hc9 : (enc l).length ≤ c9 := own_cap ho3 rfl
        have hle : (enc l).length ≤ 400 := HE.out
        obtain ⟨K, hK⟩ : ∃ K, a % ((enc l).length + 1) = K := ⟨_, rfl⟩
        have hKl : K ≤ (enc l).length := by have := Nat.mod_lt a (Nat.succ_pos (enc l).length); rw [Nat.succ_eq_add_one] at this; omega
        have hmod : (a : Int) % (((enc l).length : Int) + 1) = (K : Int) := by rw [← hK]; simp
        clear ho3 hb3 hn3 hK
        go_wp2_with fail
        refine (new_calls w3 _ A9 c9 K ((enc l).take K) (by rw [List.length_take]; omega) (by rw [List.map_take]; exact L3.out.take K) (room_small (by rw [List.length_take]; have := HE.out; omega))).mono ?_
        rintro e w4 ⟨r, rfl, hr, hrd, hb4⟩
        rw [← rest_zero] at hrd
        have R4 := Lib.hid hrd
        have B4 := Lib.hid (B3.out.trans (hb4.mono B3.out.size))
        have O4 := Lib.hid (own_chg O3.out (Chg.new hb4 (fun _ => False)) (fun _ _ h => h))
        have HR : Hid (w.heap.size ≤ r) := Nat.le_trans B3.out.size hr
        have HI2 : Hid (i = l.length) := HI.out
        clear hrd hb4 hr
        go_wp2
        go_loopw [12, 13] (fun v12 _ wr => ∃ (j : Nat), j ≤ l.length ∧ v12 = .int .i64 j ∧ Hid ((enc (l.take j)).length ≤ K) ∧ Hid (∃ Q, Rd wr Q r ⟨rest l K j, 0⟩) ∧ Hid (wr.ownsRow w.heap.size 3 1 (.slice A7 i c7) i (endsOf l i)) ∧ Hid (Below w.heap.size w wr)) (fun v12 _ _ => l.length - (intOf v12).toNat)
        case atStart => exact ⟨0, Nat.zero_le _, rfl, Nat.zero_le _, ⟨_, R4.out⟩, O4, B4⟩
        case round =>
          obtain ⟨j, hj, rfl, hK, hR, hO, hB⟩ := hrel
          obtain ⟨Q, hR⟩ := hR
          have hRd := Lib.hid hR
          clear hR
          by_cases hjl : j < l.length
          · obtain ⟨ad, rfl, had, _, hcell⟩ := HL.out (by intro e; rw [List.map_eq_nil_iff] at e; rw [e] at hjl; simp at hjl)
            have hci : ∀ W : World, Hid (Below w.heap.size w W) → W.cell? (ad.add j) = some (uv l[j]) := fun W hb => (hb.out.cell (p := ad.add j) (by rw [blk_add]; exact had)).trans (hcell j (uv l[j]) (by simp [hjl]))
            have HCI := Lib.hid hci
            have HXJ : Hid (l[j] < 18446744073709551616) := HX.out _ (List.getElem_mem hjl)
            obtain ⟨g7, rfl⟩ := own_addr hO.out (by omega)
            have hend : ∀ W : World, Hid (W.ownsRow w.heap.size 3 1 (.slice (some ⟨g7, 0, none⟩) i c7) i (endsOf l i)) → W.cell? ⟨g7, j, none⟩ = some (.int .i64 ((enc (l.take (j + 1))).length : Int)) := fun W ho => by
              have := ho.out.cells (g := g7) rfl j (.int .i64 ((enc (l.take (j + 1))).length : Int)) (by rw [HI2.out]; simp [endsOf, hjl])
              rwa [add_none, Nat.zero_add] at this
            have HEN := Lib.hid hend
            clear hcell had hci hend
            by_cases hw : (enc (l.take (j + 1))).length ≤ K
            · have hu := rest_whole hjl HXJ.out hw
              have HU := Lib.hid hu
              clear hu
              go_wp2_with fail
              refine (uint_any wr _ r _ hRd.out).mono ?_
              rw [HU.out]
              rintro e w5 ⟨rfl, hr5, hc5⟩
              have R5 := Lib.hid hr5
              have B5 := Lib.hid (below_chg hB.out hc5 (fun i _ h => by rw [h]; exact HR.out) hB.out.size)
              have O5 := Lib.hid (own_chg hO.out hc5 (fun k hk h => by
                obtain ⟨A6, c6, hb6, _⟩ := hRd.out
                exact own_blk_ne hO.out hb6 (by decide) (by rw [← h]; exact hk)))
              have k1 := HCI.out w5 B5
              have k2 := HEN.out w5 O5
              clear hr5 hc5
              go_wp2_with (go_at_call 40; refine (err_any w5 _ r _ R5.out).mono ?_; rintro e w' ⟨rfl, rfl⟩)
              go_roundw
              case rel => exact ⟨j + 1, by omega, by go_num, hw, ⟨Q, R5.out⟩, O5, B5⟩
              case measure => simp [intOf]; omega
            · have hu := rest_cut hjl HXJ.out hK.out (by omega)
              have HU := Lib.hid hu
              have hfin : (RS.mk [] 10).fin = 10 := by rfl
              have HF := Lib.hid hfin
              clear hu hfin
              go_wp2_with fail
              refine (uint_any wr _ r _ hRd.out).mono ?_
              rw [HU.out]
              rintro e w5 ⟨rfl, hr5, hc5⟩
              have R5 := Lib.hid hr5
              have B5 := Lib.hid (below_chg hB.out hc5 (fun i _ h => by rw [h]; exact HR.out) hB.out.size)
              have O5 := Lib.hid (own_chg hO.out hc5 (fun k hk h => by
                obtain ⟨A6, c6, hb6, _⟩ := hRd.out
                exact own_blk_ne hO.out hb6 (by decide) (by rw [← h]; exact hk)))
              have k2 := HEN.out w5 O5
              clear hr5 hc5
              go_wp2_with (first | (go_at_call 40; refine (err_any w5 _ r _ R5.out).mono ?_; rintro e w' ⟨rfl, rfl⟩) | (go_at_call 39; refine (end_any w5 _ r _ R5.out).mono ?_; rw [HF.out]; rintro e w' ⟨rfl, rfl⟩))
              go_ret
              exact ⟨rfl, B5.out⟩
          · have hfin : (RS.mk (rest l K j) 0).fin = 0 := by
              have : j = l.length := by omega
              rw [this, rest_end]
              rfl
            have HF := Lib.hid hfin
            clear hfin
            go_wp2_with (go_at_call 39; refine (end_any wr _ r _ hRd.out).mono ?_; rw [HF.out]; rintro e w' ⟨rfl, rfl⟩)
            go_ret
            exact ⟨rfl, hB.out⟩
  · go_enter Try.func7, Try.ntmps7
    go_wp2_with fail
    refine (awake1_any w).mono ?_
    rintro e w1 ⟨rfl, hb⟩
    have B1 := Lib.hid hb
    clear hb
    go_wp2
    go_ret
    exact ⟨rfl, B1.out⟩

end Go.Proofs.Ytniedfilhilhhaa
