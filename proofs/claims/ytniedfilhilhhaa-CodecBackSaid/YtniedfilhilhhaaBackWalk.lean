/- CodecBack, walked: the first loop. -/
import Derived.Test.YtniedfilhilhhaaAwake1
import Derived.Test.YtniedfilhilhhaaBackPlain
import Derived.Test.YtniedfilhilhhaaRef2
import Derived.Test.YtniedfilhilhhaaMade
import Derived.Deep.RegionHeld3
namespace Go.Proofs.Ytniedfilhilhhaa
open Go.RowKit

/-- The i-th part that came in, as it lies at ad. -/
def PartAt (w : World) (ad : Addr) (i : Nat) (p : PartS) : Prop :=
  ∃ (k : Int) (B : Option Addr) (c : Nat), w.cell? (ad.add (i * 3)) = some (.int .i64 k) ∧ w.cell? ⟨(ad.add (i * 3)).block, (ad.add (i * 3)).off + 1, none⟩ = some (.int .u64 (p.x : Int)) ∧ w.cell? ⟨(ad.add (i * 3)).block, (ad.add (i * 3)).off + 2, none⟩ = some (.slice B p.b.length c) ∧
    Lies w (fun _ => True) B (p.b.map bv) ∧ bits .and .i64 k 3 = (p.q : Int) ∧ p.q < 4
def PartsAt (w : World) (A : Option Addr) (l : List PartS) : Prop := ∀ i (h : i < l.length), ∃ ad, A = some ad ∧ ad.block < w.heap.size ∧ PartAt w ad i l[i]

theorem PartAt.below {w W : World} {ad : Addr} {i : Nat} {p : PartS} (h : PartAt w ad i p) (had : ad.block < w.heap.size) (hb : Below w.heap.size w W) : PartAt W ad i p := by
  obtain ⟨k, B, c, h1, h2, h3, h4, h5, h6⟩ := h
  refine ⟨k, B, c, (hb.cell (p := ad.add (i * 3)) (by rw [blk_add]; exact had)).trans h1, (hb.cell (p := ⟨(ad.add (i * 3)).block, (ad.add (i * 3)).off + 1, none⟩) (by show (ad.add (i * 3)).block < _; rw [blk_add]; exact had)).trans h2, (hb.cell (p := ⟨(ad.add (i * 3)).block, (ad.add (i * 3)).off + 2, none⟩) (by show (ad.add (i * 3)).block < _; rw [blk_add]; exact had)).trans h3, h4.chg (Chg.new hb (fun _ => False)) (fun _ _ h => h), h5, h6⟩

theorem and_one_u64 {x : Nat} (h : x < 18446744073709551616) : bits .and .u64 (x : Int) 1 = ((x % 2 : Nat) : Int) := by
  rw [show (1 : Int) = ((1 : Nat) : Int) from rfl, u64_and_nat x 1 h (by decide), nat_mask1]

set_option maxRecDepth 100000 in
set_option maxHeartbeats 6400000 in
theorem back_walk (w : World) (A : Option Addr) (c : Nat) (l : List PartS) (h : PartsAt w A l) (hx : ∀ p ∈ l, p.x < 18446744073709551616) :
    Calls Try.prog 5 #[.slice A l.length c] w fun e w' => e = .returned (.bool true) ∧ Below w.heap.size w w' := by
  have HL := Lib.hid h
  have HX := Lib.hid hx
  clear h hx
  by_cases hlen : l.length ≤ 30
  · go_enter Try.func5, Try.ntmps5
    go_wp2_with fail
    refine (awake1_any w).mono ?_
    rintro e w1 ⟨rfl, hb⟩
    have B1 := Lib.hid hb
    clear hb
    go_wp2_with fail
    refine (wnew_any w1).mono ?_
    rintro e w2 ⟨g, rfl, hg, hw2, hb2⟩
    have W2 : Hid (Wr w2 w.heap.size g (.slice none 0 0) []) := ⟨hw2.1, own_base hw2.2.1 B1.out.size, Nat.le_trans B1.out.size hg⟩
    have B2 := Lib.hid (B1.out.trans (hb2.mono B1.out.size))
    clear hw2 hb2 hg
    go_wp2
    go_loopw [5, 6] (fun v5 v6 wr => ∃ (i : Nat) (v : Value), i ≤ l.length ∧ v6 = .int .i64 i ∧ v5 = .string ⟨(codes (l.take i)).toArray⟩ ∧ Hid (Wr wr w.heap.size g v (codes (l.take i))) ∧ Hid (Below w.heap.size w wr) ∧ Hid (∀ p ∈ l.take i, p.b.length ≤ 200)) (fun _ v6 _ => l.length - (intOf v6).toNat)
    case atStart => exact ⟨0, .slice none 0 0, Nat.zero_le _, rfl, rfl, W2, B2, by unfold Hid; simp⟩
    case round =>
      obtain ⟨i, v, hi, rfl, rfl, hW, hB, hS⟩ := hrel
      by_cases hlt : i < l.length
      · obtain ⟨ad, rfl, had, hp⟩ := HL.out i hlt
        obtain ⟨k, B, cb, p0, p1, p2, hl, hq, hq4⟩ := hp
        have HP : Hid (∀ W : World, Hid (Below w.heap.size w W) → W.cell? (ad.add (i * 3)) = some (.int .i64 k) ∧ W.cell? ⟨(ad.add (i * 3)).block, (ad.add (i * 3)).off + 1, none⟩ = some (.int .u64 (l[i].x : Int)) ∧ W.cell? ⟨(ad.add (i * 3)).block, (ad.add (i * 3)).off + 2, none⟩ = some (.slice B l[i].b.length cb)) :=
          fun W hb => ⟨(hb.out.cell (p := ad.add (i * 3)) (by rw [blk_add]; exact had)).trans p0, (hb.out.cell (p := ⟨(ad.add (i * 3)).block, (ad.add (i * 3)).off + 1, none⟩) (by show (ad.add (i * 3)).block < _; rw [blk_add]; exact had)).trans p1, (hb.out.cell (p := ⟨(ad.add (i * 3)).block, (ad.add (i * 3)).off + 2, none⟩) (by show (ad.add (i * 3)).block < _; rw [blk_add]; exact had)).trans p2⟩
        have HLB := Lib.hid (hl.mono (Q' := fun i => i < w.heap.size) (fun i hi _ => hi))
        have HXI : Hid (l[i].x < 18446744073709551616) := HX.out _ (List.getElem_mem hlt)
        clear p0 p1 p2 hl had
        by_cases hbig : l[i].b.length ≤ 200
        · have HSI : Hid (∀ p ∈ l.take (i + 1), p.b.length ≤ 200) := by
            intro p hp
            rw [List.take_succ_eq_append_getElem hlt, List.mem_append, List.mem_singleton] at hp
            rcases hp with hp | rfl
            · exact hS.out p hp
            · exact hbig
          have hcl : (codes (l.take (i + 1))).length ≤ 6300 := by
            have h1 := codes_len (l.take (i + 1)) (fun p hp => ⟨HX.out p (List.mem_of_mem_take hp), HSI.out p hp⟩)
            have h2 : (l.take (i + 1)).length ≤ 30 := by rw [List.length_take]; omega
            omega
          have hcl0 : (codes (l.take i)).length ≤ 6300 := by rw [codes_snoc l i hlt, List.length_append] at hcl; omega
          have HR1 : Hid ((codes (l.take (i + 1))).length ≤ room) := room_small (by omega)
          have HR0 : Hid ((codes (l.take i)).length + 10 ≤ room) := room_small (by omega)
          have HR2 : Hid ((codes (l.take i)).length + 10 + l[i].b.length ≤ room) := room_small (by omega)
          have HR3 : Hid ((codes (l.take i)).length + 1 ≤ room) := room_small (by omega)
          clear hcl hcl0
          rcases (show l[i].q = 0 ∨ l[i].q = 1 ∨ l[i].q = 2 ∨ l[i].q = 3 by omega) with h0 | h0 | h0 | h0
          · rw [h0] at hq
            have hcd := code_num (p := l[i]) (by omega)
            have HC : Hid (codes (l.take i) ++ put l[i].x = codes (l.take (i + 1))) := by unfold Hid; rw [codes_snoc l i hlt, hcd]
            have hadd := fun W => run_text_add (P := Try.prog) W (codes (l.take i)) (put l[i].x) (codes (l.take (i + 1))) HC.out HR1.out
            clear hcd h0
            obtain ⟨k0, k1, k2⟩ := HP.out wr hB
            go_wp2_with fail
            refine (wuint_any wr w.heap.size g v _ l[i].x hW.out HXI HR0.out).mono ?_
            rintro e w3 ⟨rfl, v3, hw3, hc3, ho3⟩
            have B3 := Lib.hid (below_chg hB.out hc3 (fun i _ h => hW.out.own_lt i h) hB.out.size)
            have W3 : Hid (Wr w3 w.heap.size g v3 (codes (l.take (i + 1)))) := by have := hw3; rw [HC.out] at this; exact this
            clear hw3 hc3 ho3 k0 k1 k2
            obtain ⟨k0, k1, k2⟩ := HP.out w3 B3
            go_wp2_with fail
            refine (rput_any l[i].x w3 HXI).mono ?_
            rintro e w4 ⟨rfl, hb4⟩
            have B4 := Lib.hid (B3.out.trans (hb4.mono B3.out.size))
            have W3' := Lib.hid (W3.out.chg (Chg.new hb4 (fun _ => False)) (fun h => h) (fun _ _ h => h))
            clear hb4
            go_wp2
            go_roundw
            case rel => exact ⟨i + 1, v3, by omega, by go_num, rfl, W3', B4, HSI⟩
            case measure => simp [intOf]; omega
          · rw [h0] at hq
            have hcd := code_num (p := l[i]) (by omega)
            have HC : Hid (codes (l.take i) ++ put l[i].x = codes (l.take (i + 1))) := by unfold Hid; rw [codes_snoc l i hlt, hcd]
            have hadd := fun W => run_text_add (P := Try.prog) W (codes (l.take i)) (put l[i].x) (codes (l.take (i + 1))) HC.out HR1.out
            clear hcd h0
            obtain ⟨k0, k1, k2⟩ := HP.out wr hB
            go_wp2_with fail
            refine (wuint_any wr w.heap.size g v _ l[i].x hW.out HXI HR0.out).mono ?_
            rintro e w3 ⟨rfl, v3, hw3, hc3, ho3⟩
            have B3 := Lib.hid (below_chg hB.out hc3 (fun i _ h => hW.out.own_lt i h) hB.out.size)
            have W3 : Hid (Wr w3 w.heap.size g v3 (codes (l.take (i + 1)))) := by have := hw3; rw [HC.out] at this; exact this
            clear hw3 hc3 ho3 k0 k1 k2
            obtain ⟨k0, k1, k2⟩ := HP.out w3 B3
            go_wp2_with fail
            refine (rput_any l[i].x w3 HXI).mono ?_
            rintro e w4 ⟨rfl, hb4⟩
            have B4 := Lib.hid (B3.out.trans (hb4.mono B3.out.size))
            have W3' := Lib.hid (W3.out.chg (Chg.new hb4 (fun _ => False)) (fun h => h) (fun _ _ h => h))
            clear hb4
            go_wp2
            go_roundw
            case rel => exact ⟨i + 1, v3, by omega, by go_num, rfl, W3', B4, HSI⟩
            case measure => simp [intOf]; omega
          · rw [h0] at hq
            have hcd := code_bytes h0
            have HC : Hid (codes (l.take i) ++ put l[i].b.length ++ l[i].b = codes (l.take (i + 1))) := by unfold Hid; rw [codes_snoc l i hlt, hcd, List.append_assoc]
            have hadd := fun W => run_text_add (P := Try.prog) W (codes (l.take i)) (put l[i].b.length ++ l[i].b) (codes (l.take (i + 1))) (by rw [← List.append_assoc]; exact HC.out) HR1.out
            clear hcd h0
            obtain ⟨k0, k1, k2⟩ := HP.out wr hB
            go_wp2_with fail
            refine (wbytes_any wr (fun i => i < w.heap.size) w.heap.size g v _ l[i].b B cb hW.out (HLB.out.chg (Chg.new hB.out (fun _ => False)) (fun _ _ h => h)) (fun k hk h => by have := hW.out.own_lt k h; omega) HR2.out).mono ?_
            rintro e w3 ⟨rfl, v3, hw3, hc3, ho3⟩
            have B3 := Lib.hid (below_chg hB.out hc3 (fun i _ h => hW.out.own_lt i h) hB.out.size)
            have W3 : Hid (Wr w3 w.heap.size g v3 (codes (l.take (i + 1)))) := by have := hw3; rw [HC.out] at this; exact this
            clear hw3 hc3 ho3 k0 k1 k2
            obtain ⟨k0, k1, k2⟩ := HP.out w3 B3
            have htx := run_text (P := Try.prog) w3 35 9 5 (fun i => i < w.heap.size) B cb l[i].b Try.underlying35 Try.underlying5 Try.underlying9 (HLB.out.chg (Chg.new B3.out (fun _ => False)) (fun _ _ h => h))
            go_wp2_with fail
            refine (rwith_any w3 l[i].b hbig).mono ?_
            rintro e w4 ⟨rfl, hb4⟩
            have B4 := Lib.hid (B3.out.trans (hb4.mono B3.out.size))
            have W3' := Lib.hid (W3.out.chg (Chg.new hb4 (fun _ => False)) (fun h => h) (fun _ _ h => h))
            clear hb4 htx
            go_wp2
            go_roundw
            case rel => exact ⟨i + 1, v3, by omega, by go_num, rfl, W3', B4, HSI⟩
            case measure => simp [intOf]; omega
          · rw [h0] at hq
            have hcd := code_flag h0
            clear h0
            rcases (show l[i].x % 2 = 1 ∨ l[i].x % 2 = 0 by omega) with hbit | hbit
            · have hx1 : bits .and .u64 (l[i].x : Int) 1 = 1 := by rw [and_one_u64 HXI.out, hbit]; rfl
              have HC : Hid (codes (l.take i) ++ ([bit true] ++ l[i].b) = codes (l.take (i + 1))) := by unfold Hid; rw [codes_snoc l i hlt, hcd, hbit]; rfl
              have hadd2 := fun W => run_text_add (P := Try.prog) W [bit true] l[i].b (bit true :: l[i].b) rfl (by have := hbig; unfold room; simp; omega)
              have hadd := fun W => run_text_add (P := Try.prog) W (codes (l.take i)) (bit true :: l[i].b) (codes (l.take (i + 1))) HC.out HR1.out
              have hwv : IntKind.u8.wrap 1 = 1 := by rfl
              clear hcd hbit
              obtain ⟨k0, k1, k2⟩ := HP.out wr hB
              go_wp2_with fail
              refine (wbool_any wr w.heap.size g v _ true hW.out HR3.out).mono ?_
              rintro e w3 ⟨rfl, v3, hw3, hc3, ho3⟩
              have B3 := Lib.hid (below_chg hB.out hc3 (fun i _ h => hW.out.own_lt i h) hB.out.size)
              have W3 := Lib.hid hw3
              clear hw3 hc3 ho3 k0 k1 k2
              obtain ⟨k0, k1, k2⟩ := HP.out w3 B3
              go_wp2_with fail
              refine (wfixed_any w3 (fun i => i < w.heap.size) w.heap.size g v3 _ l[i].b B cb W3.out (HLB.out.chg (Chg.new B3.out (fun _ => False)) (fun _ _ h => h)) (by rw [List.length_append]; have := HR2.out; simp; omega)).mono ?_
              rintro e w4 ⟨rfl, v4, hw4, hc4, ho4⟩
              have B4 := Lib.hid (below_chg B3.out hc4 (fun i _ h => W3.out.own_lt i h) B3.out.size)
              have W4 : Hid (Wr w4 w.heap.size g v4 (codes (l.take (i + 1)))) := by have := hw4; rw [List.append_assoc, HC.out] at this; exact this
              have B4d : Hid (Below w.heap.size w w4.drew) := B4.out.drew
              have HS : Hid (∀ W : World, Hid (Below w.heap.size w W) → W.cell? ⟨(ad.add (i * 3)).block, (ad.add (i * 3)).off + 1, none⟩ = some (.int .u64 (l[i].x : Int)) ∧ W.cell? ⟨(ad.add (i * 3)).block, (ad.add (i * 3)).off + 2, none⟩ = some (.slice B l[i].b.length cb) ∧ (convert 35 9 (.slice B l[i].b.length cb)).run Try.prog W = .ok (.string ⟨l[i].b.toArray⟩) W) :=
                fun W hb => ⟨(HP.out W hb).2.1, (HP.out W hb).2.2, run_text (P := Try.prog) W 35 9 5 (fun i => i < w.heap.size) B cb l[i].b Try.underlying35 Try.underlying5 Try.underlying9 (HLB.out.chg (Chg.new hb.out (fun _ => False)) (fun _ _ h => h))⟩
              clear hw4 hc4 ho4 k0 k1 k2
              go_wp2_with fail
              refine wp_region_held_drew (S := fun w' => w'.cell? ⟨(ad.add (i * 3)).block, (ad.add (i * 3)).off + 1, none⟩ = some (.int .u64 (l[i].x : Int)) ∧ w'.cell? ⟨(ad.add (i * 3)).block, (ad.add (i * 3)).off + 2, none⟩ = some (.slice B l[i].b.length cb) ∧ (convert 35 9 (.slice B l[i].b.length cb)).run Try.prog w' = .ok (.string ⟨l[i].b.toArray⟩) w') (by kernel_rfl) (HS.out _ B4d) (fun hHeld => ?_)
              refine wpAnyH_take (i := 0) (v := ?_) rfl (by kernel_rfl) (by kernel_rfl) (by kernel_rfl) (fun _ _ _ h => h) (Or.inl ⟨by kernel_rfl, ?_⟩) (by assumption) ?_
              rotate_left
              · (intro w hSw; go_split_ands; go_simp; with_reducible rfl)
              simp only [Act.put, List.setIfInBounds_toArray]
              refine wpAnyH_take (i := 1) (v := ?_) rfl (by kernel_rfl) (by kernel_rfl) (by kernel_rfl) (fun _ _ _ h => h) (Or.inl ⟨by kernel_rfl, ?_⟩) (by assumption) ?_
              rotate_left
              · (intro w hSw; go_split_ands; go_simp; with_reducible rfl)
              simp only [Act.put]
              refine wpAnyH_take (i := 2) (v := ?_) rfl (by kernel_rfl) (by kernel_rfl) (by kernel_rfl) (fun _ _ _ h => h) (Or.inl ⟨by kernel_rfl, ?_⟩) (by assumption) ?_
              rotate_left
              · (intro w hSw; go_split_ands; go_simp; with_reducible rfl)
              simp only [Act.put]
              refine wpAnyH_take (i := 3) (v := ?_) rfl (by kernel_rfl) (by kernel_rfl) (by kernel_rfl) (fun _ _ _ h => h) (Or.inl ⟨by kernel_rfl, ?_⟩) (by assumption) ?_
              rotate_left
              · (intro w hSw; go_split_ands; go_simp; with_reducible rfl)
              simp only [Act.put]
              refine wpAnyH_take (i := 4) (v := ?_) rfl (by kernel_rfl) (by kernel_rfl) (by kernel_rfl) (fun _ _ _ h => h) (Or.inl ⟨by kernel_rfl, ?_⟩) (by assumption) ?_
              rotate_left
              · (intro w hSw; go_split_ands; go_simp; with_reducible rfl)
              simp only [Act.put]
              refine wpAnyH_take (i := 5) (v := ?_) rfl (by kernel_rfl) (by kernel_rfl) (by kernel_rfl) (fun _ _ _ h => h) (Or.inl ⟨by kernel_rfl, ?_⟩) (by assumption) ?_
              rotate_left
              · (intro w hSw; go_split_ands; go_simp; with_reducible rfl)
              simp only [Act.put]
              refine wpAnyH_take (i := 6) (v := ?_) rfl (by kernel_rfl) (by kernel_rfl) (by kernel_rfl) (fun _ _ _ h => h) (Or.inl ⟨by kernel_rfl, ?_⟩) (by assumption) ?_
              rotate_left
              · (intro w hSw; go_split_ands; go_simp; with_reducible rfl)
              simp only [Act.put]
              refine wpAnyH_take (i := 7) (v := ?_) rfl (by kernel_rfl) (by kernel_rfl) (by kernel_rfl) (fun _ _ _ h => h) (Or.inl ⟨by kernel_rfl, ?_⟩) (by assumption) ?_
              rotate_left
              · (intro w hSw; go_split_ands; go_simp; with_reducible rfl)
              simp only [Act.put]
              refine wpAnyH_take (i := 10) (v := ?_) rfl (by kernel_rfl) (by kernel_rfl) (by kernel_rfl) (fun _ _ _ h => h) (Or.inl ⟨by kernel_rfl, ?_⟩) (by assumption) ?_
              rotate_left
              · (intro w hSw; go_split_ands; go_simp; with_reducible rfl)
              simp only [Act.put]
              refine wpAnyH_take (i := 11) (v := ?_) rfl (by kernel_rfl) (by kernel_rfl) (by kernel_rfl) (fun _ _ _ h => h) (Or.inl ⟨by kernel_rfl, ?_⟩) (by assumption) ?_
              rotate_left
              · (intro w hSw; go_split_ands; go_simp; with_reducible rfl)
              simp only [Act.put]
              refine wpAnyH_take (i := 12) (v := ?_) rfl (by kernel_rfl) (by kernel_rfl) (by kernel_rfl) (fun _ _ _ h => h) (Or.inl ⟨by kernel_rfl, ?_⟩) (by assumption) ?_
              rotate_left
              · (intro w hSw; go_split_ands; go_simp; with_reducible rfl)
              simp only [Act.put]
              refine wpAnyH_take (i := 13) (v := ?_) rfl (by kernel_rfl) (by kernel_rfl) (by kernel_rfl) (fun _ _ _ h => h) (Or.inl ⟨by kernel_rfl, ?_⟩) (by assumption) ?_
              rotate_left
              · (intro w hSw; go_split_ands; go_simp; with_reducible rfl)
              simp only [Act.put]
              refine wpAnyH_take (i := 14) (v := ?_) rfl (by kernel_rfl) (by kernel_rfl) (by kernel_rfl) (fun _ _ _ h => h) (Or.inl ⟨by kernel_rfl, ?_⟩) (by assumption) ?_
              rotate_left
              · (intro w hSw; go_split_ands; go_simp; with_reducible rfl)
              simp only [Act.put]
              refine wpAnyH_take (i := 15) (v := ?_) rfl (by kernel_rfl) (by kernel_rfl) (by kernel_rfl) (fun _ _ _ h => h) (Or.inl ⟨by kernel_rfl, ?_⟩) (by assumption) ?_
              rotate_left
              · (intro w hSw; go_split_ands; go_simp; with_reducible rfl)
              simp only [Act.put]
              refine wpAnyH_ready (rs := [8]) (by kernel_rfl) (by simp) ?_
              refine AllReadyH.cons rfl (fun K hK => ?_) AllReadyH.nil
              go_simp
              have B5 : Hid (Below w.heap.size w (w4.alloc (.cells #[.int .u8 1] 5)).drew) := (B4.out.alloc B4.out.size _).drew
              refine hK.out _ _ (HS.out _ B5) (fun hHeld => ?_)
              clear hK K
              generalize hW5 : (w4.alloc (.cells #[.int .u8 1] 5)).drew = w5 at B5 hHeld ⊢
              have ht5 : (convert 35 9 (.slice (some ⟨w4.heap.size, 0, none⟩) 1 1)).run Try.prog w5 = .ok (.string ⟨[bit true].toArray⟩) w5 := by rw [← hW5]; exact run_text (P := Try.prog) _ 35 9 5 (fun i => i = w4.heap.size) (some ⟨w4.heap.size, 0, none⟩) 1 [bit true] Try.underlying35 Try.underlying5 Try.underlying9 (Lies.single w4 (bv (bit true)) 5)
              have W5 : Hid (Wr w5 w.heap.size g v4 (codes (l.take (i + 1)))) := by rw [← hW5]; exact W4.out.chg ((Chg.refl (fun _ => False) w4).alloc _).drew (fun h => h) (fun _ _ h => h)
              clear hW5
              refine wpAnyH_ready (rs := [9]) (by kernel_rfl) (by simp) ?_
              refine AllReadyH.cons rfl (fun K hK => ?_) AllReadyH.nil
              go_simp
              refine hK.out _ _ hHeld (fun hHeld => ?_)
              clear hK K
              refine wpAnyH_ready (rs := [16]) (by kernel_rfl) (by simp) ?_
              refine AllReadyH.cons rfl (fun K hK => ?_) AllReadyH.nil
              go_simp
              refine hK.out _ _ hHeld (fun hHeld => ?_)
              clear hK K
              refine wpAnyH_ready (rs := [17]) (by kernel_rfl) (by simp) ?_
              refine AllReadyH.cons rfl (fun K hK => ?_) AllReadyH.nil
              go_simp
              refine hK.out _ _ hHeld (fun hHeld => ?_)
              clear hK K
              refine wpAnyH_ready (rs := [18]) (by kernel_rfl) (by simp) ?_
              refine AllReadyH.cons rfl (fun K hK => ?_) AllReadyH.nil
              go_simp
              refine hK.out _ _ hHeld (fun hHeld => ?_)
              clear hK K
              refine wpAnyH_done (by kernel_rfl) ?_ _
              go_wp2
              go_roundw
              case rel => exact ⟨i + 1, v4, by omega, by go_num, rfl, W5, B5, HSI⟩
              case measure => simp [intOf]; omega
            · have hx1 : bits .and .u64 (l[i].x : Int) 1 = 0 := by rw [and_one_u64 HXI.out, hbit]; rfl
              have HC : Hid (codes (l.take i) ++ ([bit false] ++ l[i].b) = codes (l.take (i + 1))) := by unfold Hid; rw [codes_snoc l i hlt, hcd, hbit]; rfl
              have hadd2 := fun W => run_text_add (P := Try.prog) W [bit false] l[i].b (bit false :: l[i].b) rfl (by have := hbig; unfold room; simp; omega)
              have hadd := fun W => run_text_add (P := Try.prog) W (codes (l.take i)) (bit false :: l[i].b) (codes (l.take (i + 1))) HC.out HR1.out
              have hwv : IntKind.u8.wrap 0 = 0 := by rfl
              clear hcd hbit
              obtain ⟨k0, k1, k2⟩ := HP.out wr hB
              go_wp2_with fail
              refine (wbool_any wr w.heap.size g v _ false hW.out HR3.out).mono ?_
              rintro e w3 ⟨rfl, v3, hw3, hc3, ho3⟩
              have B3 := Lib.hid (below_chg hB.out hc3 (fun i _ h => hW.out.own_lt i h) hB.out.size)
              have W3 := Lib.hid hw3
              clear hw3 hc3 ho3 k0 k1 k2
              obtain ⟨k0, k1, k2⟩ := HP.out w3 B3
              go_wp2_with fail
              refine (wfixed_any w3 (fun i => i < w.heap.size) w.heap.size g v3 _ l[i].b B cb W3.out (HLB.out.chg (Chg.new B3.out (fun _ => False)) (fun _ _ h => h)) (by rw [List.length_append]; have := HR2.out; simp; omega)).mono ?_
              rintro e w4 ⟨rfl, v4, hw4, hc4, ho4⟩
              have B4 := Lib.hid (below_chg B3.out hc4 (fun i _ h => W3.out.own_lt i h) B3.out.size)
              have W4 : Hid (Wr w4 w.heap.size g v4 (codes (l.take (i + 1)))) := by have := hw4; rw [List.append_assoc, HC.out] at this; exact this
              have B4d : Hid (Below w.heap.size w w4.drew) := B4.out.drew
              have HS : Hid (∀ W : World, Hid (Below w.heap.size w W) → W.cell? ⟨(ad.add (i * 3)).block, (ad.add (i * 3)).off + 1, none⟩ = some (.int .u64 (l[i].x : Int)) ∧ W.cell? ⟨(ad.add (i * 3)).block, (ad.add (i * 3)).off + 2, none⟩ = some (.slice B l[i].b.length cb) ∧ (convert 35 9 (.slice B l[i].b.length cb)).run Try.prog W = .ok (.string ⟨l[i].b.toArray⟩) W) :=
                fun W hb => ⟨(HP.out W hb).2.1, (HP.out W hb).2.2, run_text (P := Try.prog) W 35 9 5 (fun i => i < w.heap.size) B cb l[i].b Try.underlying35 Try.underlying5 Try.underlying9 (HLB.out.chg (Chg.new hb.out (fun _ => False)) (fun _ _ h => h))⟩
              clear hw4 hc4 ho4 k0 k1 k2
              go_wp2_with fail
              refine wp_region_held_drew (S := fun w' => w'.cell? ⟨(ad.add (i * 3)).block, (ad.add (i * 3)).off + 1, none⟩ = some (.int .u64 (l[i].x : Int)) ∧ w'.cell? ⟨(ad.add (i * 3)).block, (ad.add (i * 3)).off + 2, none⟩ = some (.slice B l[i].b.length cb) ∧ (convert 35 9 (.slice B l[i].b.length cb)).run Try.prog w' = .ok (.string ⟨l[i].b.toArray⟩) w') (by kernel_rfl) (HS.out _ B4d) (fun hHeld => ?_)
              refine wpAnyH_take (i := 0) (v := ?_) rfl (by kernel_rfl) (by kernel_rfl) (by kernel_rfl) (fun _ _ _ h => h) (Or.inl ⟨by kernel_rfl, ?_⟩) (by assumption) ?_
              rotate_left
              · (intro w hSw; go_split_ands; go_simp; with_reducible rfl)
              simp only [Act.put, List.setIfInBounds_toArray]
              refine wpAnyH_take (i := 1) (v := ?_) rfl (by kernel_rfl) (by kernel_rfl) (by kernel_rfl) (fun _ _ _ h => h) (Or.inl ⟨by kernel_rfl, ?_⟩) (by assumption) ?_
              rotate_left
              · (intro w hSw; go_split_ands; go_simp; with_reducible rfl)
              simp only [Act.put]
              refine wpAnyH_take (i := 2) (v := ?_) rfl (by kernel_rfl) (by kernel_rfl) (by kernel_rfl) (fun _ _ _ h => h) (Or.inl ⟨by kernel_rfl, ?_⟩) (by assumption) ?_
              rotate_left
              · (intro w hSw; go_split_ands; go_simp; with_reducible rfl)
              simp only [Act.put]
              refine wpAnyH_take (i := 3) (v := ?_) rfl (by kernel_rfl) (by kernel_rfl) (by kernel_rfl) (fun _ _ _ h => h) (Or.inl ⟨by kernel_rfl, ?_⟩) (by assumption) ?_
              rotate_left
              · (intro w hSw; go_split_ands; go_simp; with_reducible rfl)
              simp only [Act.put]
              refine wpAnyH_take (i := 4) (v := ?_) rfl (by kernel_rfl) (by kernel_rfl) (by kernel_rfl) (fun _ _ _ h => h) (Or.inl ⟨by kernel_rfl, ?_⟩) (by assumption) ?_
              rotate_left
              · (intro w hSw; go_split_ands; go_simp; with_reducible rfl)
              simp only [Act.put]
              refine wpAnyH_take (i := 5) (v := ?_) rfl (by kernel_rfl) (by kernel_rfl) (by kernel_rfl) (fun _ _ _ h => h) (Or.inl ⟨by kernel_rfl, ?_⟩) (by assumption) ?_
              rotate_left
              · (intro w hSw; go_split_ands; go_simp; with_reducible rfl)
              simp only [Act.put]
              refine wpAnyH_take (i := 6) (v := ?_) rfl (by kernel_rfl) (by kernel_rfl) (by kernel_rfl) (fun _ _ _ h => h) (Or.inl ⟨by kernel_rfl, ?_⟩) (by assumption) ?_
              rotate_left
              · (intro w hSw; go_split_ands; go_simp; with_reducible rfl)
              simp only [Act.put]
              refine wpAnyH_take (i := 7) (v := ?_) rfl (by kernel_rfl) (by kernel_rfl) (by kernel_rfl) (fun _ _ _ h => h) (Or.inl ⟨by kernel_rfl, ?_⟩) (by assumption) ?_
              rotate_left
              · (intro w hSw; go_split_ands; go_simp; with_reducible rfl)
              simp only [Act.put]
              refine wpAnyH_take (i := 10) (v := ?_) rfl (by kernel_rfl) (by kernel_rfl) (by kernel_rfl) (fun _ _ _ h => h) (Or.inl ⟨by kernel_rfl, ?_⟩) (by assumption) ?_
              rotate_left
              · (intro w hSw; go_split_ands; go_simp; with_reducible rfl)
              simp only [Act.put]
              refine wpAnyH_take (i := 11) (v := ?_) rfl (by kernel_rfl) (by kernel_rfl) (by kernel_rfl) (fun _ _ _ h => h) (Or.inl ⟨by kernel_rfl, ?_⟩) (by assumption) ?_
              rotate_left
              · (intro w hSw; go_split_ands; go_simp; with_reducible rfl)
              simp only [Act.put]
              refine wpAnyH_take (i := 12) (v := ?_) rfl (by kernel_rfl) (by kernel_rfl) (by kernel_rfl) (fun _ _ _ h => h) (Or.inl ⟨by kernel_rfl, ?_⟩) (by assumption) ?_
              rotate_left
              · (intro w hSw; go_split_ands; go_simp; with_reducible rfl)
              simp only [Act.put]
              refine wpAnyH_take (i := 13) (v := ?_) rfl (by kernel_rfl) (by kernel_rfl) (by kernel_rfl) (fun _ _ _ h => h) (Or.inl ⟨by kernel_rfl, ?_⟩) (by assumption) ?_
              rotate_left
              · (intro w hSw; go_split_ands; go_simp; with_reducible rfl)
              simp only [Act.put]
              refine wpAnyH_take (i := 14) (v := ?_) rfl (by kernel_rfl) (by kernel_rfl) (by kernel_rfl) (fun _ _ _ h => h) (Or.inl ⟨by kernel_rfl, ?_⟩) (by assumption) ?_
              rotate_left
              · (intro w hSw; go_split_ands; go_simp; with_reducible rfl)
              simp only [Act.put]
              refine wpAnyH_take (i := 15) (v := ?_) rfl (by kernel_rfl) (by kernel_rfl) (by kernel_rfl) (fun _ _ _ h => h) (Or.inl ⟨by kernel_rfl, ?_⟩) (by assumption) ?_
              rotate_left
              · (intro w hSw; go_split_ands; go_simp; with_reducible rfl)
              simp only [Act.put]
              refine wpAnyH_ready (rs := [8]) (by kernel_rfl) (by simp) ?_
              refine AllReadyH.cons rfl (fun K hK => ?_) AllReadyH.nil
              go_simp
              have B5 : Hid (Below w.heap.size w (w4.alloc (.cells #[.int .u8 0] 5)).drew) := (B4.out.alloc B4.out.size _).drew
              refine hK.out _ _ (HS.out _ B5) (fun hHeld => ?_)
              clear hK K
              generalize hW5 : (w4.alloc (.cells #[.int .u8 0] 5)).drew = w5 at B5 hHeld ⊢
              have ht5 : (convert 35 9 (.slice (some ⟨w4.heap.size, 0, none⟩) 1 1)).run Try.prog w5 = .ok (.string ⟨[bit false].toArray⟩) w5 := by rw [← hW5]; exact run_text (P := Try.prog) _ 35 9 5 (fun i => i = w4.heap.size) (some ⟨w4.heap.size, 0, none⟩) 1 [bit false] Try.underlying35 Try.underlying5 Try.underlying9 (Lies.single w4 (bv (bit false)) 5)
              have W5 : Hid (Wr w5 w.heap.size g v4 (codes (l.take (i + 1)))) := by rw [← hW5]; exact W4.out.chg ((Chg.refl (fun _ => False) w4).alloc _).drew (fun h => h) (fun _ _ h => h)
              clear hW5
              refine wpAnyH_ready (rs := [9]) (by kernel_rfl) (by simp) ?_
              refine AllReadyH.cons rfl (fun K hK => ?_) AllReadyH.nil
              go_simp
              refine hK.out _ _ hHeld (fun hHeld => ?_)
              clear hK K
              refine wpAnyH_ready (rs := [16]) (by kernel_rfl) (by simp) ?_
              refine AllReadyH.cons rfl (fun K hK => ?_) AllReadyH.nil
              go_simp
              refine hK.out _ _ hHeld (fun hHeld => ?_)
              clear hK K
              refine wpAnyH_ready (rs := [17]) (by kernel_rfl) (by simp) ?_
              refine AllReadyH.cons rfl (fun K hK => ?_) AllReadyH.nil
              go_simp
              refine hK.out _ _ hHeld (fun hHeld => ?_)
              clear hK K
              refine wpAnyH_ready (rs := [18]) (by kernel_rfl) (by simp) ?_
              refine AllReadyH.cons rfl (fun K hK => ?_) AllReadyH.nil
              go_simp
              refine hK.out _ _ hHeld (fun hHeld => ?_)
              clear hK K
              refine wpAnyH_done (by kernel_rfl) ?_ _
              go_wp2
              go_roundw
              case rel => exact ⟨i + 1, v4, by omega, by go_num, rfl, W5, B5, HSI⟩
              case measure => simp [intOf]; omega
        · obtain ⟨k0, k1, k2⟩ := HP.out wr hB
          go_wp2
          go_ret
          exact ⟨rfl, hB.out⟩
      · have hil : i = l.length := by omega
        have hend : codes (l.take i) = codes l := by rw [hil, List.take_length]
        have hall : ∀ p ∈ l, p.b.length ≤ 200 := by have := hS.out; rw [hil, List.take_length] at this; exact this
        rw [hend] at hW
        have HALL := Lib.hid hall
        have hcl : (codes l).length ≤ 6300 := by have h1 := codes_len l (fun p hp => ⟨HX.out p hp, hall p hp⟩); omega
        have hroom : Hid ((codes l).length ≤ room) := room_small (by omega)
        have HCL := Lib.hid hcl
        have HEN := Lib.hid hend
        clear hend hil hall hcl
        go_wp2_with fail
        refine (wout_any wr w.heap.size g _ _ hW.out hroom.out).mono ?_
        rintro e w3 ⟨A9, c9, rfl, ho3, hb3⟩
        have B3 := Lib.hid (hB.out.trans (hb3.mono hB.out.size))
        have ht3 := run_text (P := Try.prog) w3 35 9 5 (fun _ => True) A9 c9 (codes l) Try.underlying35 Try.underlying5 Try.underlying9 (Lies.of_own ho3 rfl (fun _ _ => trivial))
        have hen := HEN.out
        have hby := run_bytes_of_string (P := Try.prog) w3 9 35 5 ⟨(codes l).toArray⟩ Try.underlying9 Try.underlying35 Try.underlying5
        clear ho3 hb3
        go_wp2_with fail
        have hm := made_bytes w3 (codes l) (grownCap w3 (codes l).length 0 5)
        generalize (w3.alloc (.cells (bytesRow ⟨(codes l).toArray⟩ (grownCap w3 (codes l).length 0 5)) 5 ((bytesRow ⟨(codes l).toArray⟩ (grownCap w3 (codes l).length 0 5)).size, (bytesRow ⟨(codes l).toArray⟩ (grownCap w3 (codes l).length 0 5)).size + 1))).drew = W4 at hm ⊢
        obtain ⟨m1, m2, m3, m4⟩ := hm
        generalize grownCap w3 (codes l).length 0 5 = cap2
        have B4 := Lib.hid (B3.out.trans (m1.mono B3.out.size))
        clear m1 m2 m4 hby ht3 hen
        refine (new_any _ _ _ _ (codes l) m3 hroom.out).mono ?_
        rintro e w5 ⟨r, rfl, hr, hrd, hb5⟩
        have R5 := Lib.hid hrd
        have B5 := Lib.hid (B4.out.trans (hb5.mono B4.out.size))
        have HR : Hid (w.heap.size ≤ r) := Nat.le_trans B4.out.size hr
        clear hr hrd hb5 m3
        go_wp2
        go_loopw [8] (fun v8 wr => ∃ (j : Nat), j ≤ l.length ∧ v8 = .int .i64 j ∧ Hid (∃ Q, Rd wr Q r ⟨codes (l.drop j), 0⟩) ∧ Hid (Below w.heap.size w wr)) (fun v8 _ => l.length - (intOf v8).toNat)
        case atStart => exact ⟨0, Nat.zero_le _, rfl, ⟨_, R5.out⟩, B5⟩
        case round =>
          obtain ⟨j, hj, rfl, hR, hB⟩ := hrel
          obtain ⟨Q, hR⟩ := hR
          have hRd := Lib.hid hR
          clear hR
          by_cases hjl : j < l.length
          · obtain ⟨ad, rfl, had, hp⟩ := HL.out j hjl
            obtain ⟨k, B, cb, p0, p1, p2, hl, hq, hq4⟩ := hp
            have HP : Hid (∀ W : World, Hid (Below w.heap.size w W) → W.cell? (ad.add (j * 3)) = some (.int .i64 k) ∧ W.cell? ⟨(ad.add (j * 3)).block, (ad.add (j * 3)).off + 1, none⟩ = some (.int .u64 (l[j].x : Int)) ∧ W.cell? ⟨(ad.add (j * 3)).block, (ad.add (j * 3)).off + 2, none⟩ = some (.slice B l[j].b.length cb)) :=
              fun W hb => ⟨(hb.out.cell (p := ad.add (j * 3)) (by rw [blk_add]; exact had)).trans p0, (hb.out.cell (p := ⟨(ad.add (j * 3)).block, (ad.add (j * 3)).off + 1, none⟩) (by show (ad.add (j * 3)).block < _; rw [blk_add]; exact had)).trans p1, (hb.out.cell (p := ⟨(ad.add (j * 3)).block, (ad.add (j * 3)).off + 2, none⟩) (by show (ad.add (j * 3)).block < _; rw [blk_add]; exact had)).trans p2⟩
            have HLB := Lib.hid (hl.mono (Q' := fun i => i < w.heap.size) (fun i hi _ => hi))
            have HXI : Hid (l[j].x < 18446744073709551616) := HX.out _ (List.getElem_mem hjl)
            have hbig : l[j].b.length ≤ 200 := HALL.out _ (List.getElem_mem hjl)
            have HS : Hid (∀ W : World, Hid (Below w.heap.size w W) → W.cell? ⟨(ad.add (j * 3)).block, (ad.add (j * 3)).off + 1, none⟩ = some (.int .u64 (l[j].x : Int)) ∧ W.cell? ⟨(ad.add (j * 3)).block, (ad.add (j * 3)).off + 2, none⟩ = some (.slice B l[j].b.length cb) ∧ (convert 35 9 (.slice B l[j].b.length cb)).run Try.prog W = .ok (.string ⟨l[j].b.toArray⟩) W) :=
              fun W hb => ⟨(HP.out W hb).2.1, (HP.out W hb).2.2, run_text (P := Try.prog) W 35 9 5 (fun i => i < w.heap.size) B cb l[j].b Try.underlying35 Try.underlying5 Try.underlying9 (HLB.out.chg (Chg.new hb.out (fun _ => False)) (fun _ _ h => h))⟩
            have HRM : Hid ((RS.mk (codes (l.drop j)) 0).l.length ≤ room) := by
              have h1 := codes_len (l.drop j) (fun p hp => ⟨HX.out p (List.mem_of_mem_drop hp), HALL.out p (List.mem_of_mem_drop hp)⟩)
              have h2 : (l.drop j).length ≤ 30 := by rw [List.length_drop]; omega
              exact room_small (by show (codes (l.drop j)).length ≤ _; omega)
            have hBd : Hid (Below w.heap.size w wr.drew) := hB.out.drew
            have k0 := (HP.out wr hB).1
            clear p0 p1 p2 hl had
            rcases (show l[j].q = 0 ∨ l[j].q = 1 ∨ l[j].q = 2 ∨ l[j].q = 3 by omega) with h0 | h0 | h0 | h0
            · rw [h0] at hq
              have hcd := code_num (p := l[j]) (by omega)
              have HU : Hid ((RS.mk (codes (l.drop j)) 0).uint = (⟨codes (l.drop (j + 1)), 0⟩, l[j].x)) := by unfold Hid; rw [codes_cons l j hjl, hcd]; exact uint_put HXI.out _
              clear hcd h0
              go_wp2_with fail
              refine wp_region_held_drew (S := fun w' => w'.cell? ⟨(ad.add (j * 3)).block, (ad.add (j * 3)).off + 1, none⟩ = some (.int .u64 (l[j].x : Int)) ∧ w'.cell? ⟨(ad.add (j * 3)).block, (ad.add (j * 3)).off + 2, none⟩ = some (.slice B l[j].b.length cb) ∧ (convert 35 9 (.slice B l[j].b.length cb)).run Try.prog w' = .ok (.string ⟨l[j].b.toArray⟩) w') (by kernel_rfl) (HS.out _ hBd) (fun hHeld => ?_)
              refine wpAnyH_take (i := 0) (v := ?_) rfl (by kernel_rfl) (by kernel_rfl) (by kernel_rfl) (fun _ _ _ h => h) (Or.inl ⟨by kernel_rfl, ?_⟩) (by assumption) ?_
              rotate_left
              · (intro w hSw; go_split_ands; go_simp; with_reducible rfl)
              simp only [Act.put, List.setIfInBounds_toArray]
              refine wpAnyH_take (i := 2) (v := ?_) rfl (by kernel_rfl) (by kernel_rfl) (by kernel_rfl) (fun _ _ _ h => h) (Or.inl ⟨by kernel_rfl, ?_⟩) (by assumption) ?_
              rotate_left
              · (intro w hSw; go_split_ands; go_simp; with_reducible rfl)
              simp only [Act.put]
              refine wpAnyH_take (i := 3) (v := ?_) rfl (by kernel_rfl) (by kernel_rfl) (by kernel_rfl) (fun _ _ _ h => h) (Or.inl ⟨by kernel_rfl, ?_⟩) (by assumption) ?_
              rotate_left
              · (intro w hSw; go_split_ands; go_simp; with_reducible rfl)
              simp only [Act.put]
              refine wpAnyH_take (i := 4) (v := ?_) rfl (by kernel_rfl) (by kernel_rfl) (by kernel_rfl) (fun _ _ _ h => h) (Or.inl ⟨by kernel_rfl, ?_⟩) (by assumption) ?_
              rotate_left
              · (intro w hSw; go_split_ands; go_simp; with_reducible rfl)
              simp only [Act.put]
              refine wpAnyH_take (i := 5) (v := ?_) rfl (by kernel_rfl) (by kernel_rfl) (by kernel_rfl) (fun _ _ _ h => h) (Or.inl ⟨by kernel_rfl, ?_⟩) (by assumption) ?_
              rotate_left
              · (intro w hSw; go_split_ands; go_simp; with_reducible rfl)
              simp only [Act.put]
              refine wpAnyH_take (i := 6) (v := ?_) rfl (by kernel_rfl) (by kernel_rfl) (by kernel_rfl) (fun _ _ _ h => h) (Or.inl ⟨by kernel_rfl, ?_⟩) (by assumption) ?_
              rotate_left
              · (intro w hSw; go_split_ands; go_simp; with_reducible rfl)
              simp only [Act.put]
              refine wpAnyH_ready (rs := [1]) (by kernel_rfl) (by simp) ?_
              refine AllReadyH.cons rfl (fun K hK => ?_) AllReadyH.nil
              go_simp
              refine (uint_any wr.drew _ r _ hRd.out).mono ?_
              rw [HU.out]
              rintro e w5 ⟨rfl, hr5, hc5⟩
              have R5 := Lib.hid hr5
              have B5 := Lib.hid (below_chg hB.out.drew hc5 (fun i _ h => by rw [h]; exact HR.out) hB.out.size)
              clear hr5 hc5
              refine hK.out _ _ (HS.out _ B5) (fun hHeld => ?_)
              clear hK K
              refine wpAnyH_ready (rs := [7]) (by kernel_rfl) (by simp) ?_
              refine AllReadyH.cons rfl (fun K hK => ?_) AllReadyH.nil
              go_simp
              refine hK.out _ _ hHeld (fun hHeld => ?_)
              clear hK K
              refine wpAnyH_done (by kernel_rfl) ?_ _
              go_wp2
              go_roundw
              case rel => exact ⟨j + 1, by omega, by go_num, ⟨Q, R5.out⟩, B5⟩
              case measure => simp [intOf]; omega
            · rw [h0] at hq
              have hcd := code_num (p := l[j]) (by omega)
              have HU : Hid ((RS.mk (codes (l.drop j)) 0).uint = (⟨codes (l.drop (j + 1)), 0⟩, l[j].x)) := by unfold Hid; rw [codes_cons l j hjl, hcd]; exact uint_put HXI.out _
              clear hcd h0
              go_wp2_with fail
              refine wp_region_held_drew (S := fun w' => w'.cell? ⟨(ad.add (j * 3)).block, (ad.add (j * 3)).off + 1, none⟩ = some (.int .u64 (l[j].x : Int)) ∧ w'.cell? ⟨(ad.add (j * 3)).block, (ad.add (j * 3)).off + 2, none⟩ = some (.slice B l[j].b.length cb) ∧ (convert 35 9 (.slice B l[j].b.length cb)).run Try.prog w' = .ok (.string ⟨l[j].b.toArray⟩) w') (by kernel_rfl) (HS.out _ hBd) (fun hHeld => ?_)
              refine wpAnyH_take (i := 0) (v := ?_) rfl (by kernel_rfl) (by kernel_rfl) (by kernel_rfl) (fun _ _ _ h => h) (Or.inl ⟨by kernel_rfl, ?_⟩) (by assumption) ?_
              rotate_left
              · (intro w hSw; go_split_ands; go_simp; with_reducible rfl)
              simp only [Act.put, List.setIfInBounds_toArray]
              refine wpAnyH_take (i := 2) (v := ?_) rfl (by kernel_rfl) (by kernel_rfl) (by kernel_rfl) (fun _ _ _ h => h) (Or.inl ⟨by kernel_rfl, ?_⟩) (by assumption) ?_
              rotate_left
              · (intro w hSw; go_split_ands; go_simp; with_reducible rfl)
              simp only [Act.put]
              refine wpAnyH_take (i := 3) (v := ?_) rfl (by kernel_rfl) (by kernel_rfl) (by kernel_rfl) (fun _ _ _ h => h) (Or.inl ⟨by kernel_rfl, ?_⟩) (by assumption) ?_
              rotate_left
              · (intro w hSw; go_split_ands; go_simp; with_reducible rfl)
              simp only [Act.put]
              refine wpAnyH_take (i := 4) (v := ?_) rfl (by kernel_rfl) (by kernel_rfl) (by kernel_rfl) (fun _ _ _ h => h) (Or.inl ⟨by kernel_rfl, ?_⟩) (by assumption) ?_
              rotate_left
              · (intro w hSw; go_split_ands; go_simp; with_reducible rfl)
              simp only [Act.put]
              refine wpAnyH_take (i := 5) (v := ?_) rfl (by kernel_rfl) (by kernel_rfl) (by kernel_rfl) (fun _ _ _ h => h) (Or.inl ⟨by kernel_rfl, ?_⟩) (by assumption) ?_
              rotate_left
              · (intro w hSw; go_split_ands; go_simp; with_reducible rfl)
              simp only [Act.put]
              refine wpAnyH_take (i := 6) (v := ?_) rfl (by kernel_rfl) (by kernel_rfl) (by kernel_rfl) (fun _ _ _ h => h) (Or.inl ⟨by kernel_rfl, ?_⟩) (by assumption) ?_
              rotate_left
              · (intro w hSw; go_split_ands; go_simp; with_reducible rfl)
              simp only [Act.put]
              refine wpAnyH_ready (rs := [1]) (by kernel_rfl) (by simp) ?_
              refine AllReadyH.cons rfl (fun K hK => ?_) AllReadyH.nil
              go_simp
              refine (uint_any wr.drew _ r _ hRd.out).mono ?_
              rw [HU.out]
              rintro e w5 ⟨rfl, hr5, hc5⟩
              have R5 := Lib.hid hr5
              have B5 := Lib.hid (below_chg hB.out.drew hc5 (fun i _ h => by rw [h]; exact HR.out) hB.out.size)
              clear hr5 hc5
              refine hK.out _ _ (HS.out _ B5) (fun hHeld => ?_)
              clear hK K
              refine wpAnyH_ready (rs := [7]) (by kernel_rfl) (by simp) ?_
              refine AllReadyH.cons rfl (fun K hK => ?_) AllReadyH.nil
              go_simp
              refine hK.out _ _ hHeld (fun hHeld => ?_)
              clear hK K
              refine wpAnyH_done (by kernel_rfl) ?_ _
              go_wp2
              go_roundw
              case rel => exact ⟨j + 1, by omega, by go_num, ⟨Q, R5.out⟩, B5⟩
              case measure => simp [intOf]; omega
            · rw [h0] at hq
              have hcd := code_bytes h0
              have HU : Hid ((RS.mk (codes (l.drop j)) 0).bytes 200 = (⟨codes (l.drop (j + 1)), 0⟩, l[j].b)) := by unfold Hid; rw [codes_cons l j hjl, hcd]; exact bytes_put hbig
              clear hcd h0
              go_wp2_with fail
              refine wp_region_held_drew (S := fun w' => w'.cell? ⟨(ad.add (j * 3)).block, (ad.add (j * 3)).off + 1, none⟩ = some (.int .u64 (l[j].x : Int)) ∧ w'.cell? ⟨(ad.add (j * 3)).block, (ad.add (j * 3)).off + 2, none⟩ = some (.slice B l[j].b.length cb) ∧ (convert 35 9 (.slice B l[j].b.length cb)).run Try.prog w' = .ok (.string ⟨l[j].b.toArray⟩) w') (by kernel_rfl) (HS.out _ hBd) (fun hHeld => ?_)
              refine wpAnyH_take (i := 0) (v := ?_) rfl (by kernel_rfl) (by kernel_rfl) (by kernel_rfl) (fun _ _ _ h => h) (Or.inl ⟨by kernel_rfl, ?_⟩) (by assumption) ?_
              rotate_left
              · (intro w hSw; go_split_ands; go_simp; with_reducible rfl)
              simp only [Act.put, List.setIfInBounds_toArray]
              refine wpAnyH_take (i := 3) (v := ?_) rfl (by kernel_rfl) (by kernel_rfl) (by kernel_rfl) (fun _ _ _ h => h) (Or.inl ⟨by kernel_rfl, ?_⟩) (by assumption) ?_
              rotate_left
              · (intro w hSw; go_split_ands; go_simp; with_reducible rfl)
              simp only [Act.put]
              refine wpAnyH_take (i := 4) (v := ?_) rfl (by kernel_rfl) (by kernel_rfl) (by kernel_rfl) (fun _ _ _ h => h) (Or.inl ⟨by kernel_rfl, ?_⟩) (by assumption) ?_
              rotate_left
              · (intro w hSw; go_split_ands; go_simp; with_reducible rfl)
              simp only [Act.put]
              refine wpAnyH_take (i := 5) (v := ?_) rfl (by kernel_rfl) (by kernel_rfl) (by kernel_rfl) (fun _ _ _ h => h) (Or.inl ⟨by kernel_rfl, ?_⟩) (by assumption) ?_
              rotate_left
              · (intro w hSw; go_split_ands; go_simp; with_reducible rfl)
              simp only [Act.put]
              refine wpAnyH_take (i := 6) (v := ?_) rfl (by kernel_rfl) (by kernel_rfl) (by kernel_rfl) (fun _ _ _ h => h) (Or.inl ⟨by kernel_rfl, ?_⟩) (by assumption) ?_
              rotate_left
              · (intro w hSw; go_split_ands; go_simp; with_reducible rfl)
              simp only [Act.put]
              refine wpAnyH_take (i := 7) (v := ?_) rfl (by kernel_rfl) (by kernel_rfl) (by kernel_rfl) (fun _ _ _ h => h) (Or.inl ⟨by kernel_rfl, ?_⟩) (by assumption) ?_
              rotate_left
              · (intro w hSw; go_split_ands; go_simp; with_reducible rfl)
              simp only [Act.put]
              refine wpAnyH_take (i := 8) (v := ?_) rfl (by kernel_rfl) (by kernel_rfl) (by kernel_rfl) (fun _ _ _ h => h) (Or.inl ⟨by kernel_rfl, ?_⟩) (by assumption) ?_
              rotate_left
              · (intro w hSw; go_split_ands; go_simp; with_reducible rfl)
              simp only [Act.put]
              refine wpAnyH_ready (rs := [1]) (by kernel_rfl) (by simp) ?_
              refine AllReadyH.cons rfl (fun K hK => ?_) AllReadyH.nil
              go_simp
              refine (bytes_any wr.drew _ r _ 200 hRd.out HRM.out (by unfold Hid; decide)).mono ?_
              rw [HU.out]
              rintro e w5 ⟨hr5, hc5, A5, c5, rfl, ho5⟩
              have R5 := Lib.hid hr5
              have B5 := Lib.hid (below_chg hB.out.drew hc5 (fun i _ h => by rw [h]; exact HR.out) hB.out.size)
              have ht5 := run_text (P := Try.prog) w5 35 9 5 (fun _ => True) A5 c5 l[j].b Try.underlying35 Try.underlying5 Try.underlying9 (Lies.of_own ho5 rfl (fun _ _ => trivial))
              clear hr5 hc5 ho5
              refine hK.out _ _ (HS.out _ B5) (fun hHeld => ?_)
              clear hK K
              refine wpAnyH_ready (rs := [2]) (by kernel_rfl) (by simp) ?_
              refine AllReadyH.cons rfl (fun K hK => ?_) AllReadyH.nil
              go_simp
              refine hK.out _ _ hHeld (fun hHeld => ?_)
              clear hK K
              refine wpAnyH_ready (rs := [9]) (by kernel_rfl) (by simp) ?_
              refine AllReadyH.cons rfl (fun K hK => ?_) AllReadyH.nil
              go_simp
              refine hK.out _ _ hHeld (fun hHeld => ?_)
              clear hK K
              refine wpAnyH_done (by kernel_rfl) ?_ _
              go_wp2
              go_roundw
              case rel => exact ⟨j + 1, by omega, by go_num, ⟨Q, R5.out⟩, B5⟩
              case measure => simp [intOf]; omega
            · rw [h0] at hq
              have hcd := code_flag h0
              clear h0
              have HRM2 : Hid ((RS.mk (l[j].b ++ codes (l.drop (j + 1))) 0).l.length ≤ room) := by have := HRM.out; rw [codes_cons l j hjl, hcd] at this; simp at this ⊢; unfold Hid; simp; omega
              have HF : Hid ((RS.mk (l[j].b ++ codes (l.drop (j + 1))) 0).take (l[j].b.length : Int) = (⟨codes (l.drop (j + 1)), 0⟩, some l[j].b)) := take_app _ _
              have HG : Hid ((RS.mk (l[j].b ++ codes (l.drop (j + 1))) 0).got (l[j].b.length : Int) = l[j].b) := got_of HF.out
              rcases (show l[j].x % 2 = 1 ∨ l[j].x % 2 = 0 by omega) with hbit | hbit
              · have hx1 : bits .and .u64 (l[j].x : Int) 1 = 1 := by rw [and_one_u64 HXI.out, hbit]; rfl
                have HU : Hid ((RS.mk (codes (l.drop j)) 0).bool = (⟨l[j].b ++ codes (l.drop (j + 1)), 0⟩, true)) := by unfold Hid; rw [codes_cons l j hjl, hcd, hbit, List.append_assoc]; exact bool_put true _
                clear hcd hbit
                go_wp2_with fail
                refine wp_region_held_drew (S := fun w' => w'.cell? ⟨(ad.add (j * 3)).block, (ad.add (j * 3)).off + 1, none⟩ = some (.int .u64 (l[j].x : Int)) ∧ w'.cell? ⟨(ad.add (j * 3)).block, (ad.add (j * 3)).off + 2, none⟩ = some (.slice B l[j].b.length cb) ∧ (convert 35 9 (.slice B l[j].b.length cb)).run Try.prog w' = .ok (.string ⟨l[j].b.toArray⟩) w') (by kernel_rfl) (HS.out _ hBd) (fun hHeld => ?_)
                refine wpAnyH_take (i := 0) (v := ?_) rfl (by kernel_rfl) (by kernel_rfl) (by kernel_rfl) (fun _ _ _ h => h) (Or.inl ⟨by kernel_rfl, ?_⟩) (by assumption) ?_
                rotate_left
                · (intro w hSw; go_split_ands; go_simp; with_reducible rfl)
                simp only [Act.put, List.setIfInBounds_toArray]
                refine wpAnyH_take (i := 2) (v := ?_) rfl (by kernel_rfl) (by kernel_rfl) (by kernel_rfl) (fun _ _ _ h => h) (Or.inl ⟨by kernel_rfl, ?_⟩) (by assumption) ?_
                rotate_left
                · (intro w hSw; go_split_ands; go_simp; with_reducible rfl)
                simp only [Act.put]
                refine wpAnyH_take (i := 3) (v := ?_) rfl (by kernel_rfl) (by kernel_rfl) (by kernel_rfl) (fun _ _ _ h => h) (Or.inl ⟨by kernel_rfl, ?_⟩) (by assumption) ?_
                rotate_left
                · (intro w hSw; go_split_ands; go_simp; with_reducible rfl)
                simp only [Act.put]
                refine wpAnyH_take (i := 4) (v := ?_) rfl (by kernel_rfl) (by kernel_rfl) (by kernel_rfl) (fun _ _ _ h => h) (Or.inl ⟨by kernel_rfl, ?_⟩) (by assumption) ?_
                rotate_left
                · (intro w hSw; go_split_ands; go_simp; with_reducible rfl)
                simp only [Act.put]
                refine wpAnyH_take (i := 5) (v := ?_) rfl (by kernel_rfl) (by kernel_rfl) (by kernel_rfl) (fun _ _ _ h => h) (Or.inl ⟨by kernel_rfl, ?_⟩) (by assumption) ?_
                rotate_left
                · (intro w hSw; go_split_ands; go_simp; with_reducible rfl)
                simp only [Act.put]
                refine wpAnyH_take (i := 6) (v := ?_) rfl (by kernel_rfl) (by kernel_rfl) (by kernel_rfl) (fun _ _ _ h => h) (Or.inl ⟨by kernel_rfl, ?_⟩) (by assumption) ?_
                rotate_left
                · (intro w hSw; go_split_ands; go_simp; with_reducible rfl)
                simp only [Act.put]
                refine wpAnyH_take (i := 7) (v := ?_) rfl (by kernel_rfl) (by kernel_rfl) (by kernel_rfl) (fun _ _ _ h => h) (Or.inl ⟨by kernel_rfl, ?_⟩) (by assumption) ?_
                rotate_left
                · (intro w hSw; go_split_ands; go_simp; with_reducible rfl)
                simp only [Act.put]
                refine wpAnyH_take (i := 8) (v := ?_) rfl (by kernel_rfl) (by kernel_rfl) (by kernel_rfl) (fun _ _ _ h => h) (Or.inl ⟨by kernel_rfl, ?_⟩) (by assumption) ?_
                rotate_left
                · (intro w hSw; go_split_ands; go_simp; with_reducible rfl)
                simp only [Act.put]
                refine wpAnyH_ready (rs := [1]) (by kernel_rfl) (by simp) ?_
                refine AllReadyH.cons rfl (fun K hK => ?_) AllReadyH.nil
                go_simp
                refine (bool_any wr.drew _ r _ hRd.out).mono ?_
                rw [HU.out]
                rintro e w4 ⟨rfl, hr4, hc4⟩
                have R4 := Lib.hid hr4
                have B4 := Lib.hid (below_chg hB.out.drew hc4 (fun i _ h => by rw [h]; exact HR.out) hB.out.size)
                clear hr4 hc4
                refine hK.out _ _ (HS.out _ B4) (fun hHeld => ?_)
                clear hK K
                refine wpAnyH_ready (rs := [9]) (by kernel_rfl) (by simp) ?_
                refine AllReadyH.cons rfl (fun K hK => ?_) AllReadyH.nil
                go_simp
                refine hK.out _ _ hHeld (fun hHeld => ?_)
                clear hK K
                refine wpAnyH_ready (rs := [10]) (by kernel_rfl) (by simp) ?_
                refine AllReadyH.cons rfl (fun K hK => ?_) AllReadyH.nil
                go_simp
                refine hK.out _ _ hHeld (fun hHeld => ?_)
                clear hK K
                refine wpAnyH_take (i := 11) (v := ?_) rfl (by kernel_rfl) (by kernel_rfl) (by kernel_rfl) (fun _ _ _ h => h) (Or.inl ⟨by kernel_rfl, ?_⟩) (by assumption) ?_
                rotate_left
                · (intro w hSw; go_split_ands; go_simp; with_reducible rfl)
                simp only [Act.put, List.setIfInBounds_toArray]
                refine wpAnyH_take (i := 12) (v := ?_) rfl (by kernel_rfl) (by kernel_rfl) (by kernel_rfl) (fun _ _ _ h => h) (Or.inl ⟨by kernel_rfl, ?_⟩) (by assumption) ?_
                rotate_left
                · (intro w hSw; go_split_ands; go_simp; with_reducible rfl)
                simp only [Act.put]
                refine wpAnyH_take (i := 13) (v := ?_) rfl (by kernel_rfl) (by kernel_rfl) (by kernel_rfl) (fun _ _ _ h => h) (Or.inl ⟨by kernel_rfl, ?_⟩) (by assumption) ?_
                rotate_left
                · (intro w hSw; go_split_ands; go_simp; with_reducible rfl)
                simp only [Act.put]
                refine wpAnyH_take (i := 14) (v := ?_) rfl (by kernel_rfl) (by kernel_rfl) (by kernel_rfl) (fun _ _ _ h => h) (Or.inl ⟨by kernel_rfl, ?_⟩) (by assumption) ?_
                rotate_left
                · (intro w hSw; go_split_ands; go_simp; with_reducible rfl)
                simp only [Act.put]
                refine wpAnyH_take (i := 15) (v := ?_) rfl (by kernel_rfl) (by kernel_rfl) (by kernel_rfl) (fun _ _ _ h => h) (Or.inl ⟨by kernel_rfl, ?_⟩) (by assumption) ?_
                rotate_left
                · (intro w hSw; go_split_ands; go_simp; with_reducible rfl)
                simp only [Act.put]
                refine wpAnyH_take (i := 16) (v := ?_) rfl (by kernel_rfl) (by kernel_rfl) (by kernel_rfl) (fun _ _ _ h => h) (Or.inl ⟨by kernel_rfl, ?_⟩) (by assumption) ?_
                rotate_left
                · (intro w hSw; go_split_ands; go_simp; with_reducible rfl)
                simp only [Act.put]
                refine wpAnyH_take (i := 17) (v := ?_) rfl (by kernel_rfl) (by kernel_rfl) (by kernel_rfl) (fun _ _ _ h => h) (Or.inl ⟨by kernel_rfl, ?_⟩) (by assumption) ?_
                rotate_left
                · (intro w hSw; go_split_ands; go_simp; with_reducible rfl)
                simp only [Act.put]
                refine wpAnyH_take (i := 20) (v := ?_) rfl (by kernel_rfl) (by kernel_rfl) (by kernel_rfl) (fun _ _ _ h => h) (Or.inl ⟨by kernel_rfl, ?_⟩) (by assumption) ?_
                rotate_left
                · (intro w hSw; go_split_ands; go_simp; with_reducible rfl)
                simp only [Act.put]
                refine wpAnyH_take (i := 21) (v := ?_) rfl (by kernel_rfl) (by kernel_rfl) (by kernel_rfl) (fun _ _ _ h => h) (Or.inl ⟨by kernel_rfl, ?_⟩) (by assumption) ?_
                rotate_left
                · (intro w hSw; go_split_ands; go_simp; with_reducible rfl)
                simp only [Act.put]
                refine wpAnyH_take (i := 22) (v := ?_) rfl (by kernel_rfl) (by kernel_rfl) (by kernel_rfl) (fun _ _ _ h => h) (Or.inl ⟨by kernel_rfl, ?_⟩) (by assumption) ?_
                rotate_left
                · (intro w hSw; go_split_ands; go_simp; with_reducible rfl)
                simp only [Act.put]
                refine wpAnyH_take (i := 23) (v := ?_) rfl (by kernel_rfl) (by kernel_rfl) (by kernel_rfl) (fun _ _ _ h => h) (Or.inl ⟨by kernel_rfl, ?_⟩) (by assumption) ?_
                rotate_left
                · (intro w hSw; go_split_ands; go_simp; with_reducible rfl)
                simp only [Act.put]
                refine wpAnyH_take (i := 24) (v := ?_) rfl (by kernel_rfl) (by kernel_rfl) (by kernel_rfl) (fun _ _ _ h => h) (Or.inl ⟨by kernel_rfl, ?_⟩) (by assumption) ?_
                rotate_left
                · (intro w hSw; go_split_ands; go_simp; with_reducible rfl)
                simp only [Act.put]
                refine wpAnyH_take (i := 25) (v := ?_) rfl (by kernel_rfl) (by kernel_rfl) (by kernel_rfl) (fun _ _ _ h => h) (Or.inl ⟨by kernel_rfl, ?_⟩) (by assumption) ?_
                rotate_left
                · (intro w hSw; go_split_ands; go_simp; with_reducible rfl)
                simp only [Act.put]
                refine wpAnyH_ready (rs := [18]) (by kernel_rfl) (by simp) ?_
                refine AllReadyH.cons rfl (fun K hK => ?_) AllReadyH.nil
                go_simp
                refine (fixed_any w4 _ r _ _ R4.out HRM2.out).mono ?_
                rw [HF.out, HG.out]
                rintro e w5 ⟨hr5, hc5, A5, c5, rfl, ho5⟩
                have R5 := Lib.hid hr5
                have B5 := Lib.hid (below_chg B4.out hc5 (fun i _ h => by rw [h]; exact HR.out) B4.out.size)
                have ht5 := run_text (P := Try.prog) w5 35 9 5 (fun _ => True) A5 c5 l[j].b Try.underlying35 Try.underlying5 Try.underlying9 (Lies.of_own ho5 rfl (fun _ _ => trivial))
                clear hr5 hc5 ho5
                refine hK.out _ _ (HS.out _ B5) (fun hHeld => ?_)
                clear hK K
                refine wpAnyH_ready (rs := [19]) (by kernel_rfl) (by simp) ?_
                refine AllReadyH.cons rfl (fun K hK => ?_) AllReadyH.nil
                go_simp
                refine hK.out _ _ hHeld (fun hHeld => ?_)
                clear hK K
                refine wpAnyH_ready (rs := [26]) (by kernel_rfl) (by simp) ?_
                refine AllReadyH.cons rfl (fun K hK => ?_) AllReadyH.nil
                go_simp
                refine hK.out _ _ hHeld (fun hHeld => ?_)
                clear hK K
                refine wpAnyH_ready (rs := [27]) (by kernel_rfl) (by simp) ?_
                refine AllReadyH.cons rfl (fun K hK => ?_) AllReadyH.nil
                go_simp
                refine hK.out _ _ hHeld (fun hHeld => ?_)
                clear hK K
                refine wpAnyH_done (by kernel_rfl) ?_ _
                go_wp2
                go_roundw
                case rel => exact ⟨j + 1, by omega, by go_num, ⟨Q, R5.out⟩, B5⟩
                case measure => simp [intOf]; omega
              · have hx1 : bits .and .u64 (l[j].x : Int) 1 = 0 := by rw [and_one_u64 HXI.out, hbit]; rfl
                have HU : Hid ((RS.mk (codes (l.drop j)) 0).bool = (⟨l[j].b ++ codes (l.drop (j + 1)), 0⟩, false)) := by unfold Hid; rw [codes_cons l j hjl, hcd, hbit, List.append_assoc]; exact bool_put false _
                clear hcd hbit
                go_wp2_with fail
                refine wp_region_held_drew (S := fun w' => w'.cell? ⟨(ad.add (j * 3)).block, (ad.add (j * 3)).off + 1, none⟩ = some (.int .u64 (l[j].x : Int)) ∧ w'.cell? ⟨(ad.add (j * 3)).block, (ad.add (j * 3)).off + 2, none⟩ = some (.slice B l[j].b.length cb) ∧ (convert 35 9 (.slice B l[j].b.length cb)).run Try.prog w' = .ok (.string ⟨l[j].b.toArray⟩) w') (by kernel_rfl) (HS.out _ hBd) (fun hHeld => ?_)
                refine wpAnyH_take (i := 0) (v := ?_) rfl (by kernel_rfl) (by kernel_rfl) (by kernel_rfl) (fun _ _ _ h => h) (Or.inl ⟨by kernel_rfl, ?_⟩) (by assumption) ?_
                rotate_left
                · (intro w hSw; go_split_ands; go_simp; with_reducible rfl)
                simp only [Act.put, List.setIfInBounds_toArray]
                refine wpAnyH_take (i := 2) (v := ?_) rfl (by kernel_rfl) (by kernel_rfl) (by kernel_rfl) (fun _ _ _ h => h) (Or.inl ⟨by kernel_rfl, ?_⟩) (by assumption) ?_
                rotate_left
                · (intro w hSw; go_split_ands; go_simp; with_reducible rfl)
                simp only [Act.put]
                refine wpAnyH_take (i := 3) (v := ?_) rfl (by kernel_rfl) (by kernel_rfl) (by kernel_rfl) (fun _ _ _ h => h) (Or.inl ⟨by kernel_rfl, ?_⟩) (by assumption) ?_
                rotate_left
                · (intro w hSw; go_split_ands; go_simp; with_reducible rfl)
                simp only [Act.put]
                refine wpAnyH_take (i := 4) (v := ?_) rfl (by kernel_rfl) (by kernel_rfl) (by kernel_rfl) (fun _ _ _ h => h) (Or.inl ⟨by kernel_rfl, ?_⟩) (by assumption) ?_
                rotate_left
                · (intro w hSw; go_split_ands; go_simp; with_reducible rfl)
                simp only [Act.put]
                refine wpAnyH_take (i := 5) (v := ?_) rfl (by kernel_rfl) (by kernel_rfl) (by kernel_rfl) (fun _ _ _ h => h) (Or.inl ⟨by kernel_rfl, ?_⟩) (by assumption) ?_
                rotate_left
                · (intro w hSw; go_split_ands; go_simp; with_reducible rfl)
                simp only [Act.put]
                refine wpAnyH_take (i := 6) (v := ?_) rfl (by kernel_rfl) (by kernel_rfl) (by kernel_rfl) (fun _ _ _ h => h) (Or.inl ⟨by kernel_rfl, ?_⟩) (by assumption) ?_
                rotate_left
                · (intro w hSw; go_split_ands; go_simp; with_reducible rfl)
                simp only [Act.put]
                refine wpAnyH_take (i := 7) (v := ?_) rfl (by kernel_rfl) (by kernel_rfl) (by kernel_rfl) (fun _ _ _ h => h) (Or.inl ⟨by kernel_rfl, ?_⟩) (by assumption) ?_
                rotate_left
                · (intro w hSw; go_split_ands; go_simp; with_reducible rfl)
                simp only [Act.put]
                refine wpAnyH_take (i := 8) (v := ?_) rfl (by kernel_rfl) (by kernel_rfl) (by kernel_rfl) (fun _ _ _ h => h) (Or.inl ⟨by kernel_rfl, ?_⟩) (by assumption) ?_
                rotate_left
                · (intro w hSw; go_split_ands; go_simp; with_reducible rfl)
                simp only [Act.put]
                refine wpAnyH_ready (rs := [1]) (by kernel_rfl) (by simp) ?_
                refine AllReadyH.cons rfl (fun K hK => ?_) AllReadyH.nil
                go_simp
                refine (bool_any wr.drew _ r _ hRd.out).mono ?_
                rw [HU.out]
                rintro e w4 ⟨rfl, hr4, hc4⟩
                have R4 := Lib.hid hr4
                have B4 := Lib.hid (below_chg hB.out.drew hc4 (fun i _ h => by rw [h]; exact HR.out) hB.out.size)
                clear hr4 hc4
                refine hK.out _ _ (HS.out _ B4) (fun hHeld => ?_)
                clear hK K
                refine wpAnyH_ready (rs := [9]) (by kernel_rfl) (by simp) ?_
                refine AllReadyH.cons rfl (fun K hK => ?_) AllReadyH.nil
                go_simp
                refine hK.out _ _ hHeld (fun hHeld => ?_)
                clear hK K
                refine wpAnyH_ready (rs := [10]) (by kernel_rfl) (by simp) ?_
                refine AllReadyH.cons rfl (fun K hK => ?_) AllReadyH.nil
                go_simp
                refine hK.out _ _ hHeld (fun hHeld => ?_)
                clear hK K
                refine wpAnyH_take (i := 11) (v := ?_) rfl (by kernel_rfl) (by kernel_rfl) (by kernel_rfl) (fun _ _ _ h => h) (Or.inl ⟨by kernel_rfl, ?_⟩) (by assumption) ?_
                rotate_left
                · (intro w hSw; go_split_ands; go_simp; with_reducible rfl)
                simp only [Act.put, List.setIfInBounds_toArray]
                refine wpAnyH_take (i := 12) (v := ?_) rfl (by kernel_rfl) (by kernel_rfl) (by kernel_rfl) (fun _ _ _ h => h) (Or.inl ⟨by kernel_rfl, ?_⟩) (by assumption) ?_
                rotate_left
                · (intro w hSw; go_split_ands; go_simp; with_reducible rfl)
                simp only [Act.put]
                refine wpAnyH_take (i := 13) (v := ?_) rfl (by kernel_rfl) (by kernel_rfl) (by kernel_rfl) (fun _ _ _ h => h) (Or.inl ⟨by kernel_rfl, ?_⟩) (by assumption) ?_
                rotate_left
                · (intro w hSw; go_split_ands; go_simp; with_reducible rfl)
                simp only [Act.put]
                refine wpAnyH_take (i := 14) (v := ?_) rfl (by kernel_rfl) (by kernel_rfl) (by kernel_rfl) (fun _ _ _ h => h) (Or.inl ⟨by kernel_rfl, ?_⟩) (by assumption) ?_
                rotate_left
                · (intro w hSw; go_split_ands; go_simp; with_reducible rfl)
                simp only [Act.put]
                refine wpAnyH_take (i := 15) (v := ?_) rfl (by kernel_rfl) (by kernel_rfl) (by kernel_rfl) (fun _ _ _ h => h) (Or.inl ⟨by kernel_rfl, ?_⟩) (by assumption) ?_
                rotate_left
                · (intro w hSw; go_split_ands; go_simp; with_reducible rfl)
                simp only [Act.put]
                refine wpAnyH_take (i := 16) (v := ?_) rfl (by kernel_rfl) (by kernel_rfl) (by kernel_rfl) (fun _ _ _ h => h) (Or.inl ⟨by kernel_rfl, ?_⟩) (by assumption) ?_
                rotate_left
                · (intro w hSw; go_split_ands; go_simp; with_reducible rfl)
                simp only [Act.put]
                refine wpAnyH_take (i := 17) (v := ?_) rfl (by kernel_rfl) (by kernel_rfl) (by kernel_rfl) (fun _ _ _ h => h) (Or.inl ⟨by kernel_rfl, ?_⟩) (by assumption) ?_
                rotate_left
                · (intro w hSw; go_split_ands; go_simp; with_reducible rfl)
                simp only [Act.put]
                refine wpAnyH_take (i := 20) (v := ?_) rfl (by kernel_rfl) (by kernel_rfl) (by kernel_rfl) (fun _ _ _ h => h) (Or.inl ⟨by kernel_rfl, ?_⟩) (by assumption) ?_
                rotate_left
                · (intro w hSw; go_split_ands; go_simp; with_reducible rfl)
                simp only [Act.put]
                refine wpAnyH_take (i := 21) (v := ?_) rfl (by kernel_rfl) (by kernel_rfl) (by kernel_rfl) (fun _ _ _ h => h) (Or.inl ⟨by kernel_rfl, ?_⟩) (by assumption) ?_
                rotate_left
                · (intro w hSw; go_split_ands; go_simp; with_reducible rfl)
                simp only [Act.put]
                refine wpAnyH_take (i := 22) (v := ?_) rfl (by kernel_rfl) (by kernel_rfl) (by kernel_rfl) (fun _ _ _ h => h) (Or.inl ⟨by kernel_rfl, ?_⟩) (by assumption) ?_
                rotate_left
                · (intro w hSw; go_split_ands; go_simp; with_reducible rfl)
                simp only [Act.put]
                refine wpAnyH_take (i := 23) (v := ?_) rfl (by kernel_rfl) (by kernel_rfl) (by kernel_rfl) (fun _ _ _ h => h) (Or.inl ⟨by kernel_rfl, ?_⟩) (by assumption) ?_
                rotate_left
                · (intro w hSw; go_split_ands; go_simp; with_reducible rfl)
                simp only [Act.put]
                refine wpAnyH_take (i := 24) (v := ?_) rfl (by kernel_rfl) (by kernel_rfl) (by kernel_rfl) (fun _ _ _ h => h) (Or.inl ⟨by kernel_rfl, ?_⟩) (by assumption) ?_
                rotate_left
                · (intro w hSw; go_split_ands; go_simp; with_reducible rfl)
                simp only [Act.put]
                refine wpAnyH_take (i := 25) (v := ?_) rfl (by kernel_rfl) (by kernel_rfl) (by kernel_rfl) (fun _ _ _ h => h) (Or.inl ⟨by kernel_rfl, ?_⟩) (by assumption) ?_
                rotate_left
                · (intro w hSw; go_split_ands; go_simp; with_reducible rfl)
                simp only [Act.put]
                refine wpAnyH_ready (rs := [18]) (by kernel_rfl) (by simp) ?_
                refine AllReadyH.cons rfl (fun K hK => ?_) AllReadyH.nil
                go_simp
                refine (fixed_any w4 _ r _ _ R4.out HRM2.out).mono ?_
                rw [HF.out, HG.out]
                rintro e w5 ⟨hr5, hc5, A5, c5, rfl, ho5⟩
                have R5 := Lib.hid hr5
                have B5 := Lib.hid (below_chg B4.out hc5 (fun i _ h => by rw [h]; exact HR.out) B4.out.size)
                have ht5 := run_text (P := Try.prog) w5 35 9 5 (fun _ => True) A5 c5 l[j].b Try.underlying35 Try.underlying5 Try.underlying9 (Lies.of_own ho5 rfl (fun _ _ => trivial))
                clear hr5 hc5 ho5
                refine hK.out _ _ (HS.out _ B5) (fun hHeld => ?_)
                clear hK K
                refine wpAnyH_ready (rs := [19]) (by kernel_rfl) (by simp) ?_
                refine AllReadyH.cons rfl (fun K hK => ?_) AllReadyH.nil
                go_simp
                refine hK.out _ _ hHeld (fun hHeld => ?_)
                clear hK K
                refine wpAnyH_ready (rs := [26]) (by kernel_rfl) (by simp) ?_
                refine AllReadyH.cons rfl (fun K hK => ?_) AllReadyH.nil
                go_simp
                refine hK.out _ _ hHeld (fun hHeld => ?_)
                clear hK K
                refine wpAnyH_ready (rs := [27]) (by kernel_rfl) (by simp) ?_
                refine AllReadyH.cons rfl (fun K hK => ?_) AllReadyH.nil
                go_simp
                refine hK.out _ _ hHeld (fun hHeld => ?_)
                clear hK K
                refine wpAnyH_done (by kernel_rfl) ?_ _
                go_wp2
                go_roundw
                case rel => exact ⟨j + 1, by omega, by go_num, ⟨Q, R5.out⟩, B5⟩
                case measure => simp [intOf]; omega
          · have hfin : (RS.mk (codes (l.drop j)) 0).fin = 0 := by
              have : j = l.length := by omega
              rw [this, List.drop_length]
              rfl
            have HF := Lib.hid hfin
            clear hfin
            go_wp2_with (go_at_call 39; refine (end_any wr _ r _ hRd.out).mono ?_; rw [HF.out]; rintro e w' ⟨rfl, rfl⟩)
            go_ret
            exact ⟨rfl, hB.out⟩
  · go_enter Try.func5, Try.ntmps5
    go_wp2_with fail
    refine (awake1_any w).mono ?_
    rintro e w1 ⟨rfl, hb⟩
    have B1 := Lib.hid hb
    clear hb
    go_wp2
    go_ret
    exact ⟨rfl, B1.out⟩

end Go.Proofs.Ytniedfilhilhhaa
