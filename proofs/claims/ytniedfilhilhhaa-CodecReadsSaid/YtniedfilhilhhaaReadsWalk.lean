/- CodecReads, walked. -/
import Derived.Test.YtniedfilhilhhaaAwake1
import Derived.Test.YtniedfilhilhhaaRef6
import Derived.Test.YtniedfilhilhhaaRef7
import Derived.Test.YtniedfilhilhhaaRow32
import Derived.Deep.RegionHeld3
namespace Go.Proofs.Ytniedfilhilhhaa
open Go.RowKit

/-- The acts that came in, as they lie. -/
def ActsAt (w : World) (A : Option Addr) (l : List (Int × Int)) : Prop := ∀ i (h : i < l.length), ∃ ad, A = some ad ∧ ad.block < w.heap.size ∧ w.cell? (ad.add (i * 2)) = some (.int .i64 l[i].1) ∧
  w.cell? ⟨(ad.add (i * 2)).block, (ad.add (i * 2)).off + 1, none⟩ = some (.int .i64 l[i].2) ∧ -9223372036854775808 ≤ l[i].1 ∧ l[i].1 ≤ 9223372036854775807 ∧ l[i].2 ≤ 9223372036854775807

theorem Rd.mono {w : World} {Q Q' : Nat → Prop} {g : Nat} {s : RS} (h : Rd w Q g s) (hq : ∀ i, Q i → Q' i) : Rd w Q' g s := by
  obtain ⟨A, c, h1, h2, h3, h4⟩ := h
  exact ⟨A, c, h1, h2.mono (fun i _ h => ⟨hq i h.1, h.2⟩), h3, h4⟩

theorem reads_put {n : Nat} {w w6 : World} {p g : Nat} {s' : RS} {a b : Value} (R : Rd w6 (fun k => k < p) g s') (P : Blk w6 p 76 #[a, b]) (B : Below n w w6) (hn : n ≤ p) (hg : g < p) :
    Hid (Rd ((w6.setCell ⟨p, 0, none⟩ (.string ⟨s'.l.toArray⟩)).setCell ⟨p, 1, none⟩ (.int .i64 s'.e)) (fun k => k < p) g s') ∧
    Hid (Blk ((w6.setCell ⟨p, 0, none⟩ (.string ⟨s'.l.toArray⟩)).setCell ⟨p, 1, none⟩ (.int .i64 s'.e)) p 76 #[.string ⟨s'.l.toArray⟩, .int .i64 s'.e]) ∧
    Hid (Below n w ((w6.setCell ⟨p, 0, none⟩ (.string ⟨s'.l.toArray⟩)).setCell ⟨p, 1, none⟩ (.int .i64 s'.e))) :=
  ⟨(R.chg (Chg.at_ w6 p 0 _) (by omega) (fun i hi => by omega)).chg (Chg.at_ _ p 1 _) (by omega) (fun i hi => by omega), Lib.hid (by simpa using (P.put 0 (.string ⟨s'.l.toArray⟩)).put 1 (.int .i64 s'.e)), (B.setCell hn _).setCell hn _⟩

theorem own_lies {w : World} {base : Nat} {n c : Nat} {A : Option Addr} {xs : List Value} (h : w.ownsRow base 5 1 (.slice A n c) n xs) : Lies w (fun i => base ≤ i) A xs :=
  Lies.of_own h rfl (fun g hg => by
    rcases h.2 with ⟨h0, _⟩ | ⟨g', cap, cur, h0, hb, _⟩
    · rw [h0] at hg; simp [Value.ownBlock] at hg
    · rw [h0] at hg
      simp [Value.ownBlock] at hg
      omega)

theorem lies_put {w6 : World} {m p : Nat} {A : Option Addr} {xs : List Value} (h : Lies w6 (fun i => m ≤ i) A xs) (hp : p < m) (x y : Value) :
    Lies ((w6.setCell ⟨p, 0, none⟩ x).setCell ⟨p, 1, none⟩ y) (fun i => m ≤ i) A xs :=
  (h.chg (Chg.at_ _ p 0 _) (fun i hi => by omega)).chg (Chg.at_ _ p 1 _) (fun i hi => by omega)

abbrev zeros32 : Array Value := #[.int .u8 0, .int .u8 0, .int .u8 0, .int .u8 0, .int .u8 0, .int .u8 0, .int .u8 0, .int .u8 0, .int .u8 0, .int .u8 0, .int .u8 0, .int .u8 0, .int .u8 0, .int .u8 0, .int .u8 0, .int .u8 0, .int .u8 0, .int .u8 0, .int .u8 0, .int .u8 0, .int .u8 0, .int .u8 0, .int .u8 0, .int .u8 0, .int .u8 0, .int .u8 0, .int .u8 0, .int .u8 0, .int .u8 0, .int .u8 0, .int .u8 0, .int .u8 0]
theorem fail_len (s : RS) (x : Int) : (s.fail x).l = s.l := by unfold RS.fail; split <;> rfl
theorem bytes_le (s : RS) (n : Int) : (s.bytes n).1.l.length ≤ s.l.length := by
  unfold RS.bytes
  have h := uint_le s
  split
  · exact h
  · split
    · rw [fail_len]; exact h
    · exact Nat.le_trans (take_le _ _) h
theorem bool_le (s : RS) : s.bool.1.l.length ≤ s.l.length := by
  have h := take_le s 1
  unfold RS.bool
  split
  · rename_i t b he
    rw [he] at h
    split
    · rw [fail_len]; exact h
    · exact h
  · rename_i t x _ he
    rw [he] at h
    exact h

set_option maxRecDepth 100000 in
set_option maxHeartbeats 3200000 in
theorem reads_walk (w : World) (B : Option Addr) (cb : Nat) (bs : List UInt8) (A : Option Addr) (ca : Nat) (l : List (Int × Int)) (h : Lies w (fun _ => True) B (bs.map bv)) (ha : ActsAt w A l) :
    Calls Try.prog 9 #[.slice B bs.length cb, .slice A l.length ca] w fun e w' => e = .returned (.bool true) ∧ Below w.heap.size w w' := by
  have HL := Lib.hid (h.mono (Q' := fun i => i < w.heap.size) (fun i hi _ => hi))
  have HA := Lib.hid ha
  clear h ha
  by_cases hlen : bs.length ≤ 600
  · have hnl : ¬ (600 : Int) < (bs.length : Int) := by omega
    go_enter Try.func9, Try.ntmps9
    go_wp2_with fail
    refine (awake1_any w).mono ?_
    rintro e w1 ⟨rfl, hb⟩
    have B1 := Lib.hid hb
    clear hb
    have hl1 : Lies w1 (fun i => i < w.heap.size) B (bs.map bv) := HL.out.chg (Chg.new B1.out (fun _ => False)) (fun _ _ h => h)
    have HL1 := Lib.hid hl1
    clear hl1
    go_wp2_with fail
    refine (new_any w1 _ B cb bs HL1.out (room_small (by omega))).mono ?_
    rintro e w2 ⟨g, rfl, hg, hr2, hb2⟩
    have B2 := Lib.hid (B1.out.trans (hb2.mono B1.out.size))
    have R2 := Lib.hid hr2
    have HG : Hid (w.heap.size ≤ g) := Nat.le_trans B1.out.size hg
    have ht := run_text (P := Try.prog) w2 35 9 5 (fun i => i < w.heap.size) B cb bs Try.underlying35 Try.underlying5 Try.underlying9 (HL.out.chg (Chg.new B2.out (fun _ => False)) (fun _ _ h => h))
    clear hr2 hb2 hg
    go_wp2
    have P0 : Hid (Blk (w2.alloc (.cells #[.string ⟨bs.toArray⟩, .int .i64 0] 76)) w2.heap.size 76 #[.string ⟨bs.toArray⟩, .int .i64 0]) := Blk.new w2 76 _
    have B3 : Hid (Below w.heap.size w (w2.alloc (.cells #[.string ⟨bs.toArray⟩, .int .i64 0] 76))) := B2.out.alloc B2.out.size _
    have HGP : Hid (g < w2.heap.size) := R2.out.lt
    have HNP : Hid (w.heap.size ≤ w2.heap.size) := B2.out.size
    have R3 : Hid (Rd (w2.alloc (.cells #[.string ⟨bs.toArray⟩, .int .i64 0] 76)) (fun k => k < w2.heap.size) g ⟨bs, 0⟩) := (R2.out.mono (fun i h => h.2)).chg ((Chg.refl (fun _ => False) w2).alloc _) (fun h => h) (fun _ _ h => h)
    clear ht
    go_loopw [8] (fun v8 wr => ∃ (i : Nat) (s : RS), i ≤ l.length ∧ v8 = .int .i64 i ∧ Hid (Rd wr (fun k => k < w2.heap.size) g s) ∧ Hid (Blk wr w2.heap.size 76 #[.string ⟨s.l.toArray⟩, .int .i64 s.e]) ∧ Hid (s.l.length ≤ room) ∧ Hid (Below w.heap.size w wr)) (fun v8 _ => l.length - (intOf v8).toNat)
    case atStart => exact ⟨0, ⟨bs, 0⟩, Nat.zero_le _, rfl, R3, P0, room_small (by show bs.length ≤ _; omega), B3⟩
    case round =>
      obtain ⟨i, s, hi, rfl, hR, hP, hS, hB⟩ := hrel
      by_cases hlt : i < l.length
      · by_cases h40 : i < 40
        · obtain ⟨ad, rfl, had, p0, p1, hk0, hk1, hk2⟩ := HA.out i hlt
          have HAC : Hid (∀ W : World, Hid (Below w.heap.size w W) → W.cell? (ad.add (i * 2)) = some (.int .i64 l[i].1) ∧ W.cell? ⟨(ad.add (i * 2)).block, (ad.add (i * 2)).off + 1, none⟩ = some (.int .i64 l[i].2)) :=
            fun W hb => ⟨(hb.out.cell (p := ad.add (i * 2)) (by rw [blk_add]; exact had)).trans p0, (hb.out.cell (p := ⟨(ad.add (i * 2)).block, (ad.add (i * 2)).off + 1, none⟩) (by show (ad.add (i * 2)).block < _; rw [blk_add]; exact had)).trans p1⟩
          have HK : Hid (l[i].2 ≤ 9223372036854775807) := hk2
          obtain ⟨c0, c1⟩ := HAC.out wr hB
          clear p0 p1 had
          go_upto_region 18 with fail
          rename_i K3 a3 K2 a2 K1 a1 K0 a0
          have tail : ∀ (v4 v9 v10 v11 v12 v13 v14 v15 v16 v17 v18 v19 v20 v21 v22 v23 v24 v36 v37 v38 v39 v40 v41 v42 v43 v44 v45 v46 v47 v48 v49 v50 v51 v52 v53 v54 v55 v56 v57 v58 v59 v60 v61 v62 v63 v64 v65 v66 v67 v68 v69 v70 v71 v72 v73 v74 v75 v76 v77 v78 v79 v80 v81 v82 v83 v84 v85 v86 v87 v88 v89 v90 v91 v92 v93 v94 v95 v96 v97 v98 v99 v100 v101 v102 v103 v104 v105 v106 v107 v108 v109 v110 v111 v112 v113 v114 v115 v116 v117 v118 v119 v120 v121 v122 v123 v124 v125 v126 v127 v128 v129 v130 v131 v132 v133 v134 v135 v136 v137 v138 v139 v140 v141 v142 v143 : Value) (W : World) (s' : RS), Hid (Rd W (fun k => k < w2.heap.size) g s') → Hid (Blk W w2.heap.size 76 #[.string ⟨s'.l.toArray⟩, .int .i64 s'.e]) → Hid (s'.l.length ≤ room) → Hid (Below w.heap.size w W) → K2 ⟨#[.slice B bs.length cb, .slice (some ad) l.length ca, undef, undef, v4, .bool true, ptr g, .pointer (some ⟨w2.heap.size, 0, none⟩), .int .i64 (i : Int), v9, v10, v11, v12, v13, v14, v15, v16, v17, v18, v19, v20, v21, v22, v23, v24, .bool true, .bool true, .bool false, .slice B bs.length cb, .int .i64 (bs.length : Int), .bool (decide ((600 : Int) < bs.length)), .slice B bs.length cb, ptr g, .slice B bs.length cb, .string ⟨bs.toArray⟩, .agg #[.string ⟨bs.toArray⟩, .int .i64 0], v36, v37, v38, v39, v40, v41, v42, v43, v44, v45, v46, v47, v48, v49, v50, v51, v52, v53, v54, v55, v56, v57, v58, v59, v60, v61, v62, v63, v64, v65, v66, v67, v68, v69, v70, v71, v72, v73, v74, v75, v76, v77, v78, v79, v80, v81, v82, v83, v84, v85, v86, v87, v88, v89, v90, v91, v92, v93, v94, v95, v96, v97, v98, v99, v100, v101, v102, v103, v104, v105, v106, v107, v108, v109, v110, v111, v112, v113, v114, v115, v116, v117, v118, v119, v120, v121, v122, v123, v124, v125, v126, v127, v128, v129, v130, v131, v132, v133, v134, v135, v136, v137, v138, v139, v140, v141, v142, v143], []⟩ W := by
            intro v4 v9 v10 v11 v12 v13 v14 v15 v16 v17 v18 v19 v20 v21 v22 v23 v24 v36 v37 v38 v39 v40 v41 v42 v43 v44 v45 v46 v47 v48 v49 v50 v51 v52 v53 v54 v55 v56 v57 v58 v59 v60 v61 v62 v63 v64 v65 v66 v67 v68 v69 v70 v71 v72 v73 v74 v75 v76 v77 v78 v79 v80 v81 v82 v83 v84 v85 v86 v87 v88 v89 v90 v91 v92 v93 v94 v95 v96 v97 v98 v99 v100 v101 v102 v103 v104 v105 v106 v107 v108 v109 v110 v111 v112 v113 v114 v115 v116 v117 v118 v119 v120 v121 v122 v123 v124 v125 v126 v127 v128 v129 v130 v131 v132 v133 v134 v135 v136 v137 v138 v139 v140 v141 v142 v143 W s' hR hP hS hB
            apply a2
            go_upto_region 43 with fail
            refine wp_region_held_drew (S := fun w' => Hid (Blk w' w2.heap.size 76 #[.string ⟨s'.l.toArray⟩, .int .i64 s'.e]) ∧ Hid (Rd w' (fun k => k < w2.heap.size) g s') ∧ Hid (Below w.heap.size w w')) (by kernel_rfl) ⟨hP, hR, hB.out.drew⟩ (fun hHeld => ?_)
            refine wpAnyH_take (i := 0) (v := ?_) rfl (by kernel_rfl) (by kernel_rfl) (by kernel_rfl) (fun _ _ _ h => h) (Or.inl ⟨by kernel_rfl, ?_⟩) (by assumption) ?_
            rotate_left
            · (intro w hSw; obtain ⟨hx, hr, hb⟩ := hSw; obtain ⟨k0, k1, _, _⟩ := box_facts hx.out; go_simp; with_reducible rfl)
            simp only [Act.put]
            refine wpAnyH_take (i := 2) (v := ?_) rfl (by kernel_rfl) (by kernel_rfl) (by kernel_rfl) (fun _ _ _ h => h) (Or.inl ⟨by kernel_rfl, ?_⟩) (by assumption) ?_
            rotate_left
            · (intro w hSw; obtain ⟨hx, hr, hb⟩ := hSw; obtain ⟨k0, k1, _, _⟩ := box_facts hx.out; go_simp; with_reducible rfl)
            simp only [Act.put]
            refine wpAnyH_take (i := 3) (v := ?_) rfl (by kernel_rfl) (by kernel_rfl) (by kernel_rfl) (fun _ _ _ h => h) (Or.inl ⟨by kernel_rfl, ?_⟩) (by assumption) ?_
            rotate_left
            · (intro w hSw; obtain ⟨hx, hr, hb⟩ := hSw; obtain ⟨k0, k1, _, _⟩ := box_facts hx.out; go_simp; with_reducible rfl)
            simp only [Act.put]
            refine wpAnyH_ready (rs := [1]) (by kernel_rfl) (by simp) ?_
            refine AllReadyH.cons rfl (fun K hK => ?_) AllReadyH.nil
            go_simp
            refine (err_any _ _ g s' hHeld.2.1.out).mono ?_
            rintro e w5 ⟨rfl, rfl⟩
            refine hK.out _ _ hHeld (fun hHeld => ?_)
            clear hK K
            refine wpAnyH_take (i := 4) (v := .bool false) rfl (by kernel_rfl) (by kernel_rfl) (by kernel_rfl) (fun _ _ _ h => h) (Or.inl ⟨by kernel_rfl, ?_⟩) (by assumption) ?_
            · (intro w hSw; go_simp)
            simp only [Act.put]
            refine wpAnyH_take (i := 5) (v := .bool false) rfl (by kernel_rfl) (by kernel_rfl) (by kernel_rfl) (fun _ _ _ h => h) (Or.inl ⟨by kernel_rfl, ?_⟩) (by assumption) ?_
            · (intro w hSw; go_simp)
            simp only [Act.put]
            refine wpAnyH_take (i := 6) (v := ?_) rfl (by kernel_rfl) (by kernel_rfl) (by kernel_rfl) (fun _ _ _ h => h) (Or.inl ⟨by kernel_rfl, ?_⟩) (by assumption) ?_
            rotate_left
            · (intro w hSw; obtain ⟨hx, hr, hb⟩ := hSw; obtain ⟨k0, k1, _, _⟩ := box_facts hx.out; go_simp; with_reducible rfl)
            simp only [Act.put]
            refine wpAnyH_take (i := 8) (v := ?_) rfl (by kernel_rfl) (by kernel_rfl) (by kernel_rfl) (fun _ _ _ h => h) (Or.inl ⟨by kernel_rfl, ?_⟩) (by assumption) ?_
            rotate_left
            · (intro w hSw; obtain ⟨hx, hr, hb⟩ := hSw; obtain ⟨k0, k1, _, _⟩ := box_facts hx.out; go_simp; with_reducible rfl)
            simp only [Act.put]
            refine wpAnyH_ready (rs := [7]) (by kernel_rfl) (by simp) ?_
            refine AllReadyH.cons rfl (fun K hK => ?_) AllReadyH.nil
            go_simp
            refine (end_any _ _ g s' hHeld.2.1.out).mono ?_
            rintro e w5 ⟨rfl, rfl⟩
            refine hK.out _ _ hHeld (fun hHeld => ?_)
            clear hK K
            refine wpAnyH_ready (rs := [9]) (by kernel_rfl) (by simp) ?_
            refine AllReadyH.cons rfl (fun K hK => ?_) AllReadyH.nil
            go_simp
            refine (rend_any _ s').mono ?_
            rintro e w5 ⟨rfl, hb5⟩
            have hn5 := Chg.new hb5 (fun _ => False)
            have B5 : Hid (Below w.heap.size w w5) := hHeld.2.2.out.trans (hb5.mono hHeld.2.2.out.size)
            have P5 : Hid (Blk w5 w2.heap.size 76 #[.string ⟨s'.l.toArray⟩, .int .i64 s'.e]) := hHeld.1.out.chg hn5 (fun h => h)
            have R5 : Hid (Rd w5 (fun k => k < w2.heap.size) g s') := hHeld.2.1.out.chg hn5 (fun h => h) (fun _ _ h => h)
            refine hK.out _ _ ⟨P5, R5, B5⟩ (fun hHeld => ?_)
            clear hK K hb5 hn5
            refine wpAnyH_take (i := 10) (v := .bool false) rfl (by kernel_rfl) (by kernel_rfl) (by kernel_rfl) (fun _ _ _ h => h) (Or.inl ⟨by kernel_rfl, ?_⟩) (by assumption) ?_
            · (intro w hSw; go_simp)
            simp only [Act.put]
            refine wpAnyH_take (i := 11) (v := .bool false) rfl (by kernel_rfl) (by kernel_rfl) (by kernel_rfl) (fun _ _ _ h => h) (Or.inl ⟨by kernel_rfl, ?_⟩) (by assumption) ?_
            · (intro w hSw; go_simp)
            simp only [Act.put]
            refine wpAnyH_done (by kernel_rfl) ?_ _
            go_wp2
            refine ⟨⟨i + 1, s', hlt, by simp, R5, P5, hS, B5⟩, ?_⟩
            simp [intOf]
            omega
          have RA : Hid (Rd (wr.alloc (.cells #[.int .i64 l[i].1, .int .i64 l[i].2] 78)) (fun k => k < w2.heap.size) g s) := hR.out.chg ((Chg.refl (fun _ => False) wr).alloc _) (fun h => h) (fun _ _ h => h)
          have PA : Hid (Blk (wr.alloc (.cells #[.int .i64 l[i].1, .int .i64 l[i].2] 78)) w2.heap.size 76 #[.string ⟨s.l.toArray⟩, .int .i64 s.e]) := hP.out.alloc _
          have BA : Hid (Below w.heap.size w (wr.alloc (.cells #[.int .i64 l[i].1, .int .i64 l[i].2] 78))) := hB.out.alloc hB.out.size _
          have QA : Hid (Blk (wr.alloc (.cells #[.int .i64 l[i].1, .int .i64 l[i].2] 78)) wr.heap.size 78 #[.int .i64 l[i].1, .int .i64 l[i].2]) := Blk.new wr 78 _
          have LA : Hid (w2.heap.size < wr.heap.size) := hP.out.lt
          have TA := Lib.hid tail
          generalize wr.alloc (.cells #[.int .i64 l[i].1, .int .i64 l[i].2] 78) = W3 at RA PA BA QA ⊢
          clear a2 hR hP hB c0 c1 hk0 hk1 tail
          rcases (show (l[i].1.tmod 5 = 0 ∨ l[i].1.tmod 5 = 1) ∨ l[i].1.tmod 5 = 2 ∨ l[i].1.tmod 5 = 3 ∨ l[i].1.tmod 5 = 4 ∨ (l[i].1.tmod 5 ≠ 0 ∧ l[i].1.tmod 5 ≠ 1 ∧ l[i].1.tmod 5 ≠ 2 ∧ l[i].1.tmod 5 ≠ 3 ∧ l[i].1.tmod 5 ≠ 4) by omega) with hk | hk | hk | hk | hk
          · rcases hk with hk | hk
            · go_wp2_with fail
              refine (uint_any _ _ g s RA.out).mono ?_
              rintro e w5 ⟨rfl, hr5, hc5⟩
              have R5 := Lib.hid hr5
              have P5 := Lib.hid (PA.out.chg hc5 (fun h => by have := HGP.out; omega))
              have Q5 := Lib.hid (QA.out.chg hc5 (fun h => by have := HGP.out; have := LA.out; omega))
              have B5 := Lib.hid (below_chg BA.out hc5 (fun i _ h => by rw [h]; exact HG.out) BA.out.size)
              clear hr5 hc5
              obtain ⟨k0, k1, f0, f1⟩ := box_facts P5.out
              have q1 := Q5.out.cell 1
              simp at q1
              go_wp2_with fail
              refine (ruint_any _ s).mono ?_
              rintro e w6 ⟨rfl, hb6⟩
              have hn6 := Chg.new hb6 (fun _ => False)
              have R6 := Lib.hid (R5.out.chg hn6 (fun h => h) (fun _ _ h => h))
              have P6 := Lib.hid (P5.out.chg hn6 (fun h => h))
              have B6 : Hid (Below w.heap.size w w6) := B5.out.trans (hb6.mono B5.out.size)
              clear hb6 hn6 k0 k1 f0 f1 q1
              go_upto_region 22 with fail
              have R6a : Hid (Rd (w6.alloc (.cells #[.string ⟨(s.uint.1).l.toArray⟩, .int .i64 (s.uint.1).e] 76)) (fun k => k < w2.heap.size) g (s.uint.1)) := R6.out.chg ((Chg.refl (fun _ => False) w6).alloc _) (fun h => h) (fun _ _ h => h)
              have P6a : Hid (Blk (w6.alloc (.cells #[.string ⟨(s.uint.1).l.toArray⟩, .int .i64 (s.uint.1).e] 76)) w2.heap.size 76 #[.string ⟨s.l.toArray⟩, .int .i64 s.e]) := P6.out.alloc _
              have B6a : Hid (Below w.heap.size w (w6.alloc (.cells #[.string ⟨(s.uint.1).l.toArray⟩, .int .i64 (s.uint.1).e] 76))) := B6.out.alloc B6.out.size _
              have N6a := Blk.new w6 76 #[.string ⟨(s.uint.1).l.toArray⟩, .int .i64 (s.uint.1).e]
              generalize w6.alloc (.cells #[.string ⟨(s.uint.1).l.toArray⟩, .int .i64 (s.uint.1).e] 76) = W6 at R6a P6a B6a N6a ⊢
              obtain ⟨k0, k1, f0, f1⟩ := box_facts P6a.out
              obtain ⟨k2, k3, _, _⟩ := box_facts N6a
              obtain ⟨R7, P7, B7⟩ := reads_put (s' := s.uint.1) R6a.out P6a.out B6a.out HNP.out HGP.out
              have HS7 : Hid ((s.uint.1).l.length ≤ room) := Nat.le_trans (uint_le s) hS.out
              clear N6a
              go_wp2
              exact TA.out _ _ _ _ _ _ _ _ _ _ _ _ _ _ _ _ _ _ _ _ _ _ _ _ _ _ _ _ _ _ _ _ _ _ _ _ _ _ _ _ _ _ _ _ _ _ _ _ _ _ _ _ _ _ _ _ _ _ _ _ _ _ _ _ _ _ _ _ _ _ _ _ _ _ _ _ _ _ _ _ _ _ _ _ _ _ _ _ _ _ _ _ _ _ _ _ _ _ _ _ _ _ _ _ _ _ _ _ _ _ _ _ _ _ _ _ _ _ _ _ _ _ _ _ _ _ _ R7 P7 HS7 B7
            · go_wp2_with fail
              refine (uint_any _ _ g s RA.out).mono ?_
              rintro e w5 ⟨rfl, hr5, hc5⟩
              have R5 := Lib.hid hr5
              have P5 := Lib.hid (PA.out.chg hc5 (fun h => by have := HGP.out; omega))
              have Q5 := Lib.hid (QA.out.chg hc5 (fun h => by have := HGP.out; have := LA.out; omega))
              have B5 := Lib.hid (below_chg BA.out hc5 (fun i _ h => by rw [h]; exact HG.out) BA.out.size)
              clear hr5 hc5
              obtain ⟨k0, k1, f0, f1⟩ := box_facts P5.out
              have q1 := Q5.out.cell 1
              simp at q1
              go_wp2_with fail
              refine (ruint_any _ s).mono ?_
              rintro e w6 ⟨rfl, hb6⟩
              have hn6 := Chg.new hb6 (fun _ => False)
              have R6 := Lib.hid (R5.out.chg hn6 (fun h => h) (fun _ _ h => h))
              have P6 := Lib.hid (P5.out.chg hn6 (fun h => h))
              have B6 : Hid (Below w.heap.size w w6) := B5.out.trans (hb6.mono B5.out.size)
              clear hb6 hn6 k0 k1 f0 f1 q1
              go_upto_region 22 with fail
              have R6a : Hid (Rd (w6.alloc (.cells #[.string ⟨(s.uint.1).l.toArray⟩, .int .i64 (s.uint.1).e] 76)) (fun k => k < w2.heap.size) g (s.uint.1)) := R6.out.chg ((Chg.refl (fun _ => False) w6).alloc _) (fun h => h) (fun _ _ h => h)
              have P6a : Hid (Blk (w6.alloc (.cells #[.string ⟨(s.uint.1).l.toArray⟩, .int .i64 (s.uint.1).e] 76)) w2.heap.size 76 #[.string ⟨s.l.toArray⟩, .int .i64 s.e]) := P6.out.alloc _
              have B6a : Hid (Below w.heap.size w (w6.alloc (.cells #[.string ⟨(s.uint.1).l.toArray⟩, .int .i64 (s.uint.1).e] 76))) := B6.out.alloc B6.out.size _
              have N6a := Blk.new w6 76 #[.string ⟨(s.uint.1).l.toArray⟩, .int .i64 (s.uint.1).e]
              generalize w6.alloc (.cells #[.string ⟨(s.uint.1).l.toArray⟩, .int .i64 (s.uint.1).e] 76) = W6 at R6a P6a B6a N6a ⊢
              obtain ⟨k0, k1, f0, f1⟩ := box_facts P6a.out
              obtain ⟨k2, k3, _, _⟩ := box_facts N6a
              obtain ⟨R7, P7, B7⟩ := reads_put (s' := s.uint.1) R6a.out P6a.out B6a.out HNP.out HGP.out
              have HS7 : Hid ((s.uint.1).l.length ≤ room) := Nat.le_trans (uint_le s) hS.out
              clear N6a
              go_wp2
              exact TA.out _ _ _ _ _ _ _ _ _ _ _ _ _ _ _ _ _ _ _ _ _ _ _ _ _ _ _ _ _ _ _ _ _ _ _ _ _ _ _ _ _ _ _ _ _ _ _ _ _ _ _ _ _ _ _ _ _ _ _ _ _ _ _ _ _ _ _ _ _ _ _ _ _ _ _ _ _ _ _ _ _ _ _ _ _ _ _ _ _ _ _ _ _ _ _ _ _ _ _ _ _ _ _ _ _ _ _ _ _ _ _ _ _ _ _ _ _ _ _ _ _ _ _ _ _ _ _ R7 P7 HS7 B7
          · have q1 := QA.out.cell 1
            simp at q1
            go_wp2_with fail
            refine (bytes_any _ _ g s l[i].2 RA.out hS.out HK).mono ?_
            rintro e w5 ⟨hr5, hc5, A5, c5, rfl, ho5⟩
            have hl5 := own_lies ho5
            have R5 := Lib.hid hr5
            have P5 := Lib.hid (PA.out.chg hc5 (fun h => by have := HGP.out; omega))
            have Q5 := Lib.hid (QA.out.chg hc5 (fun h => by have := HGP.out; have := LA.out; omega))
            have B5 := Lib.hid (below_chg BA.out hc5 (fun i _ h => by rw [h]; exact HG.out) BA.out.size)
            clear hr5 hc5 ho5
            clear q1
            obtain ⟨k0, k1, f0, f1⟩ := box_facts P5.out
            have q1 := Q5.out.cell 1
            simp at q1
            go_wp2_with fail
            refine (rbytes_any _ s l[i].2 HK).mono ?_
            rintro e w6 ⟨rfl, hb6⟩
            have hn6 := Chg.new hb6 (fun _ => False)
            have R6 := Lib.hid (R5.out.chg hn6 (fun h => h) (fun _ _ h => h))
            have P6 := Lib.hid (P5.out.chg hn6 (fun h => h))
            have B6 : Hid (Below w.heap.size w w6) := B5.out.trans (hb6.mono B5.out.size)
            have hl6 := hl5.chg hn6 (fun _ _ h => h)
            clear hb6 hn6 k0 k1 f0 f1 q1 hl5
            go_upto_region 28 with fail
            have R6a : Hid (Rd (w6.alloc (.cells #[.string ⟨((s.bytes l[i].2).1).l.toArray⟩, .int .i64 ((s.bytes l[i].2).1).e] 76)) (fun k => k < w2.heap.size) g ((s.bytes l[i].2).1)) := R6.out.chg ((Chg.refl (fun _ => False) w6).alloc _) (fun h => h) (fun _ _ h => h)
            have P6a : Hid (Blk (w6.alloc (.cells #[.string ⟨((s.bytes l[i].2).1).l.toArray⟩, .int .i64 ((s.bytes l[i].2).1).e] 76)) w2.heap.size 76 #[.string ⟨s.l.toArray⟩, .int .i64 s.e]) := P6.out.alloc _
            have B6a : Hid (Below w.heap.size w (w6.alloc (.cells #[.string ⟨((s.bytes l[i].2).1).l.toArray⟩, .int .i64 ((s.bytes l[i].2).1).e] 76))) := B6.out.alloc B6.out.size _
            have N6a := Blk.new w6 76 #[.string ⟨((s.bytes l[i].2).1).l.toArray⟩, .int .i64 ((s.bytes l[i].2).1).e]
            have hl7 := hl6.chg ((Chg.refl (fun _ => False) w6).alloc (.cells #[.string ⟨((s.bytes l[i].2).1).l.toArray⟩, .int .i64 ((s.bytes l[i].2).1).e] 76)) (fun _ _ h => h)
            generalize w6.alloc (.cells #[.string ⟨((s.bytes l[i].2).1).l.toArray⟩, .int .i64 ((s.bytes l[i].2).1).e] 76) = W6 at R6a P6a B6a N6a hl7 ⊢
            obtain ⟨k0, k1, f0, f1⟩ := box_facts P6a.out
            obtain ⟨k2, k3, _, _⟩ := box_facts N6a
            obtain ⟨R7, P7, B7⟩ := reads_put (s' := (s.bytes l[i].2).1) R6a.out P6a.out B6a.out HNP.out HGP.out
            have HS7 : Hid (((s.bytes l[i].2).1).l.length ≤ room) := Nat.le_trans (bytes_le s l[i].2) hS.out
            clear N6a hl6
            go_upto_region 29 with fail
            have ht7 := run_text (P := Try.prog) ((W6.setCell ⟨w2.heap.size, 0, none⟩ (.string ⟨((s.bytes l[i].2).1).l.toArray⟩)).setCell ⟨w2.heap.size, 1, none⟩ (.int .i64 ((s.bytes l[i].2).1).e)) 35 9 5 (fun i => W3.heap.size ≤ i) A5 c5 (s.bytes l[i].2).2 Try.underlying35 Try.underlying5 Try.underlying9 (lies_put hl7 (by have := LA.out; have := QA.out.lt; omega) _ _)
            generalize (W6.setCell ⟨w2.heap.size, 0, none⟩ (.string ⟨((s.bytes l[i].2).1).l.toArray⟩)).setCell ⟨w2.heap.size, 1, none⟩ (.int .i64 ((s.bytes l[i].2).1).e) = W7 at R7 P7 B7 ht7 ⊢
            clear k0 k1 k2 k3 f0 f1 hl7
            go_wp2
            exact TA.out _ _ _ _ _ _ _ _ _ _ _ _ _ _ _ _ _ _ _ _ _ _ _ _ _ _ _ _ _ _ _ _ _ _ _ _ _ _ _ _ _ _ _ _ _ _ _ _ _ _ _ _ _ _ _ _ _ _ _ _ _ _ _ _ _ _ _ _ _ _ _ _ _ _ _ _ _ _ _ _ _ _ _ _ _ _ _ _ _ _ _ _ _ _ _ _ _ _ _ _ _ _ _ _ _ _ _ _ _ _ _ _ _ _ _ _ _ _ _ _ _ _ _ _ _ _ _ R7 P7 HS7 B7
          · have q1 := QA.out.cell 1
            simp at q1
            go_wp2_with fail
            refine (fixed_any _ _ g s l[i].2 RA.out hS.out).mono ?_
            rintro e w5 ⟨hr5, hc5, A5, c5, rfl, ho5⟩
            have hl5 := own_lies ho5
            have R5 := Lib.hid hr5
            have P5 := Lib.hid (PA.out.chg hc5 (fun h => by have := HGP.out; omega))
            have Q5 := Lib.hid (QA.out.chg hc5 (fun h => by have := HGP.out; have := LA.out; omega))
            have B5 := Lib.hid (below_chg BA.out hc5 (fun i _ h => by rw [h]; exact HG.out) BA.out.size)
            clear hr5 hc5 ho5
            clear q1
            obtain ⟨k0, k1, f0, f1⟩ := box_facts P5.out
            have q1 := Q5.out.cell 1
            simp at q1
            go_wp2_with fail
            refine (rfixed_any _ s l[i].2).mono ?_
            rintro e w6 ⟨rfl, hb6⟩
            have hn6 := Chg.new hb6 (fun _ => False)
            have R6 := Lib.hid (R5.out.chg hn6 (fun h => h) (fun _ _ h => h))
            have P6 := Lib.hid (P5.out.chg hn6 (fun h => h))
            have B6 : Hid (Below w.heap.size w w6) := B5.out.trans (hb6.mono B5.out.size)
            have hl6 := hl5.chg hn6 (fun _ _ h => h)
            clear hb6 hn6 k0 k1 f0 f1 q1 hl5
            go_upto_region 34 with fail
            have R6a : Hid (Rd (w6.alloc (.cells #[.string ⟨((s.take l[i].2).1).l.toArray⟩, .int .i64 ((s.take l[i].2).1).e] 76)) (fun k => k < w2.heap.size) g ((s.take l[i].2).1)) := R6.out.chg ((Chg.refl (fun _ => False) w6).alloc _) (fun h => h) (fun _ _ h => h)
            have P6a : Hid (Blk (w6.alloc (.cells #[.string ⟨((s.take l[i].2).1).l.toArray⟩, .int .i64 ((s.take l[i].2).1).e] 76)) w2.heap.size 76 #[.string ⟨s.l.toArray⟩, .int .i64 s.e]) := P6.out.alloc _
            have B6a : Hid (Below w.heap.size w (w6.alloc (.cells #[.string ⟨((s.take l[i].2).1).l.toArray⟩, .int .i64 ((s.take l[i].2).1).e] 76))) := B6.out.alloc B6.out.size _
            have N6a := Blk.new w6 76 #[.string ⟨((s.take l[i].2).1).l.toArray⟩, .int .i64 ((s.take l[i].2).1).e]
            have hl7 := hl6.chg ((Chg.refl (fun _ => False) w6).alloc (.cells #[.string ⟨((s.take l[i].2).1).l.toArray⟩, .int .i64 ((s.take l[i].2).1).e] 76)) (fun _ _ h => h)
            generalize w6.alloc (.cells #[.string ⟨((s.take l[i].2).1).l.toArray⟩, .int .i64 ((s.take l[i].2).1).e] 76) = W6 at R6a P6a B6a N6a hl7 ⊢
            obtain ⟨k0, k1, f0, f1⟩ := box_facts P6a.out
            obtain ⟨k2, k3, _, _⟩ := box_facts N6a
            obtain ⟨R7, P7, B7⟩ := reads_put (s' := (s.take l[i].2).1) R6a.out P6a.out B6a.out HNP.out HGP.out
            have HS7 : Hid (((s.take l[i].2).1).l.length ≤ room) := Nat.le_trans (take_le s l[i].2) hS.out
            clear N6a hl6
            go_upto_region 35 with fail
            have ht7 := run_text (P := Try.prog) ((W6.setCell ⟨w2.heap.size, 0, none⟩ (.string ⟨((s.take l[i].2).1).l.toArray⟩)).setCell ⟨w2.heap.size, 1, none⟩ (.int .i64 ((s.take l[i].2).1).e)) 35 9 5 (fun i => W3.heap.size ≤ i) A5 c5 (s.got l[i].2) Try.underlying35 Try.underlying5 Try.underlying9 (lies_put hl7 (by have := LA.out; have := QA.out.lt; omega) _ _)
            generalize (W6.setCell ⟨w2.heap.size, 0, none⟩ (.string ⟨((s.take l[i].2).1).l.toArray⟩)).setCell ⟨w2.heap.size, 1, none⟩ (.int .i64 ((s.take l[i].2).1).e) = W7 at R7 P7 B7 ht7 ⊢
            clear k0 k1 k2 k3 f0 f1 hl7
            go_wp2
            exact TA.out _ _ _ _ _ _ _ _ _ _ _ _ _ _ _ _ _ _ _ _ _ _ _ _ _ _ _ _ _ _ _ _ _ _ _ _ _ _ _ _ _ _ _ _ _ _ _ _ _ _ _ _ _ _ _ _ _ _ _ _ _ _ _ _ _ _ _ _ _ _ _ _ _ _ _ _ _ _ _ _ _ _ _ _ _ _ _ _ _ _ _ _ _ _ _ _ _ _ _ _ _ _ _ _ _ _ _ _ _ _ _ _ _ _ _ _ _ _ _ _ _ _ _ _ _ _ _ R7 P7 HS7 B7
          · go_wp2_with fail
            refine (bool_any _ _ g s RA.out).mono ?_
            rintro e w5 ⟨rfl, hr5, hc5⟩
            have R5 := Lib.hid hr5
            have P5 := Lib.hid (PA.out.chg hc5 (fun h => by have := HGP.out; omega))
            have Q5 := Lib.hid (QA.out.chg hc5 (fun h => by have := HGP.out; have := LA.out; omega))
            have B5 := Lib.hid (below_chg BA.out hc5 (fun i _ h => by rw [h]; exact HG.out) BA.out.size)
            clear hr5 hc5
            obtain ⟨k0, k1, f0, f1⟩ := box_facts P5.out
            have q1 := Q5.out.cell 1
            simp at q1
            go_wp2_with fail
            refine (rbool_any _ s).mono ?_
            rintro e w6 ⟨rfl, hb6⟩
            have hn6 := Chg.new hb6 (fun _ => False)
            have R6 := Lib.hid (R5.out.chg hn6 (fun h => h) (fun _ _ h => h))
            have P6 := Lib.hid (P5.out.chg hn6 (fun h => h))
            have B6 : Hid (Below w.heap.size w w6) := B5.out.trans (hb6.mono B5.out.size)
            clear hb6 hn6 k0 k1 f0 f1 q1
            go_upto_region 40 with fail
            have R6a : Hid (Rd (w6.alloc (.cells #[.string ⟨(s.bool.1).l.toArray⟩, .int .i64 (s.bool.1).e] 76)) (fun k => k < w2.heap.size) g (s.bool.1)) := R6.out.chg ((Chg.refl (fun _ => False) w6).alloc _) (fun h => h) (fun _ _ h => h)
            have P6a : Hid (Blk (w6.alloc (.cells #[.string ⟨(s.bool.1).l.toArray⟩, .int .i64 (s.bool.1).e] 76)) w2.heap.size 76 #[.string ⟨s.l.toArray⟩, .int .i64 s.e]) := P6.out.alloc _
            have B6a : Hid (Below w.heap.size w (w6.alloc (.cells #[.string ⟨(s.bool.1).l.toArray⟩, .int .i64 (s.bool.1).e] 76))) := B6.out.alloc B6.out.size _
            have N6a := Blk.new w6 76 #[.string ⟨(s.bool.1).l.toArray⟩, .int .i64 (s.bool.1).e]
            generalize w6.alloc (.cells #[.string ⟨(s.bool.1).l.toArray⟩, .int .i64 (s.bool.1).e] 76) = W6 at R6a P6a B6a N6a ⊢
            obtain ⟨k0, k1, f0, f1⟩ := box_facts P6a.out
            obtain ⟨k2, k3, _, _⟩ := box_facts N6a
            obtain ⟨R7, P7, B7⟩ := reads_put (s' := s.bool.1) R6a.out P6a.out B6a.out HNP.out HGP.out
            have HS7 : Hid ((s.bool.1).l.length ≤ room) := Nat.le_trans (bool_le s) hS.out
            clear N6a
            go_upto_region 41 with fail
            generalize (W6.setCell ⟨w2.heap.size, 0, none⟩ (.string ⟨s.bool.1.l.toArray⟩)).setCell ⟨w2.heap.size, 1, none⟩ (.int .i64 s.bool.1.e) = W7 at R7 P7 B7 ⊢
            clear k0 k1 k2 k3 f0 f1
            obtain ⟨k0, k1, _, _⟩ := box_facts P7.out
            by_cases he : s.bool.1.e = 0
            · have he' : (s.bool.1.e == 0) = true := by simpa using he
              go_wp2
              exact TA.out _ _ _ _ _ _ _ _ _ _ _ _ _ _ _ _ _ _ _ _ _ _ _ _ _ _ _ _ _ _ _ _ _ _ _ _ _ _ _ _ _ _ _ _ _ _ _ _ _ _ _ _ _ _ _ _ _ _ _ _ _ _ _ _ _ _ _ _ _ _ _ _ _ _ _ _ _ _ _ _ _ _ _ _ _ _ _ _ _ _ _ _ _ _ _ _ _ _ _ _ _ _ _ _ _ _ _ _ _ _ _ _ _ _ _ _ _ _ _ _ _ _ _ _ _ _ _ R7 P7 HS7 B7
            · have he' : (s.bool.1.e == 0) = false := by simpa using he
              go_wp2
              exact TA.out _ _ _ _ _ _ _ _ _ _ _ _ _ _ _ _ _ _ _ _ _ _ _ _ _ _ _ _ _ _ _ _ _ _ _ _ _ _ _ _ _ _ _ _ _ _ _ _ _ _ _ _ _ _ _ _ _ _ _ _ _ _ _ _ _ _ _ _ _ _ _ _ _ _ _ _ _ _ _ _ _ _ _ _ _ _ _ _ _ _ _ _ _ _ _ _ _ _ _ _ _ _ _ _ _ _ _ _ _ _ _ _ _ _ _ _ _ _ _ _ _ _ _ _ _ _ _ R7 P7 HS7 B7
          · go_wp2_with fail
            refine (id_any _ _ g s RA.out (fun i hi => by have := LA.out; have := QA.out.lt; omega)).mono ?_
            rintro e w5 ⟨rfl, hr5, hc5⟩
            have R5 := Lib.hid hr5
            have P5 := Lib.hid (PA.out.chg hc5 (fun h => by have := HGP.out; omega))
            have B5 := Lib.hid (below_chg BA.out hc5 (fun i _ h => by rw [h]; exact HG.out) BA.out.size)
            clear hr5 hc5
            have HZ : Hid (zeros32.size = 32) := rfl
            go_upto_region 14 with (refine wpList_store_row rfl 86 (.tmp 22) (.tmp 54) rfl w5.heap.size (s.id.map bv).toArray rfl rfl 86 zeros32 (Blk.new w5 86 _) (by rw [info86]; simp [id_len]) (by rw [HZ.out]; simp [id_len]) (bytes_one _) ?_)
            have hz5 : Blk ((w5.alloc (.cells zeros32 86)).setRow w5.heap.size (s.id.map bv).toArray) w5.heap.size 86 (s.id.map bv).toArray := setRow_heap _ w5.heap.size zeros32 _ 86 _ (Blk.new w5 86 _)
            have hc5 : Chg (· = w5.heap.size) w5 ((w5.alloc (.cells zeros32 86)).setRow w5.heap.size (s.id.map bv).toArray) := ((Chg.refl (· = w5.heap.size) w5).alloc _).trans (chg_setRow _ _ _) (fun _ _ e => e)
            have L5 : Hid (w2.heap.size < w5.heap.size) := P5.out.lt
            have L5g : Hid (g < w5.heap.size) := R5.out.lt
            have R5a := Lib.hid (R5.out.chg hc5 (by have := L5g.out; omega) (fun i hi => by have := L5.out; omega))
            have P5a := Lib.hid (P5.out.chg hc5 (by have := L5.out; omega))
            have B5a := Lib.hid (below_chg B5.out hc5 (fun i _ h => by rw [h]; exact B5.out.size) B5.out.size)
            have Z5a := Lib.hid hz5
            generalize (w5.alloc (.cells zeros32 86)).setRow w5.heap.size (s.id.map bv).toArray = W5 at R5a P5a B5a Z5a ⊢
            clear hz5 hc5 R5 P5 B5
            obtain ⟨k0, k1, f0, f1⟩ := box_facts P5a.out
            go_wp2_with fail
            refine (rid_any _ s).mono ?_
            rintro e w6 ⟨rfl, hb6⟩
            have hn6 := Chg.new hb6 (fun _ => False)
            have R6 := Lib.hid (R5a.out.chg hn6 (fun h => h) (fun _ _ h => h))
            have P6 := Lib.hid (P5a.out.chg hn6 (fun h => h))
            have Z6 := Lib.hid (Z5a.out.chg hn6 (fun h => h))
            have B6 : Hid (Below w.heap.size w w6) := B5a.out.trans (hb6.mono B5a.out.size)
            clear hb6 hn6 k0 k1 f0 f1
            have hnew : Blk ((w6.alloc (.cells #[.string ⟨(s.take 32).1.l.toArray⟩, .int .i64 (s.take 32).1.e] 76)).alloc (.cells zeros32 86)) (w6.heap.size + 1) 86 zeros32 := by have := Blk.new (w6.alloc (.cells #[.string ⟨(s.take 32).1.l.toArray⟩, .int .i64 (s.take 32).1.e] 76)) 86 zeros32; simpa using this
            go_upto_region 15 with (refine wpList_store_row rfl 86 (.tmp 24) (.tmp 59) rfl (w6.heap.size + 1) (s.id.map bv).toArray rfl rfl 86 zeros32 hnew (by rw [info86]; simp [id_len]) (by rw [HZ.out]; simp [id_len]) (bytes_one _) ?_)
            have hz7 : Blk (((w6.alloc (.cells #[.string ⟨(s.take 32).1.l.toArray⟩, .int .i64 (s.take 32).1.e] 76)).alloc (.cells zeros32 86)).setRow (w6.heap.size + 1) (s.id.map bv).toArray) (w6.heap.size + 1) 86 (s.id.map bv).toArray := setRow_heap _ (w6.heap.size + 1) zeros32 _ 86 _ hnew
            have hc7 : Chg (· = w6.heap.size + 1) w6 (((w6.alloc (.cells #[.string ⟨(s.take 32).1.l.toArray⟩, .int .i64 (s.take 32).1.e] 76)).alloc (.cells zeros32 86)).setRow (w6.heap.size + 1) (s.id.map bv).toArray) := (((Chg.refl (· = w6.heap.size + 1) w6).alloc _).alloc _).trans (chg_setRow _ _ _) (fun _ _ e => e)
            have L6 : Hid (w2.heap.size < w6.heap.size) := P6.out.lt
            have L6g : Hid (g < w6.heap.size) := R6.out.lt
            have L6z : Hid (w5.heap.size < w6.heap.size) := Z6.out.lt
            have R6a := Lib.hid (R6.out.chg hc7 (by have := L6g.out; omega) (fun i hi => by have := L6.out; omega))
            have P6a := Lib.hid (P6.out.chg hc7 (by have := L6.out; omega))
            have Z6a := Lib.hid (Z6.out.chg hc7 (by have := L6z.out; omega))
            have B6a := Lib.hid (below_chg B6.out hc7 (fun i _ h => by rw [h]; exact Nat.le_succ_of_le B6.out.size) B6.out.size)
            have N6a : Blk (((w6.alloc (.cells #[.string ⟨(s.take 32).1.l.toArray⟩, .int .i64 (s.take 32).1.e] 76)).alloc (.cells zeros32 86)).setRow (w6.heap.size + 1) (s.id.map bv).toArray) w6.heap.size 76 #[.string ⟨(s.take 32).1.l.toArray⟩, .int .i64 (s.take 32).1.e] := ((Blk.new w6 76 _).alloc _).chg (chg_setRow _ _ _) (by omega)
            have Y6a := Lib.hid hz7
            generalize ((w6.alloc (.cells #[.string ⟨(s.take 32).1.l.toArray⟩, .int .i64 (s.take 32).1.e] 76)).alloc (.cells zeros32 86)).setRow (w6.heap.size + 1) (s.id.map bv).toArray = W6 at R6a P6a B6a Z6a N6a Y6a ⊢
            clear hz7 hc7 R6 P6 B6 Z6 hnew
            obtain ⟨k0, k1, f0, f1⟩ := box_facts P6a.out
            obtain ⟨k2, k3, _, _⟩ := box_facts N6a
            obtain ⟨R7, P7, B7⟩ := reads_put (s' := (s.take 32).1) R6a.out P6a.out B6a.out HNP.out HGP.out
            have HS7 : Hid ((s.take 32).1.l.length ≤ room) := Nat.le_trans (take_le s 32) hS.out
            have Z7 := Lib.hid ((Z6a.out.chg (Chg.at_ _ w2.heap.size 0 (.string ⟨(s.take 32).1.l.toArray⟩)) (by have := L5.out; omega)).chg (Chg.at_ _ w2.heap.size 1 (.int .i64 (s.take 32).1.e)) (by have := L5.out; omega))
            have Y7 := Lib.hid ((Y6a.out.chg (Chg.at_ _ w2.heap.size 0 (.string ⟨(s.take 32).1.l.toArray⟩)) (by have := L6.out; omega)).chg (Chg.at_ _ w2.heap.size 1 (.int .i64 (s.take 32).1.e)) (by have := L6.out; omega))
            go_upto_region 16 with fail
            generalize (W6.setCell ⟨w2.heap.size, 0, none⟩ (.string ⟨(s.take 32).1.l.toArray⟩)).setCell ⟨w2.heap.size, 1, none⟩ (.int .i64 (s.take 32).1.e) = W7 at R7 P7 B7 Z7 Y7 ⊢
            clear N6a k0 k1 k2 k3 f0 f1
            have hne := ids_same W7 s.id (id_len s)
            have hgd := run_eqGuard_agg (P := Try.prog) W7 .neq 86 (.tmp 61) (.tmp 62) (s.id.map bv).toArray (s.id.map bv).toArray (by kernel_rfl)
            go_wp2_with (first | (refine wpList_load_row rfl 86 (.tmp 22) rfl w5.heap.size rfl 86 (s.id.map bv).toArray (0, 0) _ Z7.out Try.underlying86 rfl (by rw [info86]; simp [id_len]) ?_) | (refine wpList_load_row rfl 86 (.tmp 24) rfl (w6.heap.size + 1) rfl 86 (s.id.map bv).toArray (0, 0) _ Y7.out Try.underlying86 rfl (by rw [info86]; simp [id_len]) ?_))
            exact TA.out _ _ _ _ _ _ _ _ _ _ _ _ _ _ _ _ _ _ _ _ _ _ _ _ _ _ _ _ _ _ _ _ _ _ _ _ _ _ _ _ _ _ _ _ _ _ _ _ _ _ _ _ _ _ _ _ _ _ _ _ _ _ _ _ _ _ _ _ _ _ _ _ _ _ _ _ _ _ _ _ _ _ _ _ _ _ _ _ _ _ _ _ _ _ _ _ _ _ _ _ _ _ _ _ _ _ _ _ _ _ _ _ _ _ _ _ _ _ _ _ _ _ _ _ _ _ _ R7 P7 HS7 B7
        · go_wp2
          go_ret
          exact ⟨rfl, hB.out⟩
      · go_wp2
        go_ret
        exact ⟨rfl, hB.out⟩
  · have hnl : (600 : Int) < (bs.length : Int) := by omega
    go_enter Try.func9, Try.ntmps9
    go_wp2_with fail
    refine (awake1_any w).mono ?_
    rintro e w1 ⟨rfl, hb⟩
    have B1 := Lib.hid hb
    clear hb
    go_wp2
    go_ret
    exact ⟨rfl, B1.out⟩

end Go.Proofs.Ytniedfilhilhhaa
