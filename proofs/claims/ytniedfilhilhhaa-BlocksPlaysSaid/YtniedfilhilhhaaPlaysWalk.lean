/- BlocksPlays, walked. -/
import Derived.Test.YtniedfilhilhhaaPlaysState
import Derived.Deep.CutBlock
namespace Go.Proofs.Ytniedfilhilhhaa
open Go.RowKit

set_option maxRecDepth 100000 in
set_option maxHeartbeats 3200000 in
theorem plays_walk (w : World) (n : Int) (A : Option Addr) (ca : Nat) (l : List Do) (ha : DosAt w A l) :
    Calls Try.prog 3 #[.int .i64 n, .slice A l.length ca] w fun e w' => e = .returned (.bool true) ∧ Below w.heap.size w w' := by
  have HA := Lib.hid ha
  clear ha
  rcases (show (n < 1 ∨ 65536 < n) ∨ (50 < n ∧ n ≤ 65536) ∨ (1 ≤ n ∧ n ≤ 50) by omega) with hn | hn | hn
  · have hlen : l.length = 0 ∨ 0 < l.length := by omega
    rcases hlen with hlen | hlen <;> rcases hn with hn' | hn'
    all_goals
      go_enter Try.func3, Try.ntmps3
      go_wp2_with fail
      refine (awake8_any w).mono ?_
      rintro e w1 ⟨rfl, hb⟩
      have B1 := Lib.hid hb
      clear hb
      go_wp2_with fail
      refine (dnew_bad w1 n (by omega)).mono ?_
      rintro e w2 ⟨rfl, rfl⟩
      go_wp2_with fail
      refine (rnewd_bad w1 n (by omega)).mono ?_
      rintro e w3 ⟨rfl, hb⟩
      have B3 := Lib.hid (B1.out.trans (hb.mono B1.out.size))
      clear hb
      go_wp2
      refine wp_loop_rounds 1 ?_
      rw [rounds_succ]
      go_wp2
      go_ret
      exact ⟨rfl, B3.out.alloc B3.out.size _⟩
  · obtain ⟨h1, h2⟩ := hn
    go_enter Try.func3, Try.ntmps3
    go_wp2_with fail
    refine (awake8_any w).mono ?_
    rintro e w1 ⟨rfl, hb⟩
    have B1 := Lib.hid hb
    clear hb
    go_wp2
    go_ret
    exact ⟨rfl, B1.out⟩
  · obtain ⟨h1, h2⟩ := hn
    obtain ⟨N, rfl⟩ := Int.eq_ofNat_of_zero_le (show 0 ≤ n by omega)
    have hN1 : 1 ≤ N := by omega
    have hN2 : N ≤ 50 := by omega
    have HN1 := Lib.hid hN1
    have HN2 := Lib.hid hN2
    go_enter Try.func3, Try.ntmps3
    go_wp2_with fail
    refine (awake8_any w).mono ?_
    rintro e w1 ⟨rfl, hb⟩
    have B1 := Lib.hid hb
    clear hb
    go_wp2_with fail
    refine (dnew_any w1 N hN1 hN2).mono ?_
    rintro e w2 ⟨g, r, rfl, hg, hr, hk, hb⟩
    have K2 := Lib.hid hk
    have HG : Hid (w.heap.size ≤ g) := Nat.le_trans B1.out.size hg
    have HR : Hid (w.heap.size ≤ r) := Nat.le_trans B1.out.size hr
    have B2 := Lib.hid (B1.out.trans (hb.mono B1.out.size))
    clear hk hb hg hr
    go_wp2_with fail
    refine (rnewd_any w2 N hN1 hN2).mono ?_
    rintro e w3 ⟨A3, c3, rfl, hl, hb⟩
    have hn3 := Chg.new hb (fun _ => False)
    have S3 : Hid (Both w (w3.alloc (.cells #[.slice A3 (fresh N).l.length c3, .int .i64 (fresh N).left, .int .i64 ((fresh N).torn : Int), .bool (fresh N).down] 30)) g r w3.heap.size (fresh N) (fresh N) A3 c3) := by
      have hk3 := K2.out.chg hn3 (fun h => h) (fun h => h)
      have hlt := hk3.lt
      have hlt2 := K2.out.lt
      have h0 := B2.out.size
      have h3 := hb.size
      have hl3 : Lies w3 (fun j => w.heap.size ≤ j ∧ j ≠ g ∧ j ≠ r ∧ j ≠ w3.heap.size) A3 ((fresh N).l.map sv) := hl.mono (fun i hi h => by omega)
      have hc := (Chg.refl (fun _ => False) w3).alloc (.cells #[.slice A3 (fresh N).l.length c3, .int .i64 (fresh N).left, .int .i64 ((fresh N).torn : Int), .bool (fresh N).down] 30)
      refine ⟨hk3.chg hc (fun h => h) (fun h => h), Blk.new w3 30 _, hl3.chg hc (fun _ _ h => h), ?_, ⟨HG.out, HR.out, by omega⟩, ⟨by omega, by omega⟩⟩
      exact (B2.out.trans (hb.mono B2.out.size)).alloc (by omega) _
    clear hl hb hn3 HG HR K2 B1 B2
    go_wp2
    generalize w3.alloc (.cells #[.slice A3 (fresh N).l.length c3, .int .i64 (fresh N).left, .int .i64 ((fresh N).torn : Int), .bool (fresh N).down] 30) = W3 at S3 ⊢
    generalize hm : w3.heap.size = m at S3 ⊢
    clear hm h1 h2 hN1 hN2 HN1 HN2
    go_loopw [10] (fun v10 wr => ∃ (i : Nat) (s : DS) (A' : Option Addr) (c' : Nat), i ≤ l.length ∧ v10 = .int .i64 i ∧ Hid (Both w wr g r m s s A' c')) (fun v10 _ => l.length - (intOf v10).toNat)
    case atStart => exact ⟨0, fresh N, A3, c3, Nat.zero_le _, rfl, S3⟩
    case round =>
      obtain ⟨i, s, A', c', hi, rfl, hS⟩ := hrel
      clear S3
      by_cases hlt : i < l.length
      · by_cases h30 : i < 30
        · obtain ⟨ad, rfl, had, ⟨p0, p1, p2, p3, p4, p5⟩, hseed, hlen, hnn⟩ := HA.out i hlt
          have hBel : Hid (Below w.heap.size w wr) := hS.out.o
          have c0 := (hBel.out.cell (p := ad.add (i * 6)) (by rw [blk_add]; exact had)).trans p0
          have c1 := (hBel.out.cell (p := ⟨(ad.add (i * 6)).block, (ad.add (i * 6)).off + 1, none⟩) (by show (ad.add (i * 6)).block < _; rw [blk_add]; exact had)).trans p1
          have c2 := (hBel.out.cell (p := ⟨(ad.add (i * 6)).block, (ad.add (i * 6)).off + 2, none⟩) (by show (ad.add (i * 6)).block < _; rw [blk_add]; exact had)).trans p2
          have c3 := (hBel.out.cell (p := ⟨(ad.add (i * 6)).block, (ad.add (i * 6)).off + 3, none⟩) (by show (ad.add (i * 6)).block < _; rw [blk_add]; exact had)).trans p3
          have c4 := (hBel.out.cell (p := ⟨(ad.add (i * 6)).block, (ad.add (i * 6)).off + 4, none⟩) (by show (ad.add (i * 6)).block < _; rw [blk_add]; exact had)).trans p4
          have c5 := (hBel.out.cell (p := ⟨(ad.add (i * 6)).block, (ad.add (i * 6)).off + 5, none⟩) (by show (ad.add (i * 6)).block < _; rw [blk_add]; exact had)).trans p5
          have HSEED : Hid (l[i].seed < 256) := hseed
          have HLEN : Hid (l[i].len < 256) := hlen
          have HNN : Hid (l[i].n ≤ 9223372036854775807) := hnn
          have HLT := Lib.hid hlt
          generalize l[i] = a at c0 c1 c2 c3 c4 c5 HSEED HLEN HNN
          clear p0 p1 p2 p3 p4 p5 had hBel hseed hlen hnn
          go_upto_region 14 with fail
          have S4 := Lib.hid (hS.out.alloc (.cells #[.int .i64 a.kind, .int .i64 a.i, .int .u8 (a.seed : Int), .int .u8 (a.len : Int), .int .i64 a.n, .int .i64 a.torn] 34))
          have Q4 : Hid (Blk (wr.alloc (.cells #[.int .i64 a.kind, .int .i64 a.i, .int .u8 (a.seed : Int), .int .u8 (a.len : Int), .int .i64 a.n, .int .i64 a.torn] 34)) wr.heap.size 34 #[.int .i64 a.kind, .int .i64 a.i, .int .u8 (a.seed : Int), .int .u8 (a.len : Int), .int .i64 a.n, .int .i64 a.torn]) := Blk.new wr 34 _
          have HNE : Hid (wr.heap.size ≠ g ∧ wr.heap.size ≠ r ∧ wr.heap.size ≠ m) := by have := hS.out.lts; refine ⟨?_, ?_, ?_⟩ <;> omega
          generalize wr.alloc (.cells #[.int .i64 a.kind, .int .i64 a.i, .int .u8 (a.seed : Int), .int .u8 (a.len : Int), .int .i64 a.n, .int .i64 a.torn] 34) = W4 at S4 Q4 ⊢
          generalize wr.heap.size = am at Q4 HNE ⊢
          clear c0 c1 c2 c3 c4 c5 hS
          obtain ⟨q0, q1, q2, q3, q4, q5⟩ := box6 Q4.out
          have HFACT : Hid ((∀ b ∈ s.l, b.length = 128) ∧ s.l.length ≤ 50 ∧ -1 ≤ s.left ∧ s.left ≤ 9223372036854775807 ∧ s.torn ≤ 128) := S4.out.d.2.2
          go_upto_block 2 with fail
          generalize bits BinOp.and IntKind.i64 a.kind 7 = q
          go_cut [] from 50 to 151 (fun wc => ∃ (s' : DS) (A2 : Option Addr) (c2 : Nat), Hid (Both w wc g r m s' s' A2 c2))
          case first =>
            go_upto_if 75 with fail
            go_cut [70, 75] from 50 to 151 (fun v70 v75 wc => v70 = .int .i64 q ∧ v75 = .bool (decide (q = 0 ∨ q = 1 ∨ q = 2 ∨ q = 3)) ∧ W4 = wc)
            case first =>
              by_cases e0 : q = 0
              · subst e0
                go_wp2_with fail
                go_meet
                exact ⟨rfl, by simp, rfl⟩
              · have f0 : (q == 0) = false := by simpa using e0
                by_cases e1 : q = 1
                · subst e1
                  go_wp2_with fail
                  go_meet
                  exact ⟨rfl, by simp, rfl⟩
                · have f1 : (q == 1) = false := by simpa using e1
                  by_cases e2 : q = 2
                  · subst e2
                    go_wp2_with fail
                    go_meet
                    exact ⟨rfl, by simp, rfl⟩
                  · have f2 : (q == 2) = false := by simpa using e2
                    go_wp2_with fail
                    go_meet
                    exact ⟨rfl, by simp [e0, e1, e2]; rfl, rfl⟩
            case rest =>
              obtain ⟨rfl, rfl, rfl⟩ := hcut
              by_cases hA : q = 0 ∨ q = 1 ∨ q = 2 ∨ q = 3
              · have hd : decide (q = 0 ∨ q = 1 ∨ q = 2 ∨ q = 3) = true := by simpa using hA
                rw [hd]
                clear hd hA
                go_upto_if 82 with fail
                go_cut [12] from 50 to 151 (fun v12 wc => ∃ K : Nat, K ≤ 128 ∧ v12 = .int .i64 (K : Int) ∧ W4 = wc)
                case first =>
                  by_cases hL : a.len < 30
                  · go_wp2_with fail
                    go_meet
                    exact ⟨a.len, by omega, rfl, rfl⟩
                  · go_wp2_with fail
                    go_meet
                    exact ⟨128, by omega, rfl, rfl⟩
                case rest =>
                  obtain ⟨K, hK, rfl, rfl⟩ := hcut
                  have HK := Lib.hid hK
                  clear hK
                  go_wp2_with fail
                  refine (filled_any W4 a.seed K HSEED.out HK.out).mono ?_
                  generalize fill a.seed K = b
                  rintro e w5 ⟨A5, c5, rfl, ho5, hb5⟩
                  have L5 := Lib.hid (Lies.of_own (Q := fun j => W4.heap.size ≤ j) ho5 rfl (fun j hj => (ho5.lt j hj).1))
                  have S5 := Lib.hid (S4.out.new hb5)
                  have Q5 := Lib.hid (Q4.out.chg (Chg.new hb5 (fun _ => False)) (fun h => h))
                  clear ho5 hb5 q0 q1 q2 q3 q4 q5
                  obtain ⟨q0, q1, q2, q3, q4, q5⟩ := box6 Q5.out
                  go_wp2_with fail
                  refine (dwrite_any w5 (fun j => W4.heap.size ≤ j) g r s a.i A5 c5 b S5.out.d L5.out (fun j hj => by have := S4.out.lts; exact ⟨by omega, by omega⟩)).mono ?_
                  rintro e w6 ⟨rfl, hk6, hc6⟩
                  have S6 := Lib.hid (S5.out.disk hk6 hc6 (fun j h => h))
                  have Q6 := Lib.hid (Q5.out.chg hc6 (fun h => by have := HNE.out; omega))
                  have L6 := Lib.hid (L5.out.chg hc6 (fun j hj h => by have := S4.out.lts; omega))
                  clear hk6 hc6 q0 q1 q2 q3 q4 q5
                  obtain ⟨q0, q1, q2, q3, q4, q5⟩ := box6 Q6.out
                  obtain ⟨⟨k0, k1, k2, k3⟩, e0, e1, e2, e3⟩ := box4 S6.out.b
                  have htx := run_text (P := Try.prog) w6 35 9 5 _ A5 c5 b Try.underlying35 Try.underlying5 Try.underlying9 L6.out
                  go_wp2_with fail
                  refine (rwrited_any w6 _ A' c' s a.i b S6.out.l S6.out.q HFACT.out.1 HFACT.out.2.1 HFACT.out.2.2).mono ?_
                  rintro e w7 ⟨A7, c7, rfl, hl7, hb7⟩
                  generalize (s.write a.i b).1 = s' at S6 hl7 ⊢
                  generalize (s.write a.i b).2 = x
                  have S7 := Lib.hid ((S6.out.new hb7).alloc (.cells #[.slice A7 s'.l.length c7, .int .i64 s'.left, .int .i64 (s'.torn : Int), .bool s'.down] 30))
                  have L7 := Lib.hid (hl7.chg ((Chg.refl (fun _ => False) w7).alloc (.cells #[.slice A7 s'.l.length c7, .int .i64 s'.left, .int .i64 (s'.torn : Int), .bool s'.down] 30)) (fun _ _ h => h))
                  clear hl7 hb7 htx k0 k1 k2 k3 e0 e1 e2 e3 q0 q1 q2 q3 q4 q5
                  go_upto_region 27 with fail
                  have N7 := Blk.new w7 30 #[.slice A7 s'.l.length c7, .int .i64 s'.left, .int .i64 (s'.torn : Int), .bool s'.down]
                  generalize w7.alloc (.cells #[.slice A7 s'.l.length c7, .int .i64 s'.left, .int .i64 (s'.torn : Int), .bool s'.down] 30) = W7 at S7 L7 N7 ⊢
                  obtain ⟨⟨p0, p1, p2, p3⟩, _⟩ := box4 N7
                  obtain ⟨⟨k0, k1, k2, k3⟩, e0, e1, e2, e3⟩ := box4 S7.out.b
                  clear N7
                  go_upto_region 28 with fail
                  have S8 := Lib.hid (Both.put (A' := A7) (c' := c7) S7.out L7.out)
                  go_wp2_with fail
                  go_meet
                  exact ⟨s', A7, c7, S8⟩
              · have hd : decide (q = 0 ∨ q = 1 ∨ q = 2 ∨ q = 3) = false := by simpa using hA
                rw [hd]
                clear hd hA
                rcases (show (q = 4 ∨ q = 5) ∨ q = 6 ∨ (q ≠ 4 ∧ q ≠ 5 ∧ q ≠ 6) by omega) with hq | hq | hq
                · rcases hq with rfl | rfl
                  all_goals
                    go_wp2_with fail
                    refine (stop_any W4 g r s a.n a.torn S4.out.d HNN.out).mono ?_
                    have hsl : (s.stop a.n a.torn).l = s.l := rfl
                    generalize hs' : s.stop a.n a.torn = s' at hsl
                    have HSL := Lib.hid hsl
                    have HS' := Lib.hid hs'
                    clear hsl hs'
                    rintro e w5 ⟨rfl, hk5, hc5⟩
                    have S5 := Lib.hid (S4.out.disk hk5 hc5 (fun j h => .inl h))
                    have Q5 := Lib.hid (Q4.out.chg hc5 (fun h => by have := HNE.out; omega))
                    clear hk5 hc5 q0 q1 q2 q3 q4 q5
                    obtain ⟨q0, q1, q2, q3, q4, q5⟩ := box6 Q5.out
                    obtain ⟨⟨k0, k1, k2, k3⟩, e0, e1, e2, e3⟩ := box4 S5.out.b
                    go_wp2_with fail
                    refine (rstop_any w5 A' c' s a.n a.torn).mono ?_
                    rw [HS'.out]
                    rintro e w6 ⟨rfl, hb6⟩
                    have S6 := Lib.hid (S5.out.new hb6)
                    have L6 : Hid (Lies w6 (fun j => w.heap.size ≤ j ∧ j ≠ g ∧ j ≠ r ∧ j ≠ m) A' (s'.l.map sv)) := by rw [HSL.out]; exact S6.out.l
                    clear hb6 q0 q1 q2 q3 q4 q5 k0 k1 k2 k3 e0 e1 e2 e3
                    obtain ⟨⟨k0, k1, k2, k3⟩, e0, e1, e2, e3⟩ := box4 S6.out.b
                    have S7 := Lib.hid (Both.put (A' := A') (c' := c') S6.out L6.out)
                    go_wp2_with fail
                    go_meet
                    exact ⟨s', A', c', S7⟩
                · subst hq
                  go_wp2_with fail
                  refine (dread_any W4 g r s a.i S4.out.d).mono ?_
                  rintro e w5 ⟨A5, c5, rfl, ho5, hb5⟩
                  have L5 := Lib.hid (Lies.of_own (Q := fun j => W4.heap.size ≤ j) ho5 rfl (fun j hj => (ho5.lt j hj).1))
                  have S5 := Lib.hid (S4.out.new hb5)
                  have Q5 := Lib.hid (Q4.out.chg (Chg.new hb5 (fun _ => False)) (fun h => h))
                  clear ho5 hb5 q0 q1 q2 q3 q4 q5
                  obtain ⟨q0, q1, q2, q3, q4, q5⟩ := box6 Q5.out
                  obtain ⟨⟨k0, k1, k2, k3⟩, e0, e1, e2, e3⟩ := box4 S5.out.b
                  go_wp2_with fail
                  refine (rread_any w5 _ A' c' s a.i S5.out.l).mono ?_
                  generalize s.read a.i = t at L5 ⊢
                  generalize s.fine a.i = x
                  rintro e w6 ⟨rfl, hb6⟩
                  have S6 := Lib.hid (S5.out.new hb6)
                  have L6 := L5.out.chg (Chg.new hb6 (fun _ => False)) (fun _ _ h => h)
                  have htx := run_text (P := Try.prog) w6 35 9 5 _ A5 c5 t Try.underlying35 Try.underlying5 Try.underlying9 L6
                  clear hb6 L6 q0 q1 q2 q3 q4 q5 k0 k1 k2 k3 e0 e1 e2 e3
                  go_wp2_with fail
                  go_meet
                  exact ⟨s, A', c', S6⟩
                · have f4 : (q == 4) = false := by have := hq.1; simpa using this
                  have f5 : (q == 5) = false := by have := hq.2.1; simpa using this
                  have f6 : (q == 6) = false := by have := hq.2.2; simpa using this
                  clear hq
                  go_wp2_with fail
                  refine (restart_any W4 g r s S4.out.d).mono ?_
                  have hsl : s.restart.l = s.l := rfl
                  generalize hs' : s.restart = s' at hsl
                  have HSL := Lib.hid hsl
                  have HS' := Lib.hid hs'
                  clear hsl hs'
                  rintro e w5 ⟨rfl, hk5, hc5⟩
                  have S5 := Lib.hid (S4.out.disk hk5 hc5 (fun j h => .inl h))
                  clear hk5 hc5 q0 q1 q2 q3 q4 q5
                  obtain ⟨⟨k0, k1, k2, k3⟩, e0, e1, e2, e3⟩ := box4 S5.out.b
                  go_wp2_with fail
                  refine (rrestart_any w5 A' c' s).mono ?_
                  rw [HS'.out]
                  rintro e w6 ⟨rfl, hb6⟩
                  have S6 := Lib.hid (S5.out.new hb6)
                  have L6 : Hid (Lies w6 (fun j => w.heap.size ≤ j ∧ j ≠ g ∧ j ≠ r ∧ j ≠ m) A' (s'.l.map sv)) := by rw [HSL.out]; exact S6.out.l
                  clear hb6 k0 k1 k2 k3 e0 e1 e2 e3
                  obtain ⟨⟨k0, k1, k2, k3⟩, e0, e1, e2, e3⟩ := box4 S6.out.b
                  have S7 := Lib.hid (Both.put (A' := A') (c' := c') S6.out L6.out)
                  go_wp2_with fail
                  go_meet
                  exact ⟨s', A', c', S7⟩
          case rest =>
            obtain ⟨s', A2, c2, S8⟩ := hcut
            clear S4 Q4 HFACT
            obtain ⟨⟨k0, k1, k2, k3⟩, e0, e1, e2, e3⟩ := box4 S8.out.b
            go_wp2_with fail
            refine (like_any _ _ g r s' A2 c2 S8.out.d S8.out.l).mono ?_
            rintro e w9 ⟨rfl, hb9⟩
            have S9 := Lib.hid (S8.out.new hb9)
            clear hb9 k0 k1 k2 k3 e0 e1 e2 e3
            go_wp2
            go_roundw
            case rel =>
              exact ⟨i + 1, s', A2, c2, HLT.out, by simp, S9⟩
            case measure =>
              simp [intOf]
              omega
        · go_wp2
          go_ret
          exact ⟨rfl, hS.out.o⟩
      · go_wp2
        go_ret
        exact ⟨rfl, hS.out.o⟩

end Go.Proofs.Ytniedfilhilhhaa
