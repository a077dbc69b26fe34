/- The document's example of layer 8: it answers true, and nothing that was there has changed. -/
import Derived.Test.YtniedfilhilhhaaRefD2
import Derived.Test.YtniedfilhilhhaaAwake1
import Derived.Test.YtniedfilhilhhaaRefD3
namespace Go.Proofs.Ytniedfilhilhhaa
open Go.RowKit

theorem lies_of_blk {w : World} {m : Nat} {t : TypeId} {l : List Value} (h : Blk w m t l.toArray) : Lies w (· = m) (some ⟨m, 0, none⟩) l := by
  intro _
  refine ⟨_, rfl, h.lt, rfl, fun j u hu => ?_⟩
  rw [add_none, Nat.zero_add, h.cell]
  simpa using hu

/-- The block that is written first, and the one that is torn. -/
def row1 : List UInt8 := zrow.set 0 7
def row2 : List UInt8 := (row1.set 0 8).set 1 9
def row3 : List UInt8 := row2.take 1 ++ row1.drop 1
theorem row1_len : row1.length = 128 := by simp [row1, zrow]
theorem row2_len : row2.length = 128 := by simp [row2, row1, zrow]
theorem row1_cells : zcells.setIfInBounds 0 (.int .u8 7) = (row1.map bv).toArray := by
  unfold zcells row1
  rw [List.map_set]
  simp [bv]
theorem row2_cells : ((row1.map bv).toArray.setIfInBounds 0 (.int .u8 8)).setIfInBounds 1 (.int .u8 9) = (row2.map bv).toArray := by
  unfold row2
  rw [List.map_set, List.map_set]
  simp [bv]

def dk0 : DS := fresh 2
def dk1 : DS := { dk0 with l := dk0.l.set 1 row1 }
def dk2 : DS := dk1.stop 0 1
def dk3 : DS := { dk2 with l := dk0.l.set 1 row3, down := true }
def dk4 : DS := dk3.restart
theorem write1 : dk0.write 1 row1 = (dk1, 0) := by
  have h1 : dk0.fine 1 = 0 := rfl
  have h2 : dk0.left = -1 := rfl
  unfold DS.write
  rw [if_neg (by rw [h1]; simp), if_neg (by rw [row1_len]; simp), if_neg (by rw [h2]; decide)]
  rfl
theorem write2 : dk2.write 1 row2 = (dk3, 30) := by
  have h1 : dk2.fine 1 = 0 := rfl
  have h2 : dk2.left = 0 := rfl
  have h3 : dk2.torn = 1 := rfl
  have h4 : dk2.l[(1 : Int).toNat]?.getD [] = row1 := rfl
  unfold DS.write
  rw [if_neg (by rw [h1]; simp), if_neg (by rw [row2_len]; simp), if_pos h2, h3, h4]
  rfl
theorem read4 : dk4.read 1 = row3 ∧ dk4.fine 1 = 0 := ⟨rfl, rfl⟩

set_option maxRecDepth 100000 in
set_option maxHeartbeats 3200000 in
theorem awake8_any (w : World) : Calls Try.prog 10 #[] w fun e w' => e = .returned (.bool true) ∧ Below w.heap.size w w' := by
  have hmk := run_make_zrow
  go_enter Try.func10, Try.ntmps10
  go_wp2_with fail
  refine (dnew_any w 2 (by decide) (by decide)).mono ?_
  rintro e w1 ⟨g, r, rfl, hg, hr, hk, hb⟩
  have K1 : Hid (Dk w1 g r dk0) := hk
  have HG := Lib.hid hg
  have HR := Lib.hid hr
  have B1 := Lib.hid hb
  clear hk hb hg hr
  have M0 : Hid (Blk (w1.alloc (.cells zcells 5)) w1.heap.size 5 zcells) := Blk.new w1 5 _
  have hz0 : zcells[0]? = some (.int .u8 0) := rfl
  have q0 := (M0.out.cell 0).trans hz0
  have f0 := M0.out.frozen 0
  go_upto_region 6 with fail
  have hmg : ¬ g = w1.heap.size := by have := K1.out.lt; omega
  have hmr : ¬ r = w1.heap.size := by have := K1.out.lt; omega
  have HMG := Lib.hid hmg
  have HMR := Lib.hid hmr
  have M1 : Hid (Blk (w1.alloc (.cells (zcells.setIfInBounds 0 (.int .u8 7)) 5)) w1.heap.size 5 (row1.map bv).toArray) := (Blk.new w1 5 _).to row1_cells
  have c1 : Chg (· = w1.heap.size) w1 (w1.alloc (.cells (zcells.setIfInBounds 0 (.int .u8 7)) 5)) := (Chg.refl (· = w1.heap.size) w1).alloc _
  have K2 := Lib.hid (K1.out.chg c1 hmg hmr)
  have B2 := Lib.hid (below_chg B1.out c1 (fun i _ h => by rw [h]; exact B1.out.size) B1.out.size)
  generalize w1.alloc (.cells (zcells.setIfInBounds 0 (.int .u8 7)) 5) = W2 at M1 K2 B2 ⊢
  clear c1 q0 f0 hmg hmr
  have hd := dwrite_any W2 (· = w1.heap.size) g r dk0 1 (some ⟨w1.heap.size, 0, none⟩) 128 row1 K2.out (lies_of_blk M1.out) (fun i hi => by have := HMG.out; have := HMR.out; omega)
  rw [row1_len, write1] at hd
  have HD := Lib.hid hd
  clear hd
  go_wp2_with fail
  refine HD.out.mono ?_
  clear HD
  rintro e w3 ⟨rfl, hk, hc⟩
  have K3 : Hid (Dk w3 g r dk1) := hk
  have M3 := Lib.hid (M1.out.chg hc (fun h => by have := HMG.out; have := HMR.out; omega))
  have B3 := Lib.hid (below_chg B2.out hc (fun i _ h => by have := HG.out; have := HR.out; omega) B2.out.size)
  clear hk hc
  go_wp2_with fail
  refine (stop_any w3 g r dk1 0 1 K3.out (by decide)).mono ?_
  rintro e w4 ⟨rfl, hk, hc⟩
  have K4 : Hid (Dk w4 g r dk2) := hk
  have M4 := Lib.hid (M3.out.chg hc (fun h => by have := HMG.out; omega))
  have B4 := Lib.hid (below_chg B3.out hc (fun i _ h => by have := HG.out; omega) B3.out.size)
  clear hk hc
  have q0 := (M4.out.cell 0).trans (by rfl : (row1.map bv).toArray[0]? = some (.int .u8 7))
  have f0 := M4.out.frozen 0
  have q1 := (M4.out.cell 1).trans (by rfl : (row1.map bv).toArray[1]? = some (.int .u8 0))
  have f1 := M4.out.frozen 1
  go_upto_region 10 with fail
  have M5 : Hid (Blk ((w4.setCell ⟨w1.heap.size, 0, none⟩ (.int .u8 8)).setCell ⟨w1.heap.size, 1, none⟩ (.int .u8 9)) w1.heap.size 5 (row2.map bv).toArray) := ((M4.out.put 0 (.int .u8 8)).put 1 (.int .u8 9)).to row2_cells
  have c5 := chg_two w4 w1.heap.size 0 1 (.int .u8 8) (.int .u8 9)
  have K5 := Lib.hid (K4.out.chg c5 HMG.out HMR.out)
  have B5 := Lib.hid (below_chg B4.out c5 (fun i _ h => by rw [h]; exact B1.out.size) B4.out.size)
  generalize (w4.setCell ⟨w1.heap.size, 0, none⟩ (.int .u8 8)).setCell ⟨w1.heap.size, 1, none⟩ (.int .u8 9) = W5 at M5 K5 B5 ⊢
  clear c5 q0 f0 q1 f1
  have hd := dwrite_any W5 (· = w1.heap.size) g r dk2 1 (some ⟨w1.heap.size, 0, none⟩) 128 row2 K5.out (lies_of_blk M5.out) (fun i hi => by have := HMG.out; have := HMR.out; omega)
  rw [row2_len, write2] at hd
  have HD := Lib.hid hd
  clear hd
  go_wp2_with fail
  refine HD.out.mono ?_
  clear HD
  rintro e w6 ⟨rfl, hk, hc⟩
  have K6 : Hid (Dk w6 g r dk3) := hk
  have B6 := Lib.hid (below_chg B5.out hc (fun i _ h => by have := HG.out; have := HR.out; omega) B5.out.size)
  clear hk hc
  go_wp2_with fail
  refine (down_any w6 g r dk3 K6.out).mono ?_
  rintro e w7 ⟨rfl, rfl⟩
  go_wp2_with fail
  refine (restart_any w6 g r dk3 K6.out).mono ?_
  rintro e w7 ⟨rfl, hk, hc⟩
  have K7 : Hid (Dk w7 g r dk4) := hk
  have B7 := Lib.hid (below_chg B6.out hc (fun i _ h => by have := HG.out; omega) B6.out.size)
  clear hk hc
  go_wp2_with fail
  have hd := dread_any w7 g r dk4 1 K7.out
  rw [read4.1, read4.2] at hd
  refine hd.mono ?_
  clear hd
  rintro e w8 ⟨A, c, rfl, ho, hb⟩
  have hl3 : row3.length = 128 := rfl
  rw [hl3] at ho
  obtain ⟨m, rfl, hm⟩ := own_addr9 ho (by decide)
  have hq0 : w8.cell? ⟨m, 0, none⟩ = some (.int .u8 8) := by have := ho.cells (g := m) rfl 0 (.int .u8 8) rfl; rwa [add_none, Nat.zero_add] at this
  have hq1 : w8.cell? ⟨m, 1, none⟩ = some (.int .u8 0) := by have := ho.cells (g := m) rfl 1 (.int .u8 0) rfl; rwa [add_none, Nat.zero_add] at this
  have hdown : dk3.down = true := rfl
  have K8 := Lib.hid (K7.out.chg (Chg.new hb (fun _ => False)) (fun h => h) (fun h => h))
  have B8 := Lib.hid (B7.out.trans (hb.mono B7.out.size))
  clear ho hb hm
  go_wp2_with fail
  refine (len_any w8 g r dk4 K8.out).mono ?_
  rintro e w9 ⟨rfl, rfl⟩
  have hlen : dk4.l.length = 2 := rfl
  go_wp2
  go_ret
  exact ⟨rfl, B8.out⟩

end Go.Proofs.Ytniedfilhilhhaa
