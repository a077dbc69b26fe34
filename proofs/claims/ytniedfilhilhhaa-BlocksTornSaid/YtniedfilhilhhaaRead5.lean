/- The reader's digest. -/
import Derived.Test.YtniedfilhilhhaaRead4
import Derived.Deep.RegionWith
import Derived.Deep.DeepCutAuto
import Derived.Laws.IdiomCopy
import Derived.Laws.CopyRow
import Derived.Laws.Tables
import Derived.RegionTactic
namespace Go.Proofs.Ytniedfilhilhhaa
open Go.RowKit

/-- The digest that is read: what was taken, else noughts. -/
def RS.id (s : RS) : List UInt8 := match (s.take 32).2 with
  | some t => t
  | none => List.replicate 32 0
theorem take_len {s : RS} {n : Nat} {t : List UInt8} (h : (s.take n).2 = some t) : t.length = n := by
  unfold RS.take at h
  split at h
  · cases h
  · split at h
    · cases h
    · split at h
      · cases h
      · injection h with h
        rw [← h, List.length_take]
        omega
theorem id_len (s : RS) : s.id.length = 32 := by
  unfold RS.id
  split
  · rename_i t h
    exact take_len (n := 32) h
  · simp

theorem bytes_one (t : List UInt8) : ((t.map bv).toArray.all fun v => v.oneCell') = true := by
  simp only [List.all_toArray, List.all_map, List.all_eq_true]
  intro _ _
  rfl
/-- Thirty-two noughts, as cells. -/
def noughts : List Value := (List.replicate 32 (0 : UInt8)).map bv

theorem info86 : (Try.prog.info? 86).map (·.size) = some 32 := by kernel_rfl
theorem size5' : (Try.prog.info? 5).map (·.size) = some 1 := by kernel_rfl
theorem chg_setRow (w : World) (g : Nat) (cs : Array Value) : Chg (· = g) w (w.setRow g cs) := ⟨rfl, rfl, rfl, by simp, fun k _ hk => setRow_other w g k cs (by simpa using hk)⟩

/-- The end of the body: the row of the result is laid, and loaded. -/
theorem id_ends {w W1 w5 w6 : World} {Q : Nat → Prop} {g : Nat} {s : RS} {t : List UInt8} {a : Act} {old : Array Value} (hn : Chg (fun _ => False) w W1) (h5 : Chg (· = g) W1 w5) (r5 : Rd w5 Q g (s.take 32).1) (hg : g < w.heap.size)
    (hq : ∀ i, Q i → i < w.heap.size) (b0 : Blk w6 w.heap.size 86 old) (h6 : Chg (· = w.heap.size + 1) w5 w6) (ht : s.id = t) (hl : t.length = 32) (htm : a.tmps.getD 2 undef = .pointer (some ⟨w.heap.size, 0, none⟩)) (hd : a.defers = []) :
    bodyPost Try.prog Try.f45 (fun e w' => e = .returned (.agg (s.id.map bv).toArray) ∧ Rd w' Q g (s.take 32).1 ∧ Chg (· = g) w w') .ret a (w6.setRow w.heap.size (t.map bv).toArray) := by
  have hb : Blk (w6.setRow w.heap.size (t.map bv).toArray) w.heap.size 86 (t.map bv).toArray := setRow_heap w6 w.heap.size old _ 86 _ b0
  have h7 : Chg (fun i => i = w.heap.size ∨ i = w.heap.size + 1) w5 (w6.setRow w.heap.size (t.map bv).toArray) :=
    (h6.mono (S' := fun i => i = w.heap.size ∨ i = w.heap.size + 1) (fun i _ e => .inr e)).trans (chg_setRow w6 w.heap.size _) (fun i _ e => .inl e)
  refine bodyPost_ret (v := .agg (t.map bv).toArray) (results_cell_row (by rfl) a.tmps _ w.heap.size 86 _ (0, 0) _ htm hb Try.underlying86 rfl (by rw [info86]; simp [hl])) hd ⟨by rw [ht], r5.chg h7 (by omega) (fun i hi => by have := hq i hi; omega), ?_⟩
  exact ((hn.mono (S' := (· = g)) (fun _ _ h => h.elim)).trans h5 (fun _ _ e => e)).trans h7 (fun i hi e => by omega)

set_option maxRecDepth 100000 in
set_option maxHeartbeats 800000 in
theorem id_any (w : World) (Q : Nat → Prop) (g : Nat) (s : RS) (h : Rd w Q g s) (hq : ∀ i, Q i → i < w.heap.size) :
    Calls Try.prog 45 #[ptr g] w fun e w' => e = .returned (.agg (s.id.map bv).toArray) ∧ Rd w' Q g (s.take 32).1 ∧ Chg (· = g) w w' := by
  have HH := Lib.hid h
  have HQ := Lib.hid hq
  clear h hq
  go_enter Try.func45, Try.ntmps45
  go_wp2_with fail
  have hz : (#[.int .u8 0, .int .u8 0, .int .u8 0, .int .u8 0, .int .u8 0, .int .u8 0, .int .u8 0, .int .u8 0, .int .u8 0, .int .u8 0, .int .u8 0, .int .u8 0, .int .u8 0, .int .u8 0, .int .u8 0, .int .u8 0, .int .u8 0, .int .u8 0, .int .u8 0, .int .u8 0, .int .u8 0, .int .u8 0, .int .u8 0, .int .u8 0, .int .u8 0, .int .u8 0, .int .u8 0, .int .u8 0, .int .u8 0, .int .u8 0, .int .u8 0, .int .u8 0] : Array Value) = noughts.toArray := by rfl
  rw [hz]
  have h0 := (Blk.new w 86 noughts.toArray).alloc (.cells noughts.toArray 86)
  have h1 : Blk ((w.alloc (.cells noughts.toArray 86)).alloc (.cells noughts.toArray 86)) (w.heap.size + 1) 86 noughts.toArray := by simpa using Blk.new (w.alloc (.cells noughts.toArray 86)) 86 noughts.toArray
  have hc : Chg (fun _ => False) w ((w.alloc (.cells noughts.toArray 86)).alloc (.cells noughts.toArray 86)) := ((Chg.refl _ w).alloc _).alloc _
  have hsz : ((w.alloc (.cells noughts.toArray 86)).alloc (.cells noughts.toArray 86)).heap.size = w.heap.size + 2 := by simp
  generalize (w.alloc (.cells noughts.toArray 86)).alloc (.cells noughts.toArray 86) = W1 at h0 h1 hc hsz ⊢
  have hr := HH.out.chg hc (fun h => h) (fun _ _ h => h)
  have HC := Lib.hid (take_any W1.drew Q g s 32 hr)
  have H0 := Lib.hid h0
  have H1 := Lib.hid h1
  have HN := Lib.hid hc
  clear h0 h1 hc hr hz hsz
  have HG : Hid (g < w.heap.size) := HH.out.lt
  cases ht : (s.take 32).2 with
  | some t =>
    have hlen : t.length = 32 := take_len (n := 32) ht
    have HI : Hid (s.id = t) := by unfold Hid RS.id; rw [ht]
    refine wp_region_any (by kernel_rfl) ?_
    change wpAny _ _ _ _ _ _ _ (World.drew _)
    refine wpAny_take (i := 0) (v := ?_) rfl (by kernel_rfl) (by kernel_rfl) (by kernel_rfl) (fun _ _ _ h => h) (Or.inl ⟨by rfl, ?_⟩) ?_
    rotate_left
    · (intro w; go_simp; with_reducible rfl)
    refine wpAny_take (i := 1) (v := ?_) rfl (by kernel_rfl) (by kernel_rfl) (by kernel_rfl) (fun _ _ _ h => h) (Or.inl ⟨by rfl, ?_⟩) ?_
    rotate_left
    · (intro w; go_simp; with_reducible rfl)
    refine wpAny_ready (rs := [2]) (by kernel_rfl) (by simp) ?_
    refine AllReady.cons rfl (fun K hK => ?_) AllReady.nil
    go_simp
    refine HC.out.mono ?_
    rintro e w5 ⟨hr5, hc5, hm⟩
    simp only [ht] at hm
    obtain ⟨A, c, rfl, hl, _, _⟩ := hm
    obtain ⟨ad, rfl, _, _, hcell⟩ := hl (by intro e; have := congrArg List.length e; simp [hlen] at this)
    have hc5' : Chg (· = g) W1 w5 := ⟨hc5.os, hc5.tape, hc5.output, hc5.size, hc5.block⟩
    have hgne : g ≠ w.heap.size ∧ g ≠ w.heap.size + 1 := by have := HG.out; omega
    have b0 : Blk w5 w.heap.size 86 noughts.toArray := H0.out.chg hc5' (fun h => hgne.1 h.symm)
    have b1 : Blk w5 (w.heap.size + 1) 86 noughts.toArray := H1.out.chg hc5' (fun h => hgne.2 h.symm)
    have hcp := fun ty => run_copy_row (P := Try.prog) w5 35 35 ty 5 (w.heap.size + 1) 0 32 32 ad 32 c noughts.toArray 86 (t.map bv) Try.underlying35 size5' b1 (by simp [hlen]) hcell (by simp [hlen, noughts]) (bv_one t)
    have hrow : (noughts.toArray.toList.take 0 ++ t.map bv ++ noughts.toArray.toList.drop (0 + (t.map bv).length)).toArray = (t.map bv).toArray := by simp [hlen, noughts]
    rw [hrow] at hcp
    have HB0 : Hid (Blk (w5.setRow (w.heap.size + 1) (t.map bv).toArray) w.heap.size 86 noughts.toArray) := (setRow_other w5 (w.heap.size + 1) w.heap.size _ (by omega)).trans b0
    have HB1 : Hid (Blk (w5.setRow (w.heap.size + 1) (t.map bv).toArray) (w.heap.size + 1) 86 (t.map bv).toArray) := setRow_heap w5 (w.heap.size + 1) noughts.toArray _ 86 _ b1
    have HR6 : Hid (Chg (· = w.heap.size + 1) w5 (w5.setRow (w.heap.size + 1) (t.map bv).toArray)) := chg_setRow _ _ _
    have R5 := Lib.hid hr5
    have C5 := Lib.hid hc5'
    have hln : (t.map bv).length = 32 := by simp [hlen]
    clear hr5 hc5 hc5' hl hcell hgne b0 b1 hrow
    refine hK _ _ ?_
    clear hK K
    refine wpAny_ready (rs := [3]) (by kernel_rfl) (by simp) ?_
    refine AllReady.cons rfl (fun K hK => ?_) AllReady.nil
    go_simp
    refine hK _ _ ?_
    clear hK K
    refine wpAny_done (by kernel_rfl) ?_ _
    go_wp2_with (first | (refine wpList_load_row rfl 86 (.tmp 3) rfl (w.heap.size + 1) rfl 86 (t.map bv).toArray (0, 0) _ HB1.out Try.underlying86 rfl (by rw [info86]; simp [hlen]) ?_) | (refine wpList_store_row rfl 86 (.tmp 2) (.tmp 8) rfl w.heap.size (t.map bv).toArray rfl rfl 86 noughts.toArray HB0.out (by rw [info86]; simp [hlen]) (by simp [hln, noughts]) (bytes_one t) ?_))
    exact id_ends HN.out C5.out R5.out HG.out HQ.out HB0.out HR6.out HI.out hlen rfl rfl
  | none =>
    have HI : Hid (s.id = List.replicate 32 0) := by unfold Hid RS.id; rw [ht]
    refine wp_region_any (by kernel_rfl) ?_
    change wpAny _ _ _ _ _ _ _ (World.drew _)
    refine wpAny_take (i := 0) (v := ?_) rfl (by kernel_rfl) (by kernel_rfl) (by kernel_rfl) (fun _ _ _ h => h) (Or.inl ⟨by rfl, ?_⟩) ?_
    rotate_left
    · (intro w; go_simp; with_reducible rfl)
    refine wpAny_take (i := 1) (v := ?_) rfl (by kernel_rfl) (by kernel_rfl) (by kernel_rfl) (fun _ _ _ h => h) (Or.inl ⟨by rfl, ?_⟩) ?_
    rotate_left
    · (intro w; go_simp; with_reducible rfl)
    refine wpAny_ready (rs := [2]) (by kernel_rfl) (by simp) ?_
    refine AllReady.cons rfl (fun K hK => ?_) AllReady.nil
    go_simp
    refine HC.out.mono ?_
    rintro e w5 ⟨hr5, hc5, hm⟩
    simp only [ht] at hm
    subst hm
    have hc5' : Chg (· = g) W1 w5 := ⟨hc5.os, hc5.tape, hc5.output, hc5.size, hc5.block⟩
    have hgne : g ≠ w.heap.size ∧ g ≠ w.heap.size + 1 := by have := HG.out; omega
    have HB0 : Hid (Blk w5 w.heap.size 86 noughts.toArray) := H0.out.chg hc5' (fun h => hgne.1 h.symm)
    have HB1 : Hid (Blk w5 (w.heap.size + 1) 86 noughts.toArray) := H1.out.chg hc5' (fun h => hgne.2 h.symm)
    have hcp := fun ty => run_copy_nil (P := Try.prog) w5 35 35 ty 5 ⟨w.heap.size + 1, 0, none⟩ 32 32 Try.underlying35 (by rw [size5']; rfl)
    have R5 := Lib.hid hr5
    have C5 := Lib.hid hc5'
    clear hr5 hc5 hc5' hgne
    refine hK _ _ ?_
    clear hK K
    refine wpAny_ready (rs := [3]) (by kernel_rfl) (by simp) ?_
    refine AllReady.cons rfl (fun K hK => ?_) AllReady.nil
    go_simp
    refine hK _ _ ?_
    clear hK K
    refine wpAny_done (by kernel_rfl) ?_ _
    go_wp2_with (first | (refine wpList_load_row rfl 86 (.tmp 3) rfl (w.heap.size + 1) rfl 86 noughts.toArray (0, 0) _ HB1.out Try.underlying86 rfl (by rw [info86]; rfl) ?_) | (refine wpList_store_row rfl 86 (.tmp 2) (.tmp 8) rfl w.heap.size noughts.toArray rfl rfl 86 noughts.toArray HB0.out (by rw [info86]; rfl) rfl (bytes_one _) ?_))
    exact id_ends HN.out C5.out R5.out HG.out HQ.out HB0.out (Chg.refl _ _) HI.out rfl rfl rfl

end Go.Proofs.Ytniedfilhilhhaa
