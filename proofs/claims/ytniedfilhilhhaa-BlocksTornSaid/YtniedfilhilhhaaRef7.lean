/- The reference of layer 1: Id, walked. -/
import Derived.Test.YtniedfilhilhhaaRef5
import Derived.Test.YtniedfilhilhhaaRead5
import Derived.Test.YtniedfilhilhhaaAwake1
import Derived.Deep.RegionHeld3
namespace Go.Proofs.Ytniedfilhilhhaa
open Go.RowKit

theorem id_got (s : RS) : s.id = s.got 32 ++ List.replicate (32 - (s.got 32).length) 0 := by
  unfold RS.id RS.got
  cases h : (s.take 32).2 with
  | none => rfl
  | some t =>
    have := take_len (n := 32) h
    simp [this]
theorem got_32 (s : RS) : (s.got 32).length ≤ 32 := by
  have h1 := id_got s
  have h2 := id_len s
  have h3 := congrArg List.length h1
  rw [List.length_append, h2] at h3
  omega

/-- The first k bytes, and noughts behind them, as cells. -/
def part32 (t : List UInt8) (k : Nat) : Array Value := ((t.take k ++ List.replicate (32 - k) 0).map bv).toArray
theorem part_size (t : List UInt8) (k : Nat) (h : k ≤ t.length) (h2 : t.length ≤ 32) : (part32 t k).size = 32 := by
  unfold part32
  simp
  omega
theorem part_put (t : List UInt8) (k : Nat) (h : k < t.length) (h2 : t.length ≤ 32) : (part32 t k).setIfInBounds k (bv t[k]) = part32 t (k + 1) := by
  unfold part32
  apply Array.toList_inj.1
  have e : 32 - k = (32 - (k + 1)) + 1 := by omega
  rw [e, List.replicate_succ, List.take_succ_eq_append_getElem h]
  simp only [Array.toList_setIfInBounds, List.map_append, List.map_cons, List.map_nil]
  rw [List.set_append_right _ _ (by simp; omega)]
  simp [Nat.min_eq_left (Nat.le_of_lt h)]

theorem part_at (t : List UInt8) (k : Nat) (h : k < t.length) (h2 : t.length ≤ 32) : (part32 t k)[k]? = some (.int .u8 0) := by
  have e : 32 - k = (32 - (k + 1)) + 1 := by omega
  unfold part32
  rw [e, List.replicate_succ, List.getElem?_toArray, List.getElem?_map, List.getElem?_append_right (by simp; omega)]
  simp [Nat.min_eq_left (Nat.le_of_lt h)]
  first | done | rfl
theorem run_load_row_at {P : Program} {ev : Operand → Value} {o : Oper} {x : Operand} {ty : TypeId} (ho : o.op = .load ty x) (w : World) (g : Nat) (hx : ev x = .pointer (some ⟨g, 0, none⟩)) (t : TypeId) (cs : Array Value) (fr : Nat × Nat) (d : TypeDesc) (hg : w.heap[g]? = some (.cells cs t fr))
    (hu : P.underlying ty = some d) (hd : (match d with | .struct _ | .array _ _ => true | _ => false) = true) (hi : (P.info? ty).map (·.size) = some cs.size) :
    (execOp ev o).run P w = .ok (.value (.agg cs)) w := by
  unfold execOp
  simp only [ho, hx, Instr.loadAt, Instr.sureAddr, Sem.run_bind, Sem.run_pure, Result.andThen_ok, run_loadVar_row w g t ty cs fr d hg hu hd hi]
theorem results_two {P : Program} {fn : Func} {p q : Tmp} {ty ty' : TypeId} (h : fn.results = #[.cell p ty, .cell q ty']) (tmps : Array Value) (w : World) (A B : Addr) (x y : Value)
    (hp : tmps.getD p undef = .pointer (some A)) (hq : tmps.getD q undef = .pointer (some B)) (ha : (loadVar ty A).run P w = .ok x w) (hb : (loadVar ty' B).run P w = .ok y w) :
    (results fn tmps).run P w = .ok (.tuple #[x, y]) w := by
  have hp' : tmps[p]?.getD undef = .pointer (some A) := by simpa using hp
  have hq' : tmps[q]?.getD undef = .pointer (some B) := by simpa using hq
  simp [results, h, hp', hq', asAddr, ha, hb]
theorem info76 : (Try.prog.info? 76).map (·.size) = some 2 := by kernel_rfl
theorem three_boxes {w w1 : World} {c0 c1 c2 : Array Value} {t0 t1 t2 : TypeId} (hb : Below (((w.alloc (.cells c0 t0)).alloc (.cells c1 t1)).alloc (.cells c2 t2)).heap.size (((w.alloc (.cells c0 t0)).alloc (.cells c1 t1)).alloc (.cells c2 t2)) w1) :
    Blk w1 w.heap.size t0 c0 ∧ Blk w1 (w.heap.size + 1) t1 c1 ∧ Blk w1 (w.heap.size + 2) t2 c2 ∧ Below w.heap.size w w1 := by
  have hn : Chg (fun _ => False) (((w.alloc (.cells c0 t0)).alloc (.cells c1 t1)).alloc (.cells c2 t2)) w1 := Chg.new hb _
  have h0 := (((Blk.new w t0 c0).alloc (.cells c1 t1)).alloc (.cells c2 t2)).chg hn (fun h => h)
  have h1 := ((Blk.new (w.alloc (.cells c0 t0)) t1 c1).alloc (.cells c2 t2)).chg hn (fun h => h)
  have h2 := (Blk.new ((w.alloc (.cells c0 t0)).alloc (.cells c1 t1)) t2 c2).chg hn (fun h => h)
  refine ⟨h0, by simpa using h1, by simpa using h2, ?_⟩
  have h3 : Below w.heap.size w (((w.alloc (.cells c0 t0)).alloc (.cells c1 t1)).alloc (.cells c2 t2)) := (((Below.refl _ _).alloc (Nat.le_refl _) _).alloc (by simp) _).alloc (by simp; omega) _
  exact h3.trans (hb.mono h3.size)

set_option maxRecDepth 100000 in
set_option maxHeartbeats 1600000 in
theorem rid_any (w : World) (s : RS) : Calls Try.prog 46 #[RV s] w (Tells w (s.take 32).1 (.agg (s.id.map bv).toArray)) := by
  have HL := Lib.hid (got_32 s)
  go_enter Try.func46, Try.ntmps46
  go_wp2_with fail
  refine (rfixed_any _ s 32).mono ?_
  rintro e w1 ⟨rfl, hb⟩
  obtain ⟨hb0, hb1, hb2, hB⟩ := three_boxes hb
  obtain ⟨k0, k1, f0, f1⟩ := box_facts hb0
  generalize hS' : (s.take 32).1 = s'
  generalize hG' : s.got 32 = t
  have HS := Lib.hid hS'
  have HG := Lib.hid hG'
  clear hS' hG'
  have hx : Blk ((w1.setCell ⟨w.heap.size, 0, none⟩ (.string ⟨s'.l.toArray⟩)).setCell ⟨w.heap.size, 1, none⟩ (.int .i64 s'.e)) w.heap.size 76 #[.string ⟨s'.l.toArray⟩, .int .i64 s'.e] := by simpa using (hb0.put 0 (.string ⟨s'.l.toArray⟩)).put 1 (.int .i64 s'.e)
  have hy : Blk ((w1.setCell ⟨w.heap.size, 0, none⟩ (.string ⟨s'.l.toArray⟩)).setCell ⟨w.heap.size, 1, none⟩ (.int .i64 s'.e)) (w.heap.size + 1) 76 #[.string ⟨#[]⟩, .int .i64 0] :=
    (hb1.chg (Chg.at_ w1 w.heap.size 0 _) (by simp)).chg (Chg.at_ _ w.heap.size 1 _) (by simp)
  have hy2 := (hb2.chg (Chg.at_ w1 w.heap.size 0 (.string ⟨s'.l.toArray⟩)) (by simp)).chg (Chg.at_ _ w.heap.size 1 (.int .i64 s'.e)) (by simp)
  have hz : Below w.heap.size w ((w1.setCell ⟨w.heap.size, 0, none⟩ (.string ⟨s'.l.toArray⟩)).setCell ⟨w.heap.size, 1, none⟩ (.int .i64 s'.e)) := (hB.setCell (by simp) _).setCell (by simp) _
  clear hb hb0 hb1 hb2 hB
  go_upto_region 2 with fail
  generalize ((w1.setCell ⟨w.heap.size, 0, none⟩ (.string ⟨s'.l.toArray⟩)).setCell ⟨w.heap.size, 1, none⟩ (.int .i64 s'.e)) = W2 at hx hy hy2 hz ⊢
  have HX := Lib.hid hx
  have HY := Lib.hid hy
  have HY2 := Lib.hid hy2
  have HB := Lib.hid hz
  clear k0 k1 f0 f1 hx hy hy2 hz
  have hts := text_size t
  have HL2 : Hid (t.length ≤ 32) := by have := HL.out; rw [HG.out] at this; exact this
  go_wp2
  have hnew : Blk (W2.alloc (.cells (part32 t 0) 86)) W2.heap.size 86 (part32 t 0) := Blk.new W2 86 _
  go_loopw [6] (fun i wr => ∃ k : Nat, k ≤ t.length ∧ i = .int .i64 k ∧ Hid (Blk wr w.heap.size 76 #[.string ⟨s'.l.toArray⟩, .int .i64 s'.e] ∧ Blk wr (w.heap.size + 1) 76 #[.string ⟨#[]⟩, .int .i64 0] ∧ (∃ c2, c2.size = 32 ∧ Blk wr (w.heap.size + 2) 86 c2)) ∧ Hid (Blk wr W2.heap.size 86 (part32 t k)) ∧ Hid (Below w.heap.size w wr)) (fun i _ => t.length - (intOf i).toNat)
  case atStart => exact ⟨0, Nat.zero_le _, rfl, ⟨HX.out.alloc _, HY.out.alloc _, _, by rfl, HY2.out.alloc _⟩, hnew, HB.out.alloc HB.out.size _⟩
  case round =>
    obtain ⟨k, hk, rfl, hbs, hm, hB⟩ := hrel
    by_cases hlt : k < t.length
    · have hq := hm.out.cell k
      have hp := part_put t k hlt HL2.out
      have hf := hm.out.frozen k
      have hix : ∀ h, (⟨t.toArray⟩ : ByteArray)[k]'h = t[k] := fun _ => rfl
      go_wp2
      case isFalse => have := HL2.out; omega
      case h_2 => exact absurd ((part_at t k hlt HL2.out).symm.trans (by assumption)) (by simp)
      rotate_left
      · exact absurd ((part_at t k hlt HL2.out).symm.trans (by assumption)) (by simp)
      refine ⟨⟨k + 1, hlt, by simp, ⟨hbs.out.1.chg (Chg.at_ wr W2.heap.size k _) ?_, hbs.out.2.1.chg (Chg.at_ wr W2.heap.size k _) ?_, ?_⟩, ?_, ?_⟩, ?_⟩
      · have := HX.out.lt; omega
      · have := HY.out.lt; omega
      · obtain ⟨c2, h1, h2⟩ := hbs.out.2.2
        exact ⟨c2, h1, h2.chg (Chg.at_ wr W2.heap.size k _) (by have := HY2.out.lt; omega)⟩
      · have := hm.out.put k (bv t[k])
        rw [hp] at this
        exact this
      · exact hB.out.setCell (by have := HB.out.size; simpa using this) _
      · simp [intOf]
        omega
    · have hke : k = t.length := by omega
      subst hke
      clear hlt hk
      go_wp2
      obtain ⟨hx, hy, c2, hc2, hz⟩ := hbs.out
      have hv := hm.out
      have HP : Hid (part32 t t.length = (s.id.map bv).toArray) := by
        unfold Hid part32
        rw [id_got, HG.out]
        simp
      have HHM := Lib.hid hv
      have HHX := Lib.hid hx
      have HHY := Lib.hid hy
      have HHZ := Lib.hid hz
      have H1 : Hid (w.heap.size + 2 < W2.heap.size) := HY2.out.lt
      clear hx hy hz hv hm hbs
      refine wp_region_held_drew (S := fun w' => Blk w' w.heap.size 76 #[.string ⟨s'.l.toArray⟩, .int .i64 s'.e] ∧ Blk w' W2.heap.size 86 (part32 t t.length)) (by kernel_rfl) ⟨HHX.out, HHM.out⟩ (fun hHeld => ?_)
      refine wpAnyH_take (i := 0) (v := ?_) rfl (by kernel_rfl) (by kernel_rfl) (by kernel_rfl) (fun _ _ _ h => h) (Or.inl ⟨by kernel_rfl, ?_⟩) (by assumption) ?_
      rotate_left
      · rintro w ⟨hSw, _⟩
        obtain ⟨k0, k1, _, _⟩ := box_facts hSw
        go_simp
        with_reducible rfl
      simp only [Act.put]
      refine wpAnyH_take (i := 1) (v := .agg (part32 t t.length)) rfl (by kernel_rfl) (by kernel_rfl) (by kernel_rfl) (fun _ _ _ h => h) (Or.inl ⟨by kernel_rfl, ?_⟩) (by assumption) ?_
      · rintro w ⟨_, hSw⟩
        exact (run_load_row_at (x := .tmp 5) rfl w W2.heap.size rfl 86 (part32 t t.length) (0, 0) _ hSw Try.underlying86 rfl (by rw [info86, part_size t t.length (Nat.le_refl _) HL2.out]))
      simp only [Act.put]
      obtain ⟨q0, q1, g0, g1⟩ := box_facts HHY.out
      refine wpAnyH_ready (rs := [2]) (by kernel_rfl) (by simp) ?_
      refine AllReadyH.cons rfl (fun K hK => ?_) AllReadyH.nil
      go_simp
      have e1 : ¬ w.heap.size = w.heap.size + 1 := by omega
      have e2 : ¬ W2.heap.size = w.heap.size + 1 := by have := H1.out; omega
      refine hK.out _ _ ⟨(HHX.out.drew.chg (Chg.at_ _ (w.heap.size + 1) 0 _) e1).chg (Chg.at_ _ (w.heap.size + 1) 1 _) e1, (HHM.out.drew.chg (Chg.at_ _ (w.heap.size + 1) 0 _) e2).chg (Chg.at_ _ (w.heap.size + 1) 1 _) e2⟩ (fun hHeld => ?_)
      clear hK K q0 q1 g0 g1
      refine wpAnyH_ready (rs := [3]) (by kernel_rfl) (by simp) ?_
      refine AllReadyH.cons rfl (fun K hK => ?_) AllReadyH.nil
      rw [if_pos (by kernel_rfl)]
      have e3 : ¬ w.heap.size + 1 + 1 = w.heap.size + 1 := by omega
      have e4 : ¬ W2.heap.size = w.heap.size + 1 + 1 := by have := H1.out; omega
      have e5 : ¬ w.heap.size + 1 = w.heap.size + 1 + 1 := by omega
      have hz6 := ((HHZ.out.chg (Chg.at_ _ (w.heap.size + 1) 0 (.string ⟨s'.l.toArray⟩)) e3).chg (Chg.at_ _ (w.heap.size + 1) 1 (.int .i64 s'.e)) e3).drew
      have hy6 := ((HHY.out.put 0 (.string ⟨s'.l.toArray⟩)).put 1 (.int .i64 s'.e)).drew
      have hb6 : Below w.heap.size w ((wr.setCell ⟨w.heap.size + 1, 0, none⟩ (.string ⟨s'.l.toArray⟩)).setCell ⟨w.heap.size + 1, 1, none⟩ (.int .i64 s'.e)).drew := ((hB.out.setCell (by simp) _).setCell (by simp) _).drew
      generalize ((wr.setCell ⟨w.heap.size + 1, 0, none⟩ (.string ⟨s'.l.toArray⟩)).setCell ⟨w.heap.size + 1, 1, none⟩ (.int .i64 s'.e)).drew = W6 at hz6 hy6 hb6 hHeld hK ⊢
      have hsz := part_size t t.length (Nat.le_refl _) HL2.out
      refine wp_store_row 86 (.tmp 3) (.tmp 24) rfl (w.heap.size + 1 + 1) (part32 t t.length) rfl rfl 86 c2 hz6 (by rw [info86, hsz]) (by rw [hc2, hsz]) (bytes_one _) ?_
      have hch := chg_setRow W6 (w.heap.size + 1 + 1) (part32 t t.length)
      have hz7 : Blk (W6.setRow (w.heap.size + 1 + 1) (part32 t t.length)) (w.heap.size + 1 + 1) 86 (part32 t t.length) := setRow_heap W6 (w.heap.size + 1 + 1) c2 _ 86 _ hz6
      have hy7 := hy6.chg hch e5
      have hb7 := below_chg hb6 hch (fun i _ e => by omega) hb6.size
      refine hK.out _ _ ⟨hHeld.1.chg hch (by omega), hHeld.2.chg hch e4⟩ (fun _ => ?_)
      clear hK K
      refine wpAnyH_done (by kernel_rfl) ?_ _
      go_wp2
      have hl2 := run_loadVar_row (P := Try.prog) _ (w.heap.size + 1 + 1) 86 86 _ (0, 0) _ hz7 Try.underlying86 rfl (by rw [info86, hsz])
      simp only [List.set_cons_zero, List.set_cons_succ, List.setIfInBounds_toArray] at hy7
      refine bodyPost_ret (v := .tuple #[RV s', .agg (part32 t t.length)]) (results_two (by rfl) _ _ ⟨w.heap.size + 1, 0, none⟩ ⟨w.heap.size + 1 + 1, 0, none⟩ _ _ rfl rfl (run_loadVar_row (P := Try.prog) _ (w.heap.size + 1) 76 76 _ (0, 0) _ hy7 Try.underlying76 rfl (by rw [info76]; rfl)) hl2) rfl ⟨by rw [HS.out, HP.out], hb7⟩

end Go.Proofs.Ytniedfilhilhhaa
