/- The writer of package codec as it lies in memory, and its calls. -/
import Derived.Test.YtniedfilhilhhaaRead2
import Derived.Test.YtniedfilhilhhaaNum
namespace Go.Proofs.Ytniedfilhilhhaa
open Go.RowKit

/-- The writer at block g, whose field holds v: bytes of its own. -/
def Wr (w : World) (base g : Nat) (v : Value) (bs : List UInt8) : Prop :=
  Blk w g 99 #[v] ∧ w.ownsRow base 5 1 v bs.length (bs.map bv) ∧ base ≤ g

/-- What a writer's calls may change. -/
abbrev OfWr (g : Nat) (v : Value) : Nat → Prop := fun k => k = g ∨ v.ownBlock = some k

/-- Behind a writer's call that puts bytes. -/
def Put1 (w : World) (base g : Nat) (v : Value) (bs : List UInt8) (w' : World) : Prop :=
  ∃ v', Wr w' base g v' bs ∧ Chg (OfWr g v) w w' ∧ (v'.ownBlock = v.ownBlock ∨ ∀ k, v'.ownBlock = some k → w.heap.size ≤ k)

theorem Put1.trans {w w1 w2 : World} {base g : Nat} {v v1 : Value} {bs : List UInt8} (hc : Chg (OfWr g v) w w1) (hv : v1.ownBlock = v.ownBlock ∨ ∀ k, v1.ownBlock = some k → w.heap.size ≤ k) (h : Put1 w1 base g v1 bs w2) : Put1 w base g v bs w2 := by
  obtain ⟨v2, h1, h2, h3⟩ := h
  refine ⟨v2, h1, hc.trans h2 ?_, ?_⟩
  · intro i hi hs
    rcases hs with hs | hs
    · exact .inl hs
    · rcases hv with hv | hv
      · exact .inr (by rw [← hv]; exact hs)
      · have := hv i hs; omega
  · rcases h3 with h3 | h3
    · rcases hv with hv | hv
      · exact .inl (h3.trans hv)
      · exact .inr (fun k hk => hv k (by rw [← h3]; exact hk))
    · exact .inr (fun k hk => Nat.le_trans hc.size (h3 k hk))

theorem Wr.chg {S : Nat → Prop} {w w' : World} {base g : Nat} {v : Value} {bs : List UInt8} (h : Wr w base g v bs) (k : Chg S w w') (hg : ¬ S g) (hv : ∀ i, v.ownBlock = some i → ¬ S i) : Wr w' base g v bs :=
  ⟨h.1.chg k hg, own_chg h.2.1 k hv, h.2.2⟩

theorem wfixed_any (w : World) (Q : Nat → Prop) (base g : Nat) (v : Value) (bs new : List UInt8) (A : Option Addr) (c : Nat) (h : Wr w base g v bs) (hl : Lies w Q A (new.map bv)) (hroom : bs.length + new.length ≤ room) :
    Calls Try.prog 32 #[ptr g, .slice A new.length c] w fun e w' => e = .returned (.tuple #[]) ∧ Put1 w base g v (bs ++ new) w' := by
  obtain ⟨i0, hi, hz0, hz1, hz2⟩ := info_parts info5
  have HH := Lib.hid h
  have HL := Lib.hid hl
  have HR := Lib.hid hroom
  obtain ⟨hb, ho, hbase⟩ := h
  obtain ⟨A0, c0, rfl, _⟩ := own_shape ho
  have k0 := hb.cell 0
  simp at k0
  clear hb ho hl hroom hbase
  go_enter Try.func32, Try.ntmps32
  go_wp2_with (at_builtin; refine wpList_append_src _ rfl (.tmp 10) (.tmp 11) 35 rfl base 5 i0 (.int .u8 0) 1 1 Try.underlying35 hi hz0 hz1 hz2 rfl (by decide) _ bs.length (bs.map bv) rfl HH.out.2.1 Q A new.length c (new.map bv) rfl ?hl HL.out (bv_one _) ?c3 ?c4 ?c5 ?_)
  case hl => simp
  case c3 => exact room_max HR.out
  case c4 => have := room_le HR.out; omega
  case c5 => have := HH.out.2.2; have := HH.out.1.lt; omega
  intro A' c' w1 hown hgrow hat
  have hc1 : Chg (fun k => Value.ownBlock (.slice A0 bs.length c0) = some k) w w1 := Chg.grown hgrow (fun i h => h.symm)
  have hne : ¬ Value.ownBlock (.slice A0 bs.length c0) = some g := own_blk_ne HH.out.2.1 HH.out.1 (by decide)
  have hb1 : Blk w1 g 99 #[.slice A0 bs.length c0] := HH.out.1.chg hc1 hne
  have k1 := hb1.cell 0
  have f1 := hb1.frozen 0
  simp at k1
  have HO := Lib.hid hown
  have HC := Lib.hid hc1
  have HB := Lib.hid hb1
  have HA := Lib.hid hat
  clear hown hgrow hat hc1 hb1 hne k0
  go_wp2
  go_end0
  refine ⟨rfl, .slice A' (bs.length + new.length) c', ⟨by simpa using HB.out.put 0 _, ?_, HH.out.2.2⟩, ?_, ?_⟩
  · have hne' := own_blk_ne HO.out HB.out (by decide)
    have := own_chg HO.out (Chg.at_ w1 g 0 (.slice A' (bs.length + new.length) c')) (fun i hi h => hne' (by rw [hi, h]))
    simpa using this
  · exact (HC.out.mono (fun i _ h => .inr h)).trans (Chg.at_ w1 g 0 _) (fun i _ h => .inl h)
  · rcases HA.out with h | h
    · exact .inl h
    · exact .inr (fun k hk => by rw [h] at hk; injection hk with hk; omega)

/-- Behind NewWriter. -/
def Began (w : World) (e : Ending) (w' : World) : Prop := ∃ g, e = .returned (ptr g) ∧ w.heap.size ≤ g ∧ Wr w' w.heap.size g (.slice none 0 0) [] ∧ Below w.heap.size w w'

theorem wnew_any (w : World) : Calls Try.prog 26 #[] w (Began w) := by
  go_enter Try.func26, Try.ntmps26
  go_wp2
  go_ret
  exact ⟨w.heap.size, rfl, Nat.le_refl _, ⟨Blk.new _ _ _, World.ownsRow_nil _ _ _ _, Nat.le_refl _⟩, (Below.refl _ _).alloc (Nat.le_refl _) _⟩

theorem wout_any (w : World) (base g : Nat) (v : Value) (bs : List UInt8) (h : Wr w base g v bs) (hroom : bs.length ≤ room) : Calls Try.prog 33 #[ptr g] w (Fresh w bs) := by
  have HH := Lib.hid h
  have HR := Lib.hid hroom
  obtain ⟨hb, ho, _⟩ := h
  obtain ⟨A0, c0, rfl, _⟩ := own_shape ho
  have k0 := hb.cell 0
  simp at k0
  clear hb ho hroom
  go_enter Try.func33, Try.ntmps33
  go_wp2_with fail
  refine (clone_any _ (fun _ => True) _ _ _ (Lies.of_own HH.out.2.1 rfl (fun _ _ => trivial)) HR.out).mono ?_
  rintro e w1 hf
  have HF := Lib.hid hf
  obtain ⟨A, c, rfl, _, _⟩ := hf
  go_wp2
  go_ret
  exact HF.out

/-- A number's bytes, seven bits in each, the lowest first. -/
def put (x : Nat) : List UInt8 := if h : x < 128 then [UInt8.ofNat x] else UInt8.ofNat (x % 128 + 128) :: put (x / 128)
termination_by x
decreasing_by omega

theorem put_small {x : Nat} (h : x < 128) : put x = [UInt8.ofNat x] := by rw [put, dif_pos h]
theorem put_big {x : Nat} (h : ¬ x < 128) : put x = UInt8.ofNat (x % 128 + 128) :: put (x / 128) := by rw [put, dif_neg h]

theorem put_len : ∀ (k x : Nat), x < 128 ^ (k + 1) → (put x).length ≤ k + 1
  | 0, x, h => by rw [put_small (by simpa using h)]; simp
  | k + 1, x, h => by
    by_cases hx : x < 128
    · rw [put_small hx]; simp
    · rw [put_big hx]
      have := put_len k (x / 128) (by rw [Nat.pow_succ] at h; omega)
      simp
      omega
theorem put_ten {x : Nat} (h : x < 18446744073709551616) : (put x).length ≤ 10 :=
  put_len 9 x (Nat.lt_of_lt_of_le h (by decide))

theorem Lies.single (w : World) (u : Value) (t : TypeId) : Lies (w.alloc (.cells #[u] t)) (fun i => i = w.heap.size) (some ⟨w.heap.size, 0, none⟩) [u] := by
  intro _
  refine ⟨_, rfl, by simp, rfl, fun j x hj => ?_⟩
  match j, hj with
  | 0, hj =>
    simp at hj
    subst hj
    simp [Addr.add]

theorem byte_more (y : Nat) : bits .or .u8 ((y : Int) % 256) 128 = ((UInt8.ofNat (y % 128 + 128)).toNat : Int) := by
  have e1 : ((y : Int) % 256) = ((y % 256 : Nat) : Int) := by omega
  rw [e1, show (128 : Int) = ((128 : Nat) : Int) from rfl, u8_or_nat _ _ (by omega) (by decide), UInt8.toNat_ofNat']
  have e2 : y % 256 ||| 128 = y % 128 + 128 := by
    have h : ∀ z : Fin 256, z.val ||| 128 = z.val % 128 + 128 := by decide +kernel
    have := h ⟨y % 256, by omega⟩
    simp only at this
    omega
  rw [e2]
  omega

theorem put_pos (y : Nat) : 1 ≤ (put y).length := by
  by_cases h : y < 128
  · rw [put_small h]; simp
  · rw [put_big h]; simp
theorem pre_le {pre : List UInt8} {y x : Nat} (h : pre ++ put y = put x) (hx : x < 18446744073709551616) : pre.length + 1 ≤ 10 := by
  have h1 := put_ten hx
  rw [← h, List.length_append] at h1
  have := put_pos y
  omega

/-- 'Fixed', the number of bytes as the call bears it. -/
theorem wfixed_calls (w : World) (base g : Nat) (v : Value) (bs new : List UInt8) (Q : Nat → Prop) (A : Option Addr) (c n : Nat) (hn : new.length = n) (h : Wr w base g v bs) (hl : Lies w Q A (new.map bv)) (hroom : bs.length + new.length ≤ room) :
    Calls Try.prog 32 #[ptr g, .slice A n c] w fun e w' => e = .returned (.tuple #[]) ∧ Put1 w base g v (bs ++ new) w' := by
  subst hn
  exact wfixed_any w Q base g v bs new A c h hl hroom

theorem Put1.from {w w1 w2 : World} {base g : Nat} {v : Value} {bs : List UInt8} (h : Put1 w1 base g v bs w2) (hc : Chg (OfWr g v) w w1) : Put1 w base g v bs w2 :=
  Put1.trans hc (.inl rfl) h

set_option maxRecDepth 100000 in
set_option maxHeartbeats 400000 in
theorem wuint_any (w : World) (base g : Nat) (v : Value) (bs : List UInt8) (x : Nat) (h : Wr w base g v bs) (hx : Hid (x < 18446744073709551616)) (hroom : bs.length + 10 ≤ room) :
    Calls Try.prog 27 #[ptr g, .int .u64 (x : Int)] w fun e w' => e = .returned (.tuple #[]) ∧ Put1 w base g v (bs ++ put x) w' := by
  obtain ⟨i0, hi, hz0, hz1, hz2⟩ := info_parts info5
  have HH := Lib.hid h
  have HR := Lib.hid hroom
  clear h hroom
  go_enter Try.func27, Try.ntmps27
  go_wp2
  go_loopw [1, 4] (fun xv v4 wr => ∃ (y : Nat) (pre : List UInt8) (A : Option Addr) (c : Nat), xv = .int .u64 y ∧ v4 = .slice A pre.length c ∧ Hid (y < 18446744073709551616) ∧ Hid (pre ++ put y = put x) ∧ Hid (wr.ownsRow w.heap.size 5 1 (.slice A pre.length c) pre.length (pre.map bv)) ∧ Hid (Below w.heap.size w wr)) (fun xv _ _ => (intOf xv).toNat)
  case atStart => exact ⟨x, [], none, 0, rfl, rfl, hx, rfl, World.ownsRow_nil _ _ _ _, Below.refl _ _⟩
  case round =>
    obtain ⟨y, pre, A, c, rfl, rfl, hy, hp, ho, hb⟩ := hrel
    by_cases hlt : y < 128
    · have HV : Hid (Value.int .u8 (y : Int) = bv (UInt8.ofNat y)) := by unfold Hid bv; rw [UInt8.toNat_ofNat']; congr 1; omega
      have HP : Hid (pre ++ [UInt8.ofNat y] = put x) := by rw [← hp.out, put_small hlt]; rfl
      go_wp2_with (at_builtin; refine wpList_append_src _ rfl (.tmp 16) (.tmp 19) 35 rfl w.heap.size 5 i0 (.int .u8 0) 1 1 Try.underlying35 hi hz0 hz1 hz2 rfl (by decide) _ pre.length (pre.map bv) rfl (ho.out.alloc _) (fun i => i = wr.heap.size) (some ⟨wr.heap.size, 0, none⟩) 1 1 [.int .u8 (y : Int)] rfl rfl (Lies.single _ _ _) ?a1 ?a3 ?a4 ?a5 ?_)
      case a1 => intro u hu; simp at hu; subst hu; rfl
      case a3 => have := pre_le hp.out hx.out; unfold maxLen; omega
      case a4 => have := pre_le hp.out hx.out; omega
      case a5 => have := hb.out.size; simp; omega
      intro A' c' w1 hown hgrow hat
      have HO := Lib.hid hown
      have HG := Lib.hid hgrow
      clear hown hgrow hat
      have HB : Hid (Below w.heap.size w w1) := (hb.out.alloc hb.out.size _).grown HG.out (by have := hb.out.size; simp; omega) (fun k hk => (ho.out.lt k hk).1)
      go_wp2_with fail
      have HO' : w1.ownsRow w.heap.size 5 1 (.slice A' (pre.length + 1) c') (pre.length + 1) ((put x).map bv) := by
        have h := HO.out
        rw [HV.out, show pre.map bv ++ [bv (UInt8.ofNat y)] = (put x).map bv by rw [← HP.out]; simp] at h
        exact h
      refine (wfixed_calls w1 base g v bs (put x) (fun i => w.heap.size ≤ i) _ _ (pre.length + 1) ?_ ?_ ?_ ?_).mono ?_
      · rw [← HP.out]; simp
      · exact HH.out.chg (Chg.new HB.out (fun _ => False)) (fun h => h) (fun _ _ h => h)
      · exact Lies.of_own HO' rfl (fun k hk => (HO'.lt k hk).1)
      · have := put_ten hx.out
        have := HR.out
        omega
      · rintro e w2 ⟨rfl, hq⟩
        have HQ := Lib.hid hq
        clear hq HO'
        go_wp2
        go_end0
        exact ⟨rfl, HQ.out.from (Chg.new HB.out _)⟩
    · have hor := byte_more y
      have hno : Hid (Value.int .u8 (((UInt8.ofNat (y % 128 + 128)).toNat : Nat) : Int) = bv (UInt8.ofNat (y % 128 + 128))) := rfl
      go_wp2_with (at_builtin; refine wpList_append_src _ rfl (.tmp 7) (.tmp 11) 35 rfl w.heap.size 5 i0 (.int .u8 0) 1 1 Try.underlying35 hi hz0 hz1 hz2 rfl (by decide) _ pre.length (pre.map bv) rfl (ho.out.alloc _) (fun i => i = wr.heap.size) (some ⟨wr.heap.size, 0, none⟩) 1 1 ([UInt8.ofNat (y % 128 + 128)].map bv) rfl rfl (Lies.single _ _ _) (bv_one _) ?b3 ?b4 ?b5 ?_)
      case b3 => have := pre_le hp.out hx.out; unfold maxLen; omega
      case b4 => have := pre_le hp.out hx.out; omega
      case b5 => have := hb.out.size; simp; omega
      intro A' c' w1 hown hgrow hat
      have HO := Lib.hid hown
      have HG := Lib.hid hgrow
      clear hown hgrow hat
      have HB : Hid (Below w.heap.size w w1) := (hb.out.alloc hb.out.size _).grown HG.out (by have := hb.out.size; simp; omega) (fun k hk => (ho.out.lt k hk).1)
      go_wp2
      go_roundw
      case rel =>
        refine ⟨y / 128, pre ++ [UInt8.ofNat (y % 128 + 128)], A', c', by go_num, by simp, ?_, ?_, ?_, HB.out⟩
        · have := hy.out; unfold Hid; omega
        · unfold Hid; rw [← hp.out, put_big hlt]; simp
        · have := HO.out; unfold Hid; simpa using this
      case measure => simp [intOf]; omega

theorem u64_len {n : Nat} (h : n ≤ room) : IntKind.u64.wrap (n : Int) = (n : Int) := by
  have := room_le h
  rw [IntKind.wrap_u64]
  omega

set_option maxHeartbeats 400000 in
theorem wbytes_any (w : World) (Q : Nat → Prop) (base g : Nat) (v : Value) (bs new : List UInt8) (A : Option Addr) (c : Nat) (h : Wr w base g v bs) (hl : Lies w Q A (new.map bv)) (hq : ∀ i, Q i → ¬ OfWr g v i) (hroom : bs.length + 10 + new.length ≤ room) :
    Calls Try.prog 29 #[ptr g, .slice A new.length c] w fun e w' => e = .returned (.tuple #[]) ∧ Put1 w base g v (bs ++ put new.length ++ new) w' := by
  have HH := Lib.hid h
  have HL := Lib.hid hl
  have HR := Lib.hid hroom
  have hw := u64_len (n := new.length) (by omega)
  clear h hl hroom
  go_enter Try.func29, Try.ntmps29
  go_wp2_with fail
  refine (wuint_any w base g v bs new.length HH.out (by have := room_le (n := new.length) (by have := HR.out; omega); unfold Hid; omega) (by have := HR.out; omega)).mono ?_
  rintro e w1 ⟨rfl, v1, h1, h2, h3⟩
  have H1 := Lib.hid h1
  have H2 := Lib.hid h2
  have H3 := Lib.hid h3
  clear h1 h2 h3
  go_wp2_with fail
  refine (wfixed_any w1 Q base g v1 _ new A c H1.out (HL.out.chg H2.out hq) (by have := HR.out; have := put_ten (x := new.length) (by have := room_le (n := new.length) (by omega); omega); simp; omega)).mono ?_
  rintro e w2 ⟨rfl, hp⟩
  have HP := Lib.hid hp
  clear hp
  go_wp2
  go_end0
  exact ⟨rfl, Put1.trans H2.out H3.out HP.out⟩

/-- A yes or no as a byte. -/
def bit (is : Bool) : UInt8 := cond is 1 0

set_option maxHeartbeats 400000 in
theorem wbool_any (w : World) (base g : Nat) (v : Value) (bs : List UInt8) (is : Bool) (h : Wr w base g v bs) (hroom : bs.length + 1 ≤ room) :
    Calls Try.prog 31 #[ptr g, .bool is] w fun e w' => e = .returned (.tuple #[]) ∧ Put1 w base g v (bs ++ [bit is]) w' := by
  have HH := Lib.hid h
  have HR := Lib.hid hroom
  clear h hroom
  cases is
  · have HC : Hid (Chg (OfWr g v) w (w.alloc (.cells #[bv 0] 5))) := (Chg.refl _ _).alloc _
    go_enter Try.func31, Try.ntmps31
    go_wp2_with fail
    refine (wfixed_calls _ base g v bs [0] (fun i => i = w.heap.size) _ _ 1 rfl (HH.out.chg ((Chg.refl (fun _ => False) w).alloc _) (fun h => h) (fun _ _ h => h)) (Lies.single w (bv 0) 5) HR.out).mono ?_
    rintro e w2 ⟨rfl, hp⟩
    have HP := Lib.hid hp
    clear hp
    go_wp2
    go_end0
    exact ⟨rfl, HP.out.from HC.out⟩
  · have HC : Hid (Chg (OfWr g v) w (w.alloc (.cells #[bv 1] 5))) := (Chg.refl _ _).alloc _
    go_enter Try.func31, Try.ntmps31
    go_wp2_with fail
    refine (wfixed_calls _ base g v bs [1] (fun i => i = w.heap.size) _ _ 1 rfl (HH.out.chg ((Chg.refl (fun _ => False) w).alloc _) (fun h => h) (fun _ _ h => h)) (Lies.single w (bv 1) 5) HR.out).mono ?_
    rintro e w2 ⟨rfl, hp⟩
    have HP := Lib.hid hp
    clear hp
    go_wp2
    go_end0
    exact ⟨rfl, HP.out.from HC.out⟩

end Go.Proofs.Ytniedfilhilhhaa
