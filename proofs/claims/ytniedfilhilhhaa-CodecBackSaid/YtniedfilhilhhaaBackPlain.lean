/- What is put, one behind the other, is read as it was: the plain law. -/
import Derived.Test.YtniedfilhilhhaaManyPlain
namespace Go.Proofs.Ytniedfilhilhhaa

/-- A part: what kind (0, 1: a number; 2: bytes with their number ahead; 3: a yes or no, and bytes), its number, its bytes. -/
structure PartS where
  q : Nat
  x : Nat
  b : List UInt8
/-- What a part is put as. -/
def PartS.code (p : PartS) : List UInt8 :=
  if p.q ≤ 1 then put p.x else if p.q = 2 then put p.b.length ++ p.b else [bit (p.x % 2 == 1)] ++ p.b
def codes (l : List PartS) : List UInt8 := (l.map PartS.code).flatten

theorem codes_snoc (l : List PartS) (i : Nat) (h : i < l.length) : codes (l.take (i + 1)) = codes (l.take i) ++ l[i].code := by
  unfold codes
  rw [List.take_succ_eq_append_getElem h]
  simp only [List.map_append, List.map_cons, List.map_nil, List.flatten_append, List.flatten_cons, List.flatten_nil, List.append_nil]
theorem codes_cons (l : List PartS) (i : Nat) (h : i < l.length) : codes (l.drop i) = l[i].code ++ codes (l.drop (i + 1)) := by
  unfold codes
  rw [List.drop_eq_getElem_cons h]
  simp only [List.map_cons, List.flatten_cons]

theorem code_num {p : PartS} (h : p.q ≤ 1) : p.code = put p.x := by unfold PartS.code; rw [if_pos h]
theorem code_bytes {p : PartS} (h : p.q = 2) : p.code = put p.b.length ++ p.b := by unfold PartS.code; rw [if_neg (by omega), if_pos h]
theorem code_flag {p : PartS} (h : p.q = 3) : p.code = [bit (p.x % 2 == 1)] ++ p.b := by unfold PartS.code; rw [if_neg (by omega), if_neg (by omega)]

theorem code_len {p : PartS} (hx : p.x < 18446744073709551616) (hb : p.b.length ≤ 200) : p.code.length ≤ 210 := by
  unfold PartS.code
  have h1 := put_ten hx
  have h2 := put_ten (x := p.b.length) (by omega)
  split
  · omega
  · split
    · simp; omega
    · simp; omega

theorem codes_len (l : List PartS) (h : ∀ p ∈ l, p.x < 18446744073709551616 ∧ p.b.length ≤ 200) : (codes l).length ≤ 210 * l.length := by
  induction l with
  | nil => simp [codes]
  | cons a l ih =>
    have h1 := code_len (h a (by simp)).1 (h a (by simp)).2
    have h2 := ih (fun x hx => h x (by simp [hx]))
    unfold codes at h2 ⊢
    simp only [List.map_cons, List.flatten_cons, List.length_append, List.length_cons]
    omega

theorem got_of {s t : RS} {n : Int} {l : List UInt8} (h : s.take n = (t, some l)) : s.got n = l := by unfold RS.got; rw [h]; rfl

theorem take_app (a r : List UInt8) : (RS.mk (a ++ r) 0).take (a.length : Int) = (⟨r, 0⟩, some a) := by
  rw [take_ok rfl (by omega) (by simp; omega)]
  simp

theorem bytes_put {b r : List UInt8} (h : b.length ≤ 200) : (RS.mk (put b.length ++ b ++ r) 0).bytes 200 = (⟨r, 0⟩, b) := by
  have hu := uint_put (x := b.length) (by omega) (b ++ r)
  unfold RS.bytes
  rw [List.append_assoc, hu]
  simp only
  rw [if_neg (by simp), if_neg (by omega), got_of (take_app b r), take_app]

theorem bool_put (is : Bool) (r : List UInt8) : (RS.mk ([bit is] ++ r) 0).bool = (⟨r, 0⟩, is) := by
  have ht : (RS.mk ([bit is] ++ r) 0).take 1 = (⟨r, 0⟩, some [bit is]) := take_of_cons _ _
  unfold RS.bool
  rw [ht]
  cases is <;> rfl

end Go.Proofs.Ytniedfilhilhhaa
