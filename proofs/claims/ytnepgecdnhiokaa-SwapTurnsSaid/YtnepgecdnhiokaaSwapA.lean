/- Layer 6: swap.Pass in one contract. -/
import Derived.Test.YtnepgecdnhiokaaSwapY1
import Derived.Test.YtnepgecdnhiokaaSwapY2
namespace Go.Proofs.Ytnepgecdnhiokaa
open Go.RowKit

/-- How far two hunks move that pass one another: the first one, the second one. -/
def passX (p : Int) (xs ys : List ByteArray) (q : Int) (us vs : List ByteArray) : Option (Int × Int) :=
  if hMay p xs ys && hMay q us vs then
    if p + (ys.length : Int) < q then (if q + -((ys.length : Int) - (xs.length : Int)) ≤ 1048576 then some (0, -((ys.length : Int) - (xs.length : Int))) else none)
    else if q + (us.length : Int) < p then (if p + ((vs.length : Int) - (us.length : Int)) ≤ 1048576 then some ((vs.length : Int) - (us.length : Int), 0) else none)
    else none
  else none
def pX (r : Option (Int × Int)) (p : Int) : Int := match r with | none => 0 | some z => p + z.1
def pY (r : Option (Int × Int)) (q : Int) : Int := match r with | none => 0 | some z => q + z.2
def pL (r : Option (Int × Int)) (l : List ByteArray) : List ByteArray := match r with | none => [] | some _ => l
theorem pL_le (r : Option (Int × Int)) (l : List ByteArray) : (pL r l).length ≤ l.length := by cases r <;> simp [pL]
theorem pL_mem (r : Option (Int × Int)) (l : List ByteArray) (x : ByteArray) (h : x ∈ pL r l) : x ∈ l := by cases r <;> simp [pL] at h; exact h

/-- What swap.Pass hands back. -/
def Passed (w : World) (p q : Int) (xs ys us vs : List ByteArray) (r : Option (Int × Int)) (e : Ending) (w' : World) : Prop :=
  ∃ C' e1 D' e2 A' e3 B' e4, e = .returned (.tuple #[.agg #[.int .i64 (pY r q), .slice C' (pL r us).length e1, .slice D' (pL r vs).length e2], .agg #[.int .i64 (pX r p), .slice A' (pL r xs).length e3, .slice B' (pL r ys).length e4], .bool r.isSome]) ∧
    ((pL r us).length ≤ e1 ∧ e1 ≤ 9223372036854775807 ∧ (pL r vs).length ≤ e2 ∧ e2 ≤ 9223372036854775807 ∧ (pL r xs).length ≤ e3 ∧ e3 ≤ 9223372036854775807 ∧ (pL r ys).length ≤ e4 ∧ e4 ≤ 9223372036854775807) ∧
    SlS 0 w' C' (pL r us) ∧ SlS 0 w' D' (pL r vs) ∧ SlS 0 w' A' (pL r xs) ∧ SlS 0 w' B' (pL r ys) ∧ Below w.heap.size w w'
theorem passed_none {w w' : World} {p q : Int} {xs ys us vs : List ByteArray} {e : Ending} (h : e = .returned (.tuple #[(.agg #[.int .i64 0, .slice none 0 0, .slice none 0 0]), (.agg #[.int .i64 0, .slice none 0 0, .slice none 0 0]), .bool false]) ∧ Below w.heap.size w w') :
    Passed w p q xs ys us vs none e w' := by
  obtain ⟨rfl, hb⟩ := h
  exact ⟨none, 0, none, 0, none, 0, none, 0, rfl, by simp [pL], SlS.nil, SlS.nil, SlS.nil, SlS.nil, hb⟩
theorem Pass_all (p q : Int) (xs ys us vs : List ByteArray) (A B C D : Option Addr) (n m n' m' c d c' d' : Nat) (w : World) (r : Option (Int × Int)) (hr : passX p xs ys q us vs = r) (hx : n = xs.length) (hy : m = ys.length) (hu : n' = us.length) (hv : m' = vs.length)
    (hA : SlS w.heap.size w A xs) (hB : SlS w.heap.size w B ys) (hC : SlS w.heap.size w C us) (hD : SlS w.heap.size w D vs) (lx : xs.length ≤ 100000) (ly : ys.length ≤ 100000) (lu : us.length ≤ 100000) (lv : vs.length ≤ 100000)
    (sx : ∀ x ∈ xs, x.size ≤ 9223372036854775807) (sy : ∀ x ∈ ys, x.size ≤ 9223372036854775807) (su : ∀ x ∈ us, x.size ≤ 9223372036854775807) (sv : ∀ x ∈ vs, x.size ≤ 9223372036854775807) :
    Calls Try.prog 12 #[.agg #[.int .i64 p, .slice A n c, .slice B m d], .agg #[.int .i64 q, .slice C n' c', .slice D m' d']] w fun e w' => Passed w p q xs ys us vs r e w' := by
  subst hr
  unfold passX
  by_cases m1 : hMay p xs ys = true
  · by_cases m2 : hMay q us vs = true
    · rw [if_pos (by rw [m1, m2]; rfl)]
      by_cases d1 : p + (ys.length : Int) < q
      · rw [if_pos d1]
        by_cases d2 : q + -((ys.length : Int) - (xs.length : Int)) ≤ 1048576
        · rw [if_pos d2]
          refine (Pass_yes1 p q xs ys us vs A B C D n m n' m' c d c' d' w hx hy hu hv hA hB hC hD lx ly lu lv sx sy su sv m1 m2 d1 d2).mono ?_
          rintro e w' ⟨C', e1, D', e2, A', e3, B', e4, rfl, h⟩
          exact ⟨C', e1, D', e2, A', e3, B', e4, by simp [pX, pY, pL], h⟩
        · rw [if_neg d2]
          exact (Pass_no3 p q xs ys us vs A B C D n m n' m' c d c' d' w hx hy hu hv hA hB hC hD lx ly lu lv sx sy su sv m1 m2 d1 d2).mono fun _ _ h => passed_none h
      · rw [if_neg d1]
        by_cases d2 : q + (us.length : Int) < p
        · rw [if_pos d2]
          by_cases d3 : p + ((vs.length : Int) - (us.length : Int)) ≤ 1048576
          · rw [if_pos d3]
            refine (Pass_yes2 p q xs ys us vs A B C D n m n' m' c d c' d' w hx hy hu hv hA hB hC hD lx ly lu lv sx sy su sv m1 m2 d1 d2 d3).mono ?_
            rintro e w' ⟨C', e1, D', e2, A', e3, B', e4, rfl, h⟩
            exact ⟨C', e1, D', e2, A', e3, B', e4, by simp [pX, pY, pL], h⟩
          · rw [if_neg d3]
            exact (Pass_no4 p q xs ys us vs A B C D n m n' m' c d c' d' w hx hy hu hv hA hB hC hD lx ly lu lv sx sy su sv m1 m2 d1 d2 d3).mono fun _ _ h => passed_none h
        · rw [if_neg d2]
          exact (Pass_no5 p q xs ys us vs A B C D n m n' m' c d c' d' w hx hy hu hv hA hB hC hD lx ly lu lv sx sy su sv m1 m2 d1 d2).mono fun _ _ h => passed_none h
    · have m2' : hMay q us vs = false := by simpa using m2
      rw [if_neg (by rw [m2']; simp)]
      exact (Pass_no2 p q xs ys us vs A B C D n m n' m' c d c' d' w hx hy hu hv hA hB hC hD lx ly lu lv sx sy su sv m1 m2').mono fun _ _ h => passed_none h
  · have m1' : hMay p xs ys = false := by simpa using m1
    rw [if_neg (by rw [m1']; simp)]
    exact (Pass_no1 p q xs ys us vs A B C D n m n' m' c d c' d' w hx hy hu hv hA hB hC hD lx ly lu lv sx sy su sv m1').mono fun _ _ h => passed_none h
end Go.Proofs.Ytnepgecdnhiokaa
