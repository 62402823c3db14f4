/- quiltmakerref06.Pass in one contract. -/
import Derived.Test.YtnepgecdnhiokaaSwapA
import Derived.Test.YtnepgecdnhiokaaRef6
namespace Go.Proofs.Ytnepgecdnhiokaa
open Go.RowKit

/-- What quiltmakerref06.Pass hands back. -/
def RPassed (b : Nat) (w : World) (p q : Int) (xs ys us vs : List ByteArray) (r : Option (Int × Int)) (e : Ending) (w' : World) : Prop :=
  ∃ C' e1 D' e2 A' e3 B' e4, e = .returned (.tuple #[.agg #[.int .i64 (pY r q), .slice C' (pL r us).length e1, .slice D' (pL r vs).length e2], .agg #[.int .i64 (pX r p), .slice A' (pL r xs).length e3, .slice B' (pL r ys).length e4], .bool r.isSome]) ∧
    SlS b w' C' (pL r us) ∧ SlS b w' D' (pL r vs) ∧ SlS b w' A' (pL r xs) ∧ SlS b w' B' (pL r ys) ∧ Below w.heap.size w w'
theorem rpassed_none {b : Nat} {w w' : World} {p q : Int} {xs ys us vs : List ByteArray} {e : Ending} (h : e = .returned (.tuple #[(.agg #[.int .i64 0, .slice none 0 0, .slice none 0 0]), (.agg #[.int .i64 0, .slice none 0 0, .slice none 0 0]), .bool false]) ∧ Below w.heap.size w w') :
    RPassed b w p q xs ys us vs none e w' := by
  obtain ⟨rfl, hb⟩ := h
  exact ⟨none, 0, none, 0, none, 0, none, 0, rfl, SlS.nil, SlS.nil, SlS.nil, SlS.nil, hb⟩
theorem rPass_all (b : Nat) (p q : Int) (xs ys us vs : List ByteArray) (A B C D : Option Addr) (n m n' m' c d c' d' : Nat) (w : World) (r : Option (Int × Int)) (hr : passX p xs ys q us vs = r) (hx : n = xs.length) (hy : m = ys.length) (hu : n' = us.length) (hv : m' = vs.length)
    (hbw : b ≤ w.heap.size) (hA0 : SlS b w A xs) (hB0 : SlS b w B ys) (hC0 : SlS b w C us) (hD0 : SlS b w D vs) (lx : xs.length ≤ 100000) (ly : ys.length ≤ 100000) (lu : us.length ≤ 100000) (lv : vs.length ≤ 100000)
    (sx : ∀ x ∈ xs, x.size ≤ 9223372036854775807) (sy : ∀ x ∈ ys, x.size ≤ 9223372036854775807) (su : ∀ x ∈ us, x.size ≤ 9223372036854775807) (sv : ∀ x ∈ vs, x.size ≤ 9223372036854775807) :
    Calls Try.prog 13 #[.agg #[.int .i64 p, .slice A n c, .slice B m d], .agg #[.int .i64 q, .slice C n' c', .slice D m' d']] w fun e w' => RPassed b w p q xs ys us vs r e w' := by
  have hA : SlS w.heap.size w A xs := Sl.mono hA0 hbw
  have hB : SlS w.heap.size w B ys := Sl.mono hB0 hbw
  have hC : SlS w.heap.size w C us := Sl.mono hC0 hbw
  have hD : SlS w.heap.size w D vs := Sl.mono hD0 hbw
  subst hr
  unfold passX
  by_cases m1 : hMay p xs ys = true
  · by_cases m2 : hMay q us vs = true
    · rw [if_pos (by rw [m1, m2]; rfl)]
      by_cases d1 : p + (ys.length : Int) < q
      · rw [if_pos d1]
        by_cases d2 : q + -((ys.length : Int) - (xs.length : Int)) ≤ 1048576
        · rw [if_pos d2]
          refine (rPass_yes1 p q xs ys us vs A B C D n m n' m' c d c' d' w hx hy hu hv hA hB hC hD lx ly lu lv sx sy su sv m1 m2 d1 d2).mono ?_
          rintro e w' ⟨x, y, hx', hy', rfl, hb⟩
          refine ⟨C, c', D, d', A, c, B, d, ?_, Sl.below hC0 hb, Sl.below hD0 hb, Sl.below hA0 hb, Sl.below hB0 hb, hb⟩
          rw [show pY (some (0, -((ys.length : Int) - (xs.length : Int)))) q = y from by rw [hy']; show q + -((ys.length : Int) - (xs.length : Int)) = _; omega, show pX (some (0, -((ys.length : Int) - (xs.length : Int)))) p = x from by rw [hx']; show p + 0 = p; omega]
          rfl
        · rw [if_neg d2]
          exact (rPass_no2 p q xs ys us vs A B C D n m n' m' c d c' d' w hx hy hu hv hA hB hC hD lx ly lu lv sx sy su sv m1 m2 d1 d2).mono fun _ _ h => rpassed_none h
      · rw [if_neg d1]
        by_cases d2 : q + (us.length : Int) < p
        · rw [if_pos d2]
          by_cases d3 : p + ((vs.length : Int) - (us.length : Int)) ≤ 1048576
          · rw [if_pos d3]
            refine (rPass_yes2 p q xs ys us vs A B C D n m n' m' c d c' d' w hx hy hu hv hA hB hC hD lx ly lu lv sx sy su sv m1 m2 d1 d2 d3).mono ?_
            rintro e w' ⟨x, y, hx', hy', rfl, hb⟩
            refine ⟨C, c', D, d', A, c, B, d, ?_, Sl.below hC0 hb, Sl.below hD0 hb, Sl.below hA0 hb, Sl.below hB0 hb, hb⟩
            rw [show pY (some ((vs.length : Int) - (us.length : Int), 0)) q = y from by rw [hy']; show q + 0 = q; omega, show pX (some ((vs.length : Int) - (us.length : Int), 0)) p = x from by rw [hx']; show p + ((vs.length : Int) - (us.length : Int)) = _; omega]
            rfl
          · rw [if_neg d3]
            exact (rPass_no3 p q xs ys us vs A B C D n m n' m' c d c' d' w hx hy hu hv hA hB hC hD lx ly lu lv sx sy su sv m1 m2 d1 d2 d3).mono fun _ _ h => rpassed_none h
        · rw [if_neg d2]
          exact (rPass_no4 p q xs ys us vs A B C D n m n' m' c d c' d' w hx hy hu hv hA hB hC hD lx ly lu lv sx sy su sv m1 m2 d1 d2).mono fun _ _ h => rpassed_none h
    · have m2' : hMay q us vs = false := by simpa using m2
      rw [if_neg (by rw [m2']; simp)]
      exact (rPass_no1 p q xs ys us vs A B C D n m n' m' c d c' d' w hx hy hu hv hA hB hC hD lx ly lu lv sx sy su sv true false m1 m2' rfl).mono fun _ _ h => rpassed_none h
  · have m1' : hMay p xs ys = false := by simpa using m1
    rw [if_neg (by rw [m1']; simp)]
    exact (rPass_no1 p q xs ys us vs A B C D n m n' m' c d c' d' w hx hy hu hv hA hB hC hD lx ly lu lv sx sy su sv false (hMay q us vs) m1' rfl rfl).mono fun _ _ h => rpassed_none h
end Go.Proofs.Ytnepgecdnhiokaa
