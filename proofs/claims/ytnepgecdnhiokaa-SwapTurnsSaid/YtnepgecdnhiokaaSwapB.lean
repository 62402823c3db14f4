/- Layer 6: what swap.Pass answers, as plain law; its contract where two pass, and where they don't. -/
import Derived.Test.YtnepgecdnhiokaaSwapA
import Derived.Test.YtnepgecdnhiokaaHkSt
namespace Go.Proofs.Ytnepgecdnhiokaa
open Go.RowKit

theorem Pass_some (p q : Int) (xs ys us vs : List ByteArray) (z : Int × Int) (X Y : Int) (A B C D : Option Addr) (c d c' d' : Nat) (w : World) (hr : passX p xs ys q us vs = some z) (hX : p + z.1 = X) (hY : q + z.2 = Y)
    (hA : SlS w.heap.size w A xs) (hB : SlS w.heap.size w B ys) (hC : SlS w.heap.size w C us) (hD : SlS w.heap.size w D vs) (lx : xs.length ≤ 100000) (ly : ys.length ≤ 100000) (lu : us.length ≤ 100000) (lv : vs.length ≤ 100000)
    (sx : ∀ x ∈ xs, x.size ≤ 9223372036854775807) (sy : ∀ x ∈ ys, x.size ≤ 9223372036854775807) (su : ∀ x ∈ us, x.size ≤ 9223372036854775807) (sv : ∀ x ∈ vs, x.size ≤ 9223372036854775807) :
    Calls Try.prog 12 #[.agg #[.int .i64 p, .slice A xs.length c, .slice B ys.length d], .agg #[.int .i64 q, .slice C us.length c', .slice D vs.length d']] w fun e w' => ∃ C' e1 D' e2 A' e3 B' e4,
      e = .returned (.tuple #[.agg #[.int .i64 Y, .slice C' us.length e1, .slice D' vs.length e2], .agg #[.int .i64 X, .slice A' xs.length e3, .slice B' ys.length e4], .bool true]) ∧
      SlS 0 w' C' us ∧ SlS 0 w' D' vs ∧ SlS 0 w' A' xs ∧ SlS 0 w' B' ys ∧ Below w.heap.size w w' := by
  subst hX hY
  refine (Pass_all p q xs ys us vs A B C D _ _ _ _ c d c' d' w _ hr rfl rfl rfl rfl hA hB hC hD lx ly lu lv sx sy su sv).mono ?_
  rintro e w' ⟨C', e1, D', e2, A', e3, B', e4, rfl, _, h1, h2, h3, h4, hb⟩
  exact ⟨C', e1, D', e2, A', e3, B', e4, rfl, h1, h2, h3, h4, hb⟩
theorem Pass_none (p q : Int) (xs ys us vs : List ByteArray) (A B C D : Option Addr) (c d c' d' : Nat) (w : World) (hr : passX p xs ys q us vs = none)
    (hA : SlS w.heap.size w A xs) (hB : SlS w.heap.size w B ys) (hC : SlS w.heap.size w C us) (hD : SlS w.heap.size w D vs) (lx : xs.length ≤ 100000) (ly : ys.length ≤ 100000) (lu : us.length ≤ 100000) (lv : vs.length ≤ 100000)
    (sx : ∀ x ∈ xs, x.size ≤ 9223372036854775807) (sy : ∀ x ∈ ys, x.size ≤ 9223372036854775807) (su : ∀ x ∈ us, x.size ≤ 9223372036854775807) (sv : ∀ x ∈ vs, x.size ≤ 9223372036854775807) :
    Calls Try.prog 12 #[.agg #[.int .i64 p, .slice A xs.length c, .slice B ys.length d], .agg #[.int .i64 q, .slice C us.length c', .slice D vs.length d']] w fun e w' => ∃ C' e1 D' e2 A' e3 B' e4,
      e = .returned (.tuple #[.agg #[.int .i64 0, .slice C' 0 e1, .slice D' 0 e2], .agg #[.int .i64 0, .slice A' 0 e3, .slice B' 0 e4], .bool false]) ∧ Below w.heap.size w w' := by
  refine (Pass_all p q xs ys us vs A B C D _ _ _ _ c d c' d' w _ hr rfl rfl rfl rfl hA hB hC hD lx ly lu lv sx sy su sv).mono ?_
  rintro e w' ⟨C', e1, D', e2, A', e3, B', e4, rfl, _, h1, h2, h3, h4, hb⟩
  exact ⟨C', e1, D', e2, A', e3, B', e4, rfl, hb⟩

section
variable {p q : Int} {xs ys us vs : List ByteArray} {z : Int × Int}
/-- The two ways in which two hunks pass one another. -/
theorem passX_out (h : passX p xs ys q us vs = some z) : hMay p xs ys = true ∧ hMay q us vs = true ∧
    ((p + (ys.length : Int) < q ∧ z.1 = 0 ∧ z.2 = -((ys.length : Int) - (xs.length : Int)) ∧ q + z.2 ≤ 1048576) ∨ (q + (us.length : Int) < p ∧ z.1 = (vs.length : Int) - (us.length : Int) ∧ z.2 = 0 ∧ p + z.1 ≤ 1048576)) := by
  unfold passX at h
  by_cases hm : (hMay p xs ys && hMay q us vs) = true
  · rw [if_pos hm] at h
    simp only [Bool.and_eq_true] at hm
    refine ⟨hm.1, hm.2, ?_⟩
    by_cases d1 : p + (ys.length : Int) < q
    · rw [if_pos d1] at h
      by_cases d2 : q + -((ys.length : Int) - (xs.length : Int)) ≤ 1048576
      · rw [if_pos d2] at h
        injection h with h
        subst h
        exact .inl ⟨d1, rfl, rfl, d2⟩
      · rw [if_neg d2] at h; cases h
    · rw [if_neg d1] at h
      by_cases d2 : q + (us.length : Int) < p
      · rw [if_pos d2] at h
        by_cases d3 : p + ((vs.length : Int) - (us.length : Int)) ≤ 1048576
        · rw [if_pos d3] at h
          injection h with h
          subst h
          exact .inr ⟨d2, rfl, rfl, d3⟩
        · rw [if_neg d3] at h; cases h
      · rw [if_neg d2] at h; cases h
  · rw [if_neg hm] at h; cases h
theorem passX_one (m1 : hMay p xs ys = true) (m2 : hMay q us vs = true) (d1 : p + (ys.length : Int) < q) (d2 : q + -((ys.length : Int) - (xs.length : Int)) ≤ 1048576) : passX p xs ys q us vs = some (0, -((ys.length : Int) - (xs.length : Int))) := by
  unfold passX
  rw [if_pos (by rw [m1, m2]; rfl), if_pos d1, if_pos d2]
theorem passX_two (m1 : hMay p xs ys = true) (m2 : hMay q us vs = true) (d1 : q + (us.length : Int) < p) (d2 : p + ((vs.length : Int) - (us.length : Int)) ≤ 1048576) : passX p xs ys q us vs = some ((vs.length : Int) - (us.length : Int), 0) := by
  obtain ⟨⟨a1, a2⟩, -⟩ := hMay_out m1
  obtain ⟨⟨a3, a4⟩, -⟩ := hMay_out m2
  unfold passX
  rw [if_pos (by rw [m1, m2]; rfl), if_neg (by omega), if_pos d1, if_pos d2]
theorem hMay_move {p' : Int} (m : hMay p xs ys = true) (h0 : 0 ≤ p') (h1 : p' ≤ 1048576) : hMay p' xs ys = true := by
  obtain ⟨-, h3, h4⟩ := hMay_out m
  exact hMay_true h0 h1 h3 h4
theorem hMay_turn {p' : Int} (m : hMay p xs ys = true) (h0 : 0 ≤ p') (h1 : p' ≤ 1048576) : hMay p' ys xs = true := by
  obtain ⟨-, h3, h4⟩ := hMay_out m
  exact hMay_true h0 h1 h4 h3
theorem hMay_swap : hMay p ys xs = hMay p xs ys := by
  unfold hMay
  cases allOk xs <;> cases allOk ys <;> simp
/-- Two that passed one another pass back. -/
theorem passX_back (h : passX p xs ys q us vs = some z) (hp : p ≤ 524288) (hq : q ≤ 524288) : ∃ z', passX (q + z.2) us vs (p + z.1) xs ys = some z' ∧ p + z.1 + z'.2 = p ∧ q + z.2 + z'.1 = q := by
  obtain ⟨m1, m2, h⟩ := passX_out h
  obtain ⟨⟨a1, a2⟩, -⟩ := hMay_out m1
  obtain ⟨⟨a3, a4⟩, -⟩ := hMay_out m2
  rcases h with ⟨d1, e1, e2, d2⟩ | ⟨d1, e1, e2, d2⟩
  · rw [e2] at d2
    refine ⟨_, passX_two (hMay_move m2 (by rw [e2]; omega) (by rw [e2]; exact d2)) (hMay_move m1 (by rw [e1]; omega) (by rw [e1]; omega)) (by rw [e1, e2]; omega) (by rw [e2]; omega), by simp only; omega, by simp only; rw [e2]; omega⟩
  · rw [e1] at d2
    refine ⟨_, passX_one (hMay_move m2 (by rw [e2]; omega) (by rw [e2]; omega)) (hMay_move m1 (by rw [e1]; omega) (by rw [e1]; exact d2)) (by rw [e1, e2]; omega) (by rw [e1]; omega), by simp only; rw [e1]; omega, by simp only; rw [e2]; omega⟩
/-- Turned, two pass one another in the other order just as they do. -/
theorem passX_turn : passX q vs us p ys xs = (passX p xs ys q us vs).map fun z => (z.2, z.1) := by
  unfold passX
  rw [hMay_swap (p := q), hMay_swap (p := p)]
  cases m1 : hMay p xs ys
  · simp
  · cases m2 : hMay q us vs
    · simp
    · obtain ⟨⟨a1, a2⟩, -⟩ := hMay_out m1
      obtain ⟨⟨a3, a4⟩, -⟩ := hMay_out m2
      simp only [Bool.and_self, if_true]
      by_cases d1 : p + (ys.length : Int) < q
      · rw [if_neg (show ¬ q + (us.length : Int) < p by omega), if_pos d1, if_pos d1]
        by_cases d2 : q + -((ys.length : Int) - (xs.length : Int)) ≤ 1048576
        · rw [if_pos d2, if_pos (by omega)]
          simp only [Option.map_some, Option.some.injEq, Prod.mk.injEq, and_true]
          omega
        · rw [if_neg d2, if_neg (by omega)]; rfl
      · simp only [if_neg d1]
        by_cases d2 : q + (us.length : Int) < p
        · simp only [if_pos d2]
          by_cases d3 : p + ((vs.length : Int) - (us.length : Int)) ≤ 1048576
          · rw [if_pos d3, if_pos (by omega)]
            simp only [Option.map_some, Option.some.injEq, Prod.mk.injEq, true_and]
            omega
          · rw [if_neg d3, if_neg (by omega)]; rfl
        · simp only [if_neg d2]; rfl
end
set_option maxHeartbeats 1000000 in
theorem passX_three {p q r : Int} {xs ys us vs ks ls : List ByteArray} {z1 z2 z3 z4 z5 z6 : Int × Int} (h1 : passX p xs ys q us vs = some z1) (h2 : passX (p + z1.1) xs ys r ks ls = some z2) (h3 : passX (q + z1.2) us vs (r + z2.2) ks ls = some z3)
    (h4 : passX q us vs r ks ls = some z4) (h5 : passX p xs ys (r + z4.2) ks ls = some z5) (h6 : passX (p + z5.1) xs ys (q + z4.1) us vs = some z6) :
    r + z2.2 + z3.2 = r + z4.2 + z5.2 ∧ q + z1.2 + z3.1 = q + z4.1 + z6.2 ∧ p + z1.1 + z2.1 = p + z5.1 + z6.1 := by
  obtain ⟨m1, m2, g1⟩ := passX_out h1
  obtain ⟨-, m3, g2⟩ := passX_out h2
  obtain ⟨-, -, g3⟩ := passX_out h3
  obtain ⟨-, -, g4⟩ := passX_out h4
  obtain ⟨-, -, g5⟩ := passX_out h5
  obtain ⟨-, -, g6⟩ := passX_out h6
  clear h1 h2 h3 h4 h5 h6 m1 m2 m3
  generalize z1.1 = x1 at *
  generalize z1.2 = y1 at *
  generalize z2.1 = x2 at *
  generalize z2.2 = y2 at *
  generalize z3.1 = x3 at *
  generalize z3.2 = y3 at *
  generalize z4.1 = x4 at *
  generalize z4.2 = y4 at *
  generalize z5.1 = x5 at *
  generalize z5.2 = y5 at *
  generalize z6.1 = x6 at *
  generalize z6.2 = y6 at *
  have na : 0 ≤ (xs.length : Int) := Int.natCast_nonneg _
  generalize (xs.length : Int) = a at *
  have nb : 0 ≤ (ys.length : Int) := Int.natCast_nonneg _
  generalize (ys.length : Int) = b at *
  have nc : 0 ≤ (us.length : Int) := Int.natCast_nonneg _
  generalize (us.length : Int) = c at *
  have nd : 0 ≤ (vs.length : Int) := Int.natCast_nonneg _
  generalize (vs.length : Int) = d at *
  have ne : 0 ≤ (ks.length : Int) := Int.natCast_nonneg _
  generalize (ks.length : Int) = e at *
  have nf : 0 ≤ (ls.length : Int) := Int.natCast_nonneg _
  generalize (ls.length : Int) = f at *
  rcases g1 with ⟨c1, rfl, rfl, -⟩ | ⟨c1, rfl, rfl, -⟩ <;> rcases g4 with ⟨c4, rfl, rfl, -⟩ | ⟨c4, rfl, rfl, -⟩ <;> rcases g2 with ⟨c2, rfl, rfl, -⟩ | ⟨c2, rfl, rfl, -⟩ <;> rcases g3 with ⟨c3, rfl, rfl, -⟩ | ⟨c3, rfl, rfl, -⟩ <;>
    rcases g5 with ⟨c5, rfl, rfl, -⟩ | ⟨c5, rfl, rfl, -⟩ <;> rcases g6 with ⟨c6, rfl, rfl, -⟩ | ⟨c6, rfl, rfl, -⟩ <;> refine ⟨?_, ?_, ?_⟩ <;> omega
/-- swap.Pass, its results under letters. -/
theorem Pass_gen (p q : Int) (xs ys us vs : List ByteArray) (r : Option (Int × Int)) (X Y : Int) (xs' ys' us' vs' : List ByteArray) (b : Bool) (A B C D : Option Addr) (c d c' d' : Nat) (w : World) (hr : passX p xs ys q us vs = r) (hX : pX r p = X) (hY : pY r q = Y)
    (k1 : pL r xs = xs') (k2 : pL r ys = ys') (k3 : pL r us = us') (k4 : pL r vs = vs') (hb : r.isSome = b)
    (hA : SlS w.heap.size w A xs) (hB : SlS w.heap.size w B ys) (hC : SlS w.heap.size w C us) (hD : SlS w.heap.size w D vs) (lx : xs.length ≤ 100000) (ly : ys.length ≤ 100000) (lu : us.length ≤ 100000) (lv : vs.length ≤ 100000)
    (sx : ∀ x ∈ xs, x.size ≤ 9223372036854775807) (sy : ∀ x ∈ ys, x.size ≤ 9223372036854775807) (su : ∀ x ∈ us, x.size ≤ 9223372036854775807) (sv : ∀ x ∈ vs, x.size ≤ 9223372036854775807) :
    Calls Try.prog 12 #[.agg #[.int .i64 p, .slice A xs.length c, .slice B ys.length d], .agg #[.int .i64 q, .slice C us.length c', .slice D vs.length d']] w fun e w' => ∃ C' e1 D' e2 A' e3 B' e4,
      e = .returned (.tuple #[.agg #[.int .i64 Y, .slice C' us'.length e1, .slice D' vs'.length e2], .agg #[.int .i64 X, .slice A' xs'.length e3, .slice B' ys'.length e4], .bool b]) ∧
      SlS 0 w' C' us' ∧ SlS 0 w' D' vs' ∧ SlS 0 w' A' xs' ∧ SlS 0 w' B' ys' ∧ Below w.heap.size w w' := by
  subst hX hY k1 k2 k3 k4 hb
  refine (Pass_all p q xs ys us vs A B C D _ _ _ _ c d c' d' w _ hr rfl rfl rfl rfl hA hB hC hD lx ly lu lv sx sy su sv).mono ?_
  rintro e w' ⟨C', e1, D', e2, A', e3, B', e4, rfl, _, h1, h2, h3, h4, hb⟩
  exact ⟨C', e1, D', e2, A', e3, B', e4, rfl, h1, h2, h3, h4, hb⟩
end Go.Proofs.Ytnepgecdnhiokaa
