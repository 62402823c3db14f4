/- A list of edits that comes in by a row. No function of the program is walked here. -/
import Derived.Deep.Slices
import Derived.Deep.Fields
import Derived.ChangeSame
import Derived.Test.YtgbkbcdplcehmaaOpen
import Derived.Test.YtgbkbcdplcehmaaCost
namespace Go.Proofs.Ytgbkbcdplcehmaa
open Go.ChangeShapes Go.WideShapes Go.ChangeAt Go.RowKit

theorem list_of {α : Type} (P : Nat → α → Prop) : ∀ n, (∀ i, i < n → ∃ e, P i e) → ∃ l : List α, l.length = n ∧ ∀ i (h : i < l.length), P i l[i]
  | 0, _ => ⟨[], rfl, fun i h => by simp at h⟩
  | n + 1, h => by
    obtain ⟨l, hl, hp⟩ := list_of P n (fun i hi => h i (by omega))
    obtain ⟨e, he⟩ := h n (by omega)
    refine ⟨l ++ [e], by simp [hl], fun i hi => ?_⟩
    by_cases hin : i < l.length
    · rw [List.getElem_append_left hin]
      exact hp i hin
    · obtain rfl : i = l.length := by simp at hi; omega
      rw [List.getElem_append_right (Nat.le_refl _)]
      simp only [Nat.sub_self, List.getElem_cons_zero]
      rw [hl]
      exact he
/-- What rests on blocks that there are. -/
theorem EdL.frs {C : Option Addr} {l : List EdA} {w : World} (h : EdL C l w) : Frs 0 (EdL C l) w := by
  refine ⟨fun d => d < w.heap.size, fun w1 w2 hd hs h1 => ?_, fun d hd => ⟨Nat.zero_le _, hd⟩, h⟩
  refine ⟨?_, fun e he => ?_⟩
  · refine dep_sl _ _ _ w1 w2 (fun d hd' => hd d ?_) hs h1.1
    obtain ⟨hn, ad, rfl, rfl⟩ := hd'
    obtain ⟨ad', e', hb, _⟩ := h.1.2 hn
    injection e' with e'
    subst e'
    exact hb
  · refine dep_sl _ _ _ w1 w2 (fun d hd' => hd d ?_) hs (h1.2 e he)
    obtain ⟨hn, ad, ha, rfl⟩ := hd'
    obtain ⟨ad', e', hb, _⟩ := (h.2 e he).2 hn
    rw [ha] at e'
    injection e' with e'
    subst e'
    exact hb
theorem Sm.argF {w0 : World} {M : List Mf} {P : World → Prop} (h : Sm w0 w0 [] M) (hP : Frs 0 P w0) : Sm w0 w0 [] ((0, P) :: M) :=
  h.put (by
    obtain ⟨D, k1, k2, k3⟩ := hP
    exact ⟨D, k1, fun d hd => ⟨k2 d hd, fun i b hi => by simp at hi⟩, k3⟩)
/-- What is known of an edit that comes in. -/
def EdI (e : EdA) : Prop := (-9223372036854775808 ≤ e.1 ∧ e.1 ≤ 9223372036854775807) ∧ (-9223372036854775808 ≤ e.2.1 ∧ e.2.1 ≤ 9223372036854775807) ∧ e.2.2.2.2.length ≤ e.2.2.2.1 ∧ e.2.2.2.1 ≤ 9223372036854775807
section
variable {H : Type} {enc : TypeId × Value → H} {W : World} {base : Nat} {r : Reach}
theorem open_ln {v : Value} {y : DataW H × List MemPlace} {fuel : Nat} (hf : DataW.trod enc Try.prog W 0 (fun _ => true) true fuel 22 [v] = some y) :
    ∃ (A : Option Addr) (c : Nat) (xs : List ByteArray), v = .slice A xs.length c ∧ xs.length ≤ c ∧ c ≤ 9223372036854775807 ∧ SlS W.heap.size W A xs := by
  rcases open_strings Try.underlying22 Try.underlying9 (by kernel_rfl) hf with ⟨hcs, _⟩ | ⟨x, l, c, ss, hcs, _, hl, hm, hz, _, hcell, _⟩
  · obtain rfl : v = .slice none 0 0 := by simpa using hcs
    exact ⟨none, 0, [], rfl, Nat.le_refl _, by omega, Sl.zero _⟩
  · obtain rfl : v = .slice (some x) l c := by simpa using hcs
    simp only [maxLen] at hm
    have hlen : (ss.take l).length = l := by
      rw [List.length_take, hz]
      simp; omega
    refine ⟨_, c, ss.take l, by rw [hlen], by omega, by omega, ⟨by omega, fun hn => ?_⟩⟩
    have hcl : ∀ j, j < (ss.take l).length → W.cell? (x.add j) = some (.string (sAt (ss.take l) j)) := fun j hj => by
      rw [hcell j (by simp at hj; omega)]
      simp only [sAt, List.getD_eq_getElem?_getD, List.getElem?_take, if_pos (show j < l by omega)]
    have hb : x.block < W.heap.size := by
      have := World.block_lt_of_cell? W _ (hcl 0 hn)
      rwa [block_add] at this
    exact ⟨x, rfl, hb, .inl hb, hcl⟩
theorem ed_lo {n : Int} (h : (Lit.int .i64 n).wf = true) : -9223372036854775808 ≤ n := by
  have h1 := (Bool.and_eq_true _ _ ▸ h : decide (IntKind.i64.min ≤ n) = true ∧ decide (n ≤ IntKind.i64.max) = true).1
  exact of_decide_eq_true h1
theorem ed_hi {n : Int} (h : (Lit.int .i64 n).wf = true) : n ≤ 9223372036854775807 := by
  have h1 := (Bool.and_eq_true _ _ ▸ h : decide (IntKind.i64.min ≤ n) = true ∧ decide (n ≤ IntKind.i64.max) = true).2
  exact of_decide_eq_true h1
theorem ed_size : Try.prog.cellsOf 35 = 3 := by kernel_rfl
theorem cells_int : Try.prog.cellsOf 3 = 1 := by kernel_rfl
theorem cells_strs : Try.prog.cellsOf 22 = 1 := by kernel_rfl
theorem open_edits {v : Value} {d : DataW H} {p : List MemPlace} (hv : Value.okWide Try.prog W r base 26 v)
    (h : DataW.Trod enc Try.prog W 0 (fun _ => true) true 26 v d p) :
    ∃ (C : Option Addr) (k : Nat) (l : List EdA), v = .slice C l.length k ∧ l.length ≤ k ∧ k ≤ 9223372036854775807 ∧ (l.length ≤ 1000000 → EdL C l W) ∧ (∀ e ∈ l, EdI e) ∧ (∀ x ∈ p, x.block < W.heap.size) := by
  obtain ⟨a, len, cap, rfl⟩ := okWide_slice Try.underlying26 hv
  obtain ⟨fuel, hf⟩ := h
  have lt := DataW.trod_lt fuel _ _ _ hf
  rcases Go.Deep.open_slice Try.underlying26 hf with ⟨hcs, _⟩ | ⟨x, l, c, m, n, D, Pl, hcs, _, hl, hm, hmm, _, hi⟩
  · simp [Value.cells] at hcs
    obtain ⟨rfl, rfl, rfl⟩ := hcs
    exact ⟨none, 0, [], rfl, Nat.le_refl _, by omega, fun _ => ⟨⟨by simp [ecs], fun h0 => by simp [ecs] at h0⟩, fun e he => by simp at he⟩, fun e he => by simp at he, lt⟩
  · simp [Value.cells] at hcs
    obtain ⟨rfl, rfl, rfl⟩ := hcs
    simp only [maxLen] at hm
    rw [if_pos rfl] at hmm
    subst hmm
    have hex : ∀ i, i < len → ∃ e : EdA, (W.cell? (x.add (i * 3)) = some (.int .i64 e.1) ∧ W.cell? (x.add (i * 3 + 1)) = some (.int .i64 e.2.1) ∧ W.cell? (x.add (i * 3 + 2)) = some (.slice e.2.2.1 e.2.2.2.2.length e.2.2.2.1)) ∧ LnX e.2.2.1 e.2.2.2.2 W ∧ EdI e := fun i hil => by
      obtain ⟨cs', hc, ht⟩ := hi i (by omega)
      rw [ed_size] at hc
      obtain ⟨_, hcl, hat⟩ := World.cells?_some hc
      obtain ⟨ys, n', hn', hy, hlen, hyl, hff⟩ := DataW.trod_struct Try.underlying35 ht
      match cs', hcl, ys, hyl with
      | [v0, v1, v2], _, [y0, y1, y2], _ =>
        have g0 : DataW.trod enc Try.prog W 0 (fun _ => true) true n' 3 [v0] = some y0 := by
          have h0 := hff 0 _ rfl
          simpa [cells_int] using h0
        have g1 : DataW.trod enc Try.prog W 0 (fun _ => true) true n' 3 [v1] = some y1 := by
          have h0 := hff 1 _ rfl
          simpa [cells_int] using h0
        have g2 : DataW.trod enc Try.prog W 0 (fun _ => true) true n' 22 [v2] = some y2 := by
          have h0 := hff 2 _ rfl
          simpa [cells_strs] using h0
        have a0 := hat 0 (by omega)
        have a1 := hat 1 (by omega)
        have a2 := hat 2 (by omega)
        obtain ⟨p0, e0, _, w0⟩ := DataW.trod_int Try.underlying3 g0
        obtain rfl : v0 = .int .i64 p0 := by simpa using e0
        obtain ⟨p1, e1, _, w1⟩ := DataW.trod_int Try.underlying3 g1
        obtain rfl : v1 = .int .i64 p1 := by simpa using e1
        obtain ⟨A, c, xs, rfl, lc, mc, s1⟩ := open_ln g2
        rw [add_add] at a0 a1 a2
        exact ⟨(p0, p1, A, c, xs), ⟨a0, a1, a2⟩, LnX.of s1, ⟨ed_lo w0, ed_hi w0⟩, ⟨ed_lo w1, ed_hi w1⟩, lc, mc⟩
    obtain ⟨l, rfl, hall⟩ := list_of _ len hex
    refine ⟨_, _, l, rfl, by omega, by omega, fun hs => ⟨⟨by rw [ecs_length]; omega, fun h0 => ?_⟩, fun e he => ?_⟩, fun e he => ?_, lt⟩
    · rw [ecs_length] at h0
      have hb : x.block < W.heap.size := by
        have := World.block_lt_of_cell? W _ (hall 0 (by omega)).1.1
        rwa [block_add] at this
      refine ⟨x, rfl, hb, fun j hj => ?_⟩
      rw [ecs_length] at hj
      obtain ⟨q, s, hs3, rfl⟩ : ∃ q s, s < 3 ∧ j = q * 3 + s := ⟨j / 3, j % 3, Nat.mod_lt _ (by omega), by omega⟩
      obtain ⟨h0, h1, h2⟩ := ecs_at l q (by omega)
      obtain ⟨⟨k0, k1, k2⟩, _⟩ := hall q (by omega)
      show W.cell? (x.add (q * 3 + s)) = some ((ecs l).getD (q * 3 + s) undef)
      rw [List.getD_eq_getElem?_getD]
      match s, hs3 with
      | 0, _ => rw [Nat.add_zero, h0, k0]; rfl
      | 1, _ => rw [h1, k1]; rfl
      | 2, _ => rw [h2, k2]; rfl
    · obtain ⟨i, hi, rfl⟩ := List.mem_iff_getElem.1 he
      exact (hall i hi).2.1
    · obtain ⟨i, hi, rfl⟩ := List.mem_iff_getElem.1 he
      exact (hall i hi).2.2
end
end Go.Proofs.Ytgbkbcdplcehmaa
