/- A hunk that comes in by a row: a number and two lists of lines. No function of the program is walked here. -/
import Derived.Lib.SmallJoins
import Derived.Test.YtkggedmcdllnaaaOpen
namespace Go.Proofs.Ytkggedmcdllnaaa
open Go.ChangeShapes Go.WideShapes Go.ChangeAt Go.RowKit Go.Joins

section
variable {H : Type} {enc : TypeId × Value → H} {W : World} {base : Nat} {r : Reach}
theorem open_strs1 {v : Value} {y : DataW H × List MemPlace} {fuel : Nat} (hf : DataW.trod enc Try.prog W 0 (fun _ => true) true fuel 22 [v] = some y) :
    ∃ (A : Option Addr) (c : Nat) (xs : List ByteArray), v = .slice A xs.length c ∧ xs.length ≤ c ∧ c ≤ 9223372036854775807 ∧ SlS W.heap.size W A xs := by
  rcases open_strings Try.underlying22 Try.underlying9 (by kernel_rfl) hf with ⟨hcs, _⟩ | ⟨x, l, c, ss, hcs, _, hl, hm, hz, _, hcell, _⟩
  · obtain rfl : v = .slice none 0 0 := by simpa using hcs
    exact ⟨none, 0, [], rfl, Nat.le_refl _, by omega, Sl.zero _⟩
  · obtain rfl : v = .slice (some x) l c := by simpa using hcs
    simp only [maxLen] at hm
    have hlen : (ss.take l).length = l := by
      rw [List.length_take, hz]
      simp; omega
    refine ⟨_, c, ss.take l, by rw [hlen], by omega, by omega, ⟨by omega, fun hn => ?_⟩⟩
    have hcl : ∀ j, j < (ss.take l).length → W.cell? (x.add j) = some (.string (sAt (ss.take l) j)) := fun j hj => by
      rw [hcell j (by simp at hj; omega)]
      simp only [sAt, List.getD_eq_getElem?_getD, List.getElem?_take, if_pos (show j < l by omega)]
    have hb : x.block < W.heap.size := by
      have := World.block_lt_of_cell? W _ (hcl 0 hn)
      rwa [block_add] at this
    exact ⟨x, rfl, hb, .inl hb, hcl⟩
theorem wf_lo {n : Int} (h : (Lit.int .i64 n).wf = true) : -9223372036854775808 ≤ n := by
  have h1 := (Bool.and_eq_true _ _ ▸ h : decide (IntKind.i64.min ≤ n) = true ∧ decide (n ≤ IntKind.i64.max) = true).1
  exact of_decide_eq_true h1
theorem wf_hi {n : Int} (h : (Lit.int .i64 n).wf = true) : n ≤ 9223372036854775807 := by
  have h1 := (Bool.and_eq_true _ _ ▸ h : decide (IntKind.i64.min ≤ n) = true ∧ decide (n ≤ IntKind.i64.max) = true).2
  exact of_decide_eq_true h1
theorem open_hunk {v : Value} {d : DataW H} {p : List MemPlace} (hv : Value.okWide Try.prog W r base 24 v)
    (h : DataW.Trod enc Try.prog W 0 (fun _ => true) true 24 v d p) :
    ∃ (q : Int) (xs ys : List ByteArray) (A B : Option Addr) (c e : Nat), v = .agg #[.int .i64 q, .slice A xs.length c, .slice B ys.length e] ∧ -9223372036854775808 ≤ q ∧ q ≤ 9223372036854775807 ∧
      xs.length ≤ c ∧ c ≤ 9223372036854775807 ∧ SlS W.heap.size W A xs ∧ ys.length ≤ e ∧ e ≤ 9223372036854775807 ∧ SlS W.heap.size W B ys ∧ (∀ x ∈ p, x.block < W.heap.size) := by
  have lt : ∀ x ∈ p, x.block < W.heap.size := by
    obtain ⟨fuel, hf⟩ := h
    exact DataW.trod_lt fuel _ _ _ hf
  obtain ⟨v0, v1, v2, y0, y1, y2, m, rfl, rfl, rfl, h0, h1, h2⟩ := open_agg3 Try.underlying24 (by kernel_rfl) (by kernel_rfl) hv h
  obtain ⟨x, e0, _, wx⟩ := DataW.trod_int Try.underlying3 h0
  obtain rfl : v0 = .int .i64 x := by simpa using e0
  obtain ⟨A, c, xs, rfl, lc, mc, s1⟩ := open_strs1 h1
  obtain ⟨B, e, ys, rfl, le, me, s2⟩ := open_strs1 h2
  exact ⟨x, xs, ys, A, B, c, e, rfl, wf_lo wx, wf_hi wx, lc, mc, s1, le, me, s2, lt⟩
end
end Go.Proofs.Ytkggedmcdllnaaa
