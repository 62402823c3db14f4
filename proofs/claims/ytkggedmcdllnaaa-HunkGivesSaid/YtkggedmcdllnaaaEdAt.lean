/- Edits in memory, one by one. No function of the program is walked here. -/
import Derived.Test.YtkggedmcdllnaaaEdits
namespace Go.Proofs.Ytkggedmcdllnaaa
open Go.RowKit

theorem ecs_at (l : List EdA) : ∀ k (h : k < l.length), (ecs l)[k * 3]? = some (.int .i64 l[k].1) ∧ (ecs l)[k * 3 + 1]? = some (.int .i64 l[k].2.1) ∧ (ecs l)[k * 3 + 2]? = some (.slice l[k].2.2.1 l[k].2.2.2.2.length l[k].2.2.2.1) := by
  induction l with
  | nil => intro k h; simp at h
  | cons x l ih =>
    intro k h
    cases k with
    | zero => simp [ecs]
    | succ k =>
      have h1 := ih k (by simpa using h)
      have e : ecs (x :: l) = [.int .i64 x.1, .int .i64 x.2.1, .slice x.2.2.1 x.2.2.2.2.length x.2.2.2.1] ++ ecs l := by simp [ecs]
      rw [e]
      refine ⟨?_, ?_, ?_⟩
      · rw [List.getElem?_append_right (by simp; omega), show (k + 1) * 3 - ([Value.int .i64 x.1, .int .i64 x.2.1, .slice x.2.2.1 x.2.2.2.2.length x.2.2.2.1] : List Value).length = k * 3 from by simp; omega]
        simpa using h1.1
      · rw [List.getElem?_append_right (by simp; omega), show (k + 1) * 3 + 1 - ([Value.int .i64 x.1, .int .i64 x.2.1, .slice x.2.2.1 x.2.2.2.2.length x.2.2.2.1] : List Value).length = k * 3 + 1 from by simp; omega]
        simpa using h1.2.1
      · rw [List.getElem?_append_right (by simp; omega), show (k + 1) * 3 + 2 - ([Value.int .i64 x.1, .int .i64 x.2.1, .slice x.2.2.1 x.2.2.2.2.length x.2.2.2.1] : List Value).length = k * 3 + 2 from by simp; omega]
        simpa using h1.2.2
theorem EdL.at_ {C : Option Addr} {l : List EdA} {w : World} (h : EdL C l w) (hn : 0 < l.length) :
    ∃ g o, C = some ⟨g, o, none⟩ ∧ g < w.heap.size ∧ ∀ k (hk : k < l.length), w.cell? ⟨g, o + k * 3, none⟩ = some (.int .i64 l[k].1) ∧ w.cell? ⟨g, o + k * 3 + 1, none⟩ = some (.int .i64 l[k].2.1) ∧
      w.cell? ⟨g, o + k * 3 + 2, none⟩ = some (.slice l[k].2.2.1 l[k].2.2.2.2.length l[k].2.2.2.1) := by
  have hl := ecs_length l
  obtain ⟨g, o, e, hb, _, hc⟩ := Sl.at3 (SlX.sl (T := 52) h.1) (by omega)
  refine ⟨g, o, e, hb, fun k hk => ?_⟩
  obtain ⟨h0, h1, h2⟩ := ecs_at l k hk
  have c0 := hc (k * 3) (by omega)
  have c1 := hc (k * 3 + 1) (by omega)
  have c2 := hc (k * 3 + 2) (by omega)
  rw [List.getD_eq_getElem?_getD, h0] at c0
  rw [List.getD_eq_getElem?_getD, h1] at c1
  rw [List.getD_eq_getElem?_getD, h2] at c2
  exact ⟨c0, c1, c2⟩
abbrev Ed := Int × Int × List ByteArray
/-- What an edit of two lists is. -/
theorem edFrom_mem (ys : List ByteArray) (n : Nat) : ∀ (ps : List (Nat × Nat)) (i j : Nat), Ris n ys.length ps i j → ∀ e ∈ edFrom ys (ps ++ [(n, ys.length)]) i j,
    (i : Int) ≤ e.1 ∧ 0 ≤ e.2.1 ∧ 1 ≤ e.2.1 + (e.2.2.length : Int) ∧ e.1 + e.2.1 ≤ n ∧ e.2.2.length ≤ ys.length
  | [], i, j, h, e, he => by
    simp only [List.nil_append, edFrom, List.append_nil, edStep] at he
    obtain ⟨h1, h2⟩ := h
    split at he
    · obtain rfl : e = _ := List.mem_singleton.1 he
      simp only [List.length_take, List.length_drop]
      omega
    · simp at he
  | x :: r, i, j, h, e, he => by
    obtain ⟨h1, h2, h3, h4, h5⟩ := h
    simp only [List.cons_append, edFrom, List.mem_append] at he
    rcases he with he | he
    · simp only [edStep] at he
      split at he
      · obtain rfl : e = _ := List.mem_singleton.1 he
        simp only [List.length_take, List.length_drop]
        omega
      · simp at he
    · have := edFrom_mem ys n r _ _ h5 e he
      omega
theorem edits_mem {xs ys : List ByteArray} {e : Ed} (he : e ∈ edits xs ys) : 0 ≤ e.1 ∧ 0 ≤ e.2.1 ∧ 1 ≤ e.2.1 + (e.2.2.length : Int) ∧ e.1 + e.2.1 ≤ xs.length ∧ e.2.2.length ≤ ys.length := by
  have := edFrom_mem ys xs.length _ 0 0 (ris_pairs xs ys) e he
  omega
theorem edits_new {xs ys : List ByteArray} {l : List EdA} (h : eds l = edits xs ys) : ∀ e ∈ l, e.2.2.2.2.length ≤ ys.length := fun e he => by
  have h1 : (e.1, e.2.1, e.2.2.2.2) ∈ eds l := List.mem_map.2 ⟨e, he, rfl⟩
  rw [h] at h1
  exact (edits_mem h1).2.2.2.2
/-- The pairs are of lines that are the same. -/
def Mat (xs ys : List ByteArray) (ps : List (Nat × Nat)) : Prop := ∀ x ∈ ps, xs[x.1]? = ys[x.2]?
theorem mat_pairs (xs ys : List ByteArray) : Mat xs ys (Qm.pairs xs ys 0 0) := fun x hx => by
  obtain ⟨_, _, h1, h2, h3⟩ := Qm.pairs_mem xs ys 0 0 x hx
  rw [List.getElem?_eq_getElem h1, List.getElem?_eq_getElem h2, h3]
theorem eds_get {l : List EdA} {xs ys : List ByteArray} (h : eds l = edits xs ys) (k : Nat) (hk : k < l.length) : 0 ≤ l[k].1 ∧ 0 ≤ l[k].2.1 ∧ 1 ≤ l[k].2.1 + (l[k].2.2.2.2.length : Int) ∧ l[k].1 + l[k].2.1 ≤ xs.length ∧ l[k].2.2.2.2.length ≤ ys.length := by
  have h1 : (l[k].1, l[k].2.1, l[k].2.2.2.2) ∈ eds l := List.mem_map.2 ⟨l[k], List.getElem_mem hk, rfl⟩
  rw [h] at h1
  exact edits_mem h1
theorem drop_eds (l : List EdA) (i : Nat) (h : i < l.length) : (eds l).drop i = (l[i].1, l[i].2.1, l[i].2.2.2.2) :: (eds l).drop (i + 1) := by
  have h2 : i < (eds l).length := by rw [eds_length]; exact h
  rw [List.drop_eq_getElem_cons h2]
  simp [eds]
theorem EdL.cells {g o i : Nat} {l : List EdA} {w : World} {x0 x1 : Int} {xa : Option Addr} {xc : Nat} {us : List ByteArray} (h : EdL (some ⟨g, o, none⟩) l w) {hlt : i < l.length} (ex : l[i] = (x0, x1, xa, xc, us)) :
    w.cell? ⟨g, o + i * 3, none⟩ = some (.int .i64 x0) ∧ w.cell? ⟨g, o + i * 3 + 1, none⟩ = some (.int .i64 x1) ∧ w.cell? ⟨g, o + i * 3 + 2, none⟩ = some (.slice xa us.length xc) := by
  obtain ⟨g', o', e, _, hc⟩ := h.at_ (by omega)
  injection e with e
  injection e with e1 e2
  subst e1 e2
  have := hc i hlt
  rw [ex] at this
  exact this
end Go.Proofs.Ytkggedmcdllnaaa
