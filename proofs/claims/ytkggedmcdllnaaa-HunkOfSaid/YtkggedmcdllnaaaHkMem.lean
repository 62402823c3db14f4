/- What the hunks from a list to another one are made of. No program. -/
import Derived.Test.YtkggedmcdllnaaaHPl
namespace Go.Proofs.Ytkggedmcdllnaaa

theorem hFrom_mem (xs : List ByteArray) : ∀ (r : List Ed) (b : Int) (e : Hk3), e ∈ hFrom xs b r → e.2.1.length ≤ xs.length ∧ ∃ x ∈ r, e.2.2 = x.2.2
  | [], _, e, he => by simp [hFrom] at he
  | x :: r, b, e, he => by
    simp only [hFrom, List.mem_cons] at he
    rcases he with rfl | he
    · exact ⟨by simp only [List.length_drop, List.length_take]; omega, x, .head _, rfl⟩
    · obtain ⟨h1, y, hy, h2⟩ := hFrom_mem xs r _ e he
      exact ⟨h1, y, .tail _ hy, h2⟩
theorem hds_len {l : List HkA} {xs ys : List ByteArray} (h : hds l = hunks xs ys) : ∀ e ∈ l, e.2.1.2.2.length ≤ xs.length ∧ e.2.2.2.2.length ≤ ys.length := fun e he => by
  have h1 : (e.1, e.2.1.2.2, e.2.2.2.2) ∈ hds l := List.mem_map.2 ⟨e, he, rfl⟩
  rw [h] at h1
  obtain ⟨h2, x, hx, h3⟩ := hFrom_mem xs _ _ _ h1
  simp only at h2 h3
  exact ⟨h2, by rw [h3]; exact (edits_mem hx).2.2.2.2⟩
end Go.Proofs.Ytkggedmcdllnaaa
