/- What two lists have in common in front and behind, in plain words. No program. -/
import Derived.Test.YtaffkplllmnjoaaSeqB
namespace Go.Proofs.Ytaffkplllmnjoaa

theorem com_take {α : Type} [DecidableEq α] (xs ys : List α) (f : Nat) (h : f ≤ com xs ys) : xs.take f = ys.take f := by
  have hl := com_le xs ys
  apply List.ext_getElem
  · simp; omega
  · intro k h1 h2
    obtain ⟨_, _, e⟩ := com_same xs ys k (by simp at h1; omega)
    simpa using e
theorem bak_tail (xs ys : List ByteArray) : com xs ys + bak xs ys ≤ xs.length ∧ com xs ys + bak xs ys ≤ ys.length ∧ xs.drop (xs.length - bak xs ys) = ys.drop (ys.length - bak xs ys) := by
  have hl := com_le xs ys
  have hk := com_le (xs.drop (com xs ys)).reverse (ys.drop (com xs ys)).reverse
  have ht := com_take (xs.drop (com xs ys)).reverse (ys.drop (com xs ys)).reverse _ (Nat.le_refl _)
  change com (xs.drop (com xs ys)).reverse (ys.drop (com xs ys)).reverse ≤ _ ∧ com (xs.drop (com xs ys)).reverse (ys.drop (com xs ys)).reverse ≤ _ at hk
  obtain ⟨k, hkk⟩ : ∃ k, bak xs ys = k := ⟨_, rfl⟩
  have hkk' : com (xs.drop (com xs ys)).reverse (ys.drop (com xs ys)).reverse = k := hkk
  rw [hkk'] at hk ht
  rw [hkk]
  obtain ⟨f, hf⟩ : ∃ f, com xs ys = f := ⟨_, rfl⟩
  rw [hf] at hl hk ht ⊢
  simp only [List.length_reverse, List.length_drop] at hk
  refine ⟨by omega, by omega, ?_⟩
  rw [List.take_reverse, List.take_reverse, List.reverse_inj, List.drop_drop, List.drop_drop, List.length_drop, List.length_drop] at ht
  rw [show xs.length - k = f + (xs.length - f - k) from by omega, show ys.length - k = f + (ys.length - f - k) from by omega]
  exact ht
theorem list_ends (xs : List ByteArray) (f k : Nat) (h : f + k ≤ xs.length) : xs = xs.take f ++ (xs.take (xs.length - k)).drop f ++ xs.drop (xs.length - k) := by
  have h1 : xs.take f ++ (xs.take (xs.length - k)).drop f = xs.take (xs.length - k) := by
    have := List.take_append_drop f (xs.take (xs.length - k))
    rw [List.take_take, Nat.min_eq_left (by omega)] at this
    exact this
  rw [h1, List.take_append_drop]
end Go.Proofs.Ytaffkplllmnjoaa
