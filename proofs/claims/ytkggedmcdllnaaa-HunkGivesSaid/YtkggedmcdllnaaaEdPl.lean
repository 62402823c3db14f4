/- diff.Edits in plain words. No program. -/
import Derived.Test.YtkggedmcdllnaaaPlain
import Derived.Test.YtkggedmcdllnaaaEd
namespace Go.Proofs.Ytkggedmcdllnaaa

/-- The edits from pairs on. -/
def edFrom (ys : List ByteArray) : List (Nat × Nat) → Nat → Nat → List (Int × Int × List ByteArray)
  | [], _, _ => []
  | x :: r, i, j => edStep ys i j x.1 x.2 ++ edFrom ys r (x.1 + 1) (x.2 + 1)
/-- The edits from a list to another one. -/
def edits (xs ys : List ByteArray) : List (Int × Int × List ByteArray) := edFrom ys (Qm.pairs xs ys 0 0 ++ [(xs.length, ys.length)]) 0 0
/-- Pairs that rise from a place on, within two lists. -/
def Ris (n m : Nat) : List (Nat × Nat) → Nat → Nat → Prop
  | [], i, j => i ≤ n ∧ j ≤ m
  | x :: r, i, j => i ≤ x.1 ∧ j ≤ x.2 ∧ x.1 < n ∧ x.2 < m ∧ Ris n m r (x.1 + 1) (x.2 + 1)
theorem ris_of {n m : Nat} : ∀ (l : List (Nat × Nat)) (i j : Nat), i ≤ n → j ≤ m → (∀ x ∈ l, i ≤ x.1 ∧ j ≤ x.2 ∧ x.1 < n ∧ x.2 < m) → l.Pairwise (fun p q => p.1 < q.1 ∧ p.2 < q.2) → Ris n m l i j
  | [], i, j, hi, hj, _, _ => ⟨hi, hj⟩
  | x :: r, i, j, _, _, h, hp => by
    obtain ⟨h1, h2, h3, h4⟩ := h x (by simp)
    rw [List.pairwise_cons] at hp
    refine ⟨h1, h2, h3, h4, ris_of r _ _ h3 h4 (fun y hy => ?_) hp.2⟩
    obtain ⟨_, _, k3, k4⟩ := h y (by simp [hy])
    have := hp.1 y hy
    omega
theorem ris_pairs (xs ys : List ByteArray) : Ris xs.length ys.length (Qm.pairs xs ys 0 0) 0 0 :=
  ris_of _ _ _ (Nat.zero_le _) (Nat.zero_le _) (fun x hx => by
    obtain ⟨_, _, h1, h2, _⟩ := Qm.pairs_mem xs ys 0 0 x hx
    exact ⟨Nat.zero_le _, Nat.zero_le _, h1, h2⟩) (Qm.pairs_rise xs ys 0 0)
theorem ris_le {n m : Nat} {l : List (Nat × Nat)} {i j : Nat} (h : Ris n m l i j) : i ≤ n ∧ j ≤ m := by
  cases l with
  | nil => exact h
  | cons x r => obtain ⟨h1, h2, h3, h4, _⟩ := h; omega
theorem ris_length {n m : Nat} : ∀ {l : List (Nat × Nat)} {i j : Nat}, Ris n m l i j → l.length + i ≤ n
  | [], i, j, h => by simpa using h.1
  | x :: r, i, j, h => by
    obtain ⟨h1, _, _, _, h5⟩ := h
    have := ris_length h5
    simp only [List.length_cons]
    omega
theorem edStep_le (ys : List ByteArray) (i j p q : Nat) : (edStep ys i j p q).length ≤ 1 := by
  unfold edStep
  split <;> simp
theorem edFrom_length (ys : List ByteArray) : ∀ (l : List (Nat × Nat)) (i j : Nat), (edFrom ys l i j).length ≤ l.length
  | [], _, _ => by simp [edFrom]
  | x :: r, i, j => by
    have h1 := edStep_le ys i j x.1 x.2
    have h2 := edFrom_length ys r (x.1 + 1) (x.2 + 1)
    simp only [edFrom, List.length_append, List.length_cons]
    omega
theorem edits_length (xs ys : List ByteArray) : (edits xs ys).length ≤ xs.length + 1 := by
  have h1 := edFrom_length ys (Qm.pairs xs ys 0 0 ++ [(xs.length, ys.length)]) 0 0
  have h2 := Qm.pairs_le_left xs ys 0 0
  unfold edits
  simp only [List.length_append, List.length_cons, List.length_nil] at h1
  omega
end Go.Proofs.Ytkggedmcdllnaaa
