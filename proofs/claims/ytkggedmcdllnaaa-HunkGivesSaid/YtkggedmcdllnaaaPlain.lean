/- How many lines two lists have in common, and which pairs are told: plain laws on lists, no program in sight. -/
namespace Go.Proofs.Ytkggedmcdllnaaa.Qm
section
variable {α : Type} [DecidableEq α]

/-- How many two lists have in common, by the document's words. -/
def lcs : List α → List α → Nat
  | [], _ => 0
  | _ :: _, [] => 0
  | x :: xs, y :: ys => if x = y then lcs xs ys + 1 else max (lcs xs (y :: ys)) (lcs (x :: xs) ys)
termination_by a b => a.length + b.length

theorem lcs_nil_left (b : List α) : lcs ([] : List α) b = 0 := by unfold lcs; rfl
theorem lcs_nil_right (a : List α) : lcs a ([] : List α) = 0 := by cases a <;> (unfold lcs; rfl)
theorem lcs_cons (x : α) (xs : List α) (y : α) (ys : List α) :
    lcs (x :: xs) (y :: ys) = if x = y then lcs xs ys + 1 else max (lcs xs (y :: ys)) (lcs (x :: xs) ys) := by
  rw [lcs]

theorem lcs_ge_left (x : α) (xs b : List α) : lcs xs b ≤ lcs (x :: xs) b ∧ lcs (x :: xs) b ≤ lcs xs b + 1 := by
  induction b generalizing x xs with
  | nil => simp [lcs_nil_right]
  | cons y ys ih =>
    rw [lcs_cons]
    split
    · rename_i h
      refine ⟨?_, ?_⟩
      · cases xs with
        | nil => simp [lcs_nil_left]
        | cons z zs =>
          rw [lcs_cons]
          have h1 := ih z zs
          split
          · omega
          · have h2 : ∀ zs : List α, lcs zs (y :: ys) ≤ lcs zs ys + 1 := by
              intro zs
              induction zs with
              | nil => simp [lcs_nil_left]
              | cons u us ihu =>
                rw [lcs_cons]
                have h3 := ih u us
                split <;> omega
            have := h2 zs
            omega
      · have h2 : ∀ zs : List α, lcs zs ys ≤ lcs zs (y :: ys) := by
          intro zs
          induction zs with
          | nil => simp [lcs_nil_left]
          | cons u us ihu =>
            rw [lcs_cons]
            have h3 := ih u us
            split <;> omega
        have := h2 xs
        omega
    · have := ih x xs
      have h2 : ∀ zs : List α, lcs zs ys ≤ lcs zs (y :: ys) := by
        intro zs
        induction zs with
        | nil => simp [lcs_nil_left]
        | cons u us ihu =>
          rw [lcs_cons]
          have h3 := ih u us
          split <;> omega
      have h4 := h2 xs
      omega

theorem lcs_comm (a b : List α) : lcs a b = lcs b a := by
  induction a generalizing b with
  | nil => simp [lcs_nil_left, lcs_nil_right]
  | cons x xs ih =>
    induction b with
    | nil => simp [lcs_nil_left, lcs_nil_right]
    | cons y ys ihy =>
      rw [lcs_cons, lcs_cons]
      by_cases h : x = y
      · rw [if_pos h, if_pos h.symm, ih]
      · rw [if_neg h, if_neg (Ne.symm h), ih, ihy, Nat.max_comm]

theorem lcs_ge_right (y : α) (a ys : List α) : lcs a ys ≤ lcs a (y :: ys) ∧ lcs a (y :: ys) ≤ lcs a ys + 1 := by
  rw [lcs_comm a ys, lcs_comm a (y :: ys)]; exact lcs_ge_left y ys a

/-- Whatever stands in both, in order, is not more. -/
theorem lcs_most : ∀ (a b s : List α), s.Sublist a → s.Sublist b → s.length ≤ lcs a b := by
  intro a
  induction a with
  | nil => intro b s h _; cases h; simp
  | cons x xs ih =>
    intro b
    induction b with
    | nil => intro s _ h; cases h; simp
    | cons y ys ihy =>
      intro s ha hb
      cases s with
      | nil => simp
      | cons c s =>
        rw [lcs_cons]
        by_cases h : x = y
        · rw [if_pos h]
          have h1 : s.Sublist xs := by
            cases ha with
            | cons _ h => exact (List.sublist_cons_self c s).trans h
            | cons_cons _ h => exact h
          have h2 : s.Sublist ys := by
            cases hb with
            | cons _ h => exact (List.sublist_cons_self c s).trans h
            | cons_cons _ h => exact h
          have := ih ys s h1 h2
          simp; omega
        · rw [if_neg h]
          cases ha with
          | cons _ h1 => have := ih _ _ h1 hb; omega
          | cons_cons _ h1 =>
            cases hb with
            | cons _ h2 => have := ihy (x :: s) (h1.cons_cons _) h2; omega
            | cons_cons _ h2 => exact absurd rfl h

/-- So many do. -/
theorem lcs_some : ∀ (a b : List α), ∃ s : List α, s.Sublist a ∧ s.Sublist b ∧ s.length = lcs a b := by
  intro a
  induction a with
  | nil => intro b; exact ⟨[], by simp, by simp, by simp [lcs_nil_left]⟩
  | cons x xs ih =>
    intro b
    induction b with
    | nil => exact ⟨[], by simp, by simp, by simp [lcs_nil_right]⟩
    | cons y ys ihy =>
      rw [lcs_cons]
      by_cases h : x = y
      · subst h
        obtain ⟨s, h1, h2, h3⟩ := ih ys
        exact ⟨x :: s, h1.cons_cons _, h2.cons_cons _, by simp [h3]⟩
      · rw [if_neg h]
        rcases Nat.le_total (lcs xs (y :: ys)) (lcs (x :: xs) ys) with hm | hm
        · obtain ⟨s, h1, h2, h3⟩ := ihy
          exact ⟨s, h1, h2.cons _, by omega⟩
        · obtain ⟨s, h1, h2, h3⟩ := ih (y :: ys)
          exact ⟨s, h1.cons _, h2, by omega⟩

theorem lcs_le_left (a b : List α) : lcs a b ≤ a.length := by
  obtain ⟨s, h1, _, h3⟩ := lcs_some a b
  rw [← h3]; exact h1.length_le
theorem lcs_le_right (a b : List α) : lcs a b ≤ b.length := by
  rw [lcs_comm]; exact lcs_le_left b a
theorem lcs_of_sublist {a b : List α} (h : a.Sublist b) : lcs a b = a.length :=
  Nat.le_antisymm (lcs_le_left a b) (lcs_most a b a (List.Sublist.refl a) h)
theorem lcs_self (a : List α) : lcs a a = a.length := lcs_of_sublist (List.Sublist.refl a)
theorem lcs_more (b a c : List α) : lcs a (b ++ a ++ c) = a.length :=
  lcs_of_sublist ((List.sublist_append_right b a).trans (List.sublist_append_left _ c))

/-- The same from the other end. -/
theorem lcs_reverse (a b : List α) : lcs a.reverse b.reverse = lcs a b := by
  refine Nat.le_antisymm ?_ ?_
  · obtain ⟨s, h1, h2, h3⟩ := lcs_some a.reverse b.reverse
    have := lcs_most a b s.reverse (by simpa using h1.reverse) (by simpa using h2.reverse)
    simp at this; omega
  · obtain ⟨s, h1, h2, h3⟩ := lcs_some a b
    have := lcs_most a.reverse b.reverse s.reverse h1.reverse h2.reverse
    simp at this; omega

theorem lcs_snoc_both (a b : List α) (s : α) : lcs (a ++ [s]) (b ++ [s]) = lcs a b + 1 := by
  rw [← lcs_reverse (a ++ [s]), ← lcs_reverse a b]
  simp only [List.reverse_append, List.reverse_cons, List.reverse_nil, List.nil_append, List.singleton_append]
  rw [lcs_cons, if_pos rfl]
theorem lcs_snoc_left (a b : List α) (s : α) : lcs a b ≤ lcs (a ++ [s]) b ∧ lcs (a ++ [s]) b ≤ lcs a b + 1 := by
  rw [← lcs_reverse (a ++ [s]), ← lcs_reverse a b]
  simp only [List.reverse_append, List.reverse_cons, List.reverse_nil, List.nil_append, List.singleton_append]
  exact lcs_ge_left _ _ _
theorem lcs_prefix (p a b : List α) : lcs (p ++ a) (p ++ b) = p.length + lcs a b := by
  induction p with
  | nil => simp
  | cons x p ih => simp only [List.cons_append]; rw [lcs_cons, if_pos rfl, ih]; simp; omega
theorem lcs_suffix (p a b : List α) : lcs (a ++ p) (b ++ p) = lcs a b + p.length := by
  rw [← lcs_reverse (a ++ p), List.reverse_append, List.reverse_append, lcs_prefix, lcs_reverse]; simp; omega

/-- Triangle: as many as are lost by way of a third one. -/
theorem sublist_common {α : Type} {s t b : List α} (h1 : s.Sublist b) (h2 : t.Sublist b) : ∃ u : List α, u.Sublist s ∧ u.Sublist t ∧ s.length + t.length ≤ b.length + u.length := by
  induction b generalizing s t with
  | nil => cases h1; cases h2; exact ⟨[], by simp, by simp, by simp⟩
  | cons x b ih =>
    cases h1 with
    | cons _ h1 =>
      cases h2 with
      | cons _ h2 => obtain ⟨u, a, b, c⟩ := ih h1 h2; exact ⟨u, a, b, by simp; omega⟩
      | cons_cons _ h2 => obtain ⟨u, a, b, c⟩ := ih h1 h2; exact ⟨u, a, b.cons _, by simp; omega⟩
    | cons_cons _ h1 =>
      cases h2 with
      | cons _ h2 => obtain ⟨u, a, b, c⟩ := ih h1 h2; exact ⟨u, a.cons _, b, by simp; omega⟩
      | cons_cons _ h2 => obtain ⟨u, a, b, c⟩ := ih h1 h2; exact ⟨x :: u, a.cons_cons _, b.cons_cons _, by simp; omega⟩
theorem lcs_three (a b c : List α) : lcs a b + lcs b c ≤ b.length + lcs a c := by
  obtain ⟨s, s1, s2, s3⟩ := lcs_some a b
  obtain ⟨t, t1, t2, t3⟩ := lcs_some b c
  obtain ⟨u, u1, u2, u3⟩ := sublist_common s2 t1
  have := lcs_most a c u (u1.trans s1) (u2.trans t2)
  omega
theorem lcs_zero {a b : List α} (h : lcs a b = 0) : ∀ x, x ∈ a → x ∈ b → False := by
  intro x ha hb
  have := lcs_most a b [x] (by simpa using ha) (by simpa using hb)
  simp [h] at this
theorem lcs_pos {a b : List α} (h : lcs a b ≠ 0) : ∃ x, x ∈ a ∧ x ∈ b := by
  obtain ⟨s, h1, h2, h3⟩ := lcs_some a b
  cases s with
  | nil => simp at h3; omega
  | cons x s => exact ⟨x, h1.subset (by simp), h2.subset (by simp)⟩
end

section
variable {α : Type} [DecidableEq α]

/-- The pairs, by the document's words: from two places on. -/
def pairs (a b : List α) (i j : Nat) : List (Nat × Nat) :=
  if h : i < a.length ∧ j < b.length then
    if a[i]'h.1 = b[j]'h.2 then (i, j) :: pairs a b (i + 1) (j + 1)
    else if lcs (a.drop (i + 1)) (b.drop j) ≥ lcs (a.drop i) (b.drop (j + 1)) then pairs a b (i + 1) j
    else pairs a b i (j + 1)
  else []
termination_by (a.length - i) + (b.length - j)

theorem pairs_end (a b : List α) (i j : Nat) (h : ¬ (i < a.length ∧ j < b.length)) : pairs a b i j = [] := by
  rw [pairs, dif_neg h]
theorem pairs_hit (a b : List α) (i j : Nat) (hi : i < a.length) (hj : j < b.length) (e : a[i] = b[j]) :
    pairs a b i j = (i, j) :: pairs a b (i + 1) (j + 1) := by
  rw [pairs, dif_pos ⟨hi, hj⟩, if_pos e]
theorem pairs_down (a b : List α) (i j : Nat) (hi : i < a.length) (hj : j < b.length) (e : ¬ a[i] = b[j])
    (h : lcs (a.drop (i + 1)) (b.drop j) ≥ lcs (a.drop i) (b.drop (j + 1))) : pairs a b i j = pairs a b (i + 1) j := by
  rw [pairs, dif_pos ⟨hi, hj⟩, if_neg e, if_pos h]
theorem pairs_right (a b : List α) (i j : Nat) (hi : i < a.length) (hj : j < b.length) (e : ¬ a[i] = b[j])
    (h : ¬ lcs (a.drop (i + 1)) (b.drop j) ≥ lcs (a.drop i) (b.drop (j + 1))) : pairs a b i j = pairs a b i (j + 1) := by
  rw [pairs, dif_pos ⟨hi, hj⟩, if_neg e, if_neg h]

/-- A cell of the table out of its three neighbours. -/
theorem lcs_at (a b : List α) (i j : Nat) (hi : i < a.length) (hj : j < b.length) :
    lcs (a.drop i) (b.drop j) = if a[i] = b[j] then lcs (a.drop (i + 1)) (b.drop (j + 1)) + 1 else max (lcs (a.drop (i + 1)) (b.drop j)) (lcs (a.drop i) (b.drop (j + 1))) := by
  rw [List.drop_eq_getElem_cons hi, List.drop_eq_getElem_cons hj, lcs_cons]
theorem lcs_end_left (a b : List α) (i j : Nat) (hi : a.length ≤ i) : lcs (a.drop i) (b.drop j) = 0 := by
  rw [List.drop_eq_nil_of_le hi, lcs_nil_left]
theorem lcs_end_right (a b : List α) (i j : Nat) (hj : b.length ≤ j) : lcs (a.drop i) (b.drop j) = 0 := by
  rw [List.drop_eq_nil_of_le hj, lcs_nil_right]

theorem pairs_length (a b : List α) (i j : Nat) : (pairs a b i j).length = lcs (a.drop i) (b.drop j) := by
  fun_induction pairs a b i j with
  | case1 i j h e ih => rw [List.length_cons, ih, lcs_at a b i j h.1 h.2, if_pos e]
  | case2 i j h e hge ih => rw [ih, lcs_at a b i j h.1 h.2, if_neg e]; omega
  | case3 i j h e hge ih => rw [ih, lcs_at a b i j h.1 h.2, if_neg e]; omega
  | case4 i j h =>
    rcases Nat.lt_or_ge i a.length with hi | hi
    · have hj : b.length ≤ j := by omega
      rw [lcs_end_right _ _ _ _ hj]; rfl
    · rw [lcs_end_left _ _ _ _ hi]; rfl

/-- Each is within both, of lines that are the same, and not ahead of where it is looked for. -/
theorem pairs_mem (a b : List α) (i j : Nat) : ∀ p, p ∈ pairs a b i j → i ≤ p.1 ∧ j ≤ p.2 ∧ ∃ (h1 : p.1 < a.length) (h2 : p.2 < b.length), a[p.1] = b[p.2] := by
  fun_induction pairs a b i j with
  | case1 i j h e ih =>
    intro p hp
    rcases List.mem_cons.1 hp with rfl | hp
    · exact ⟨Nat.le_refl _, Nat.le_refl _, h.1, h.2, e⟩
    · obtain ⟨h1, h2, h3⟩ := ih p hp
      exact ⟨by omega, by omega, h3⟩
  | case2 i j h e hge ih =>
    intro p hp
    obtain ⟨h1, h2, h3⟩ := ih p hp
    exact ⟨by omega, by omega, h3⟩
  | case3 i j h e hge ih =>
    intro p hp
    obtain ⟨h1, h2, h3⟩ := ih p hp
    exact ⟨by omega, by omega, h3⟩
  | case4 i j h => intro p hp; cases hp

/-- They rise in both. -/
theorem pairs_rise (a b : List α) (i j : Nat) : (pairs a b i j).Pairwise (fun p q => p.1 < q.1 ∧ p.2 < q.2) := by
  fun_induction pairs a b i j with
  | case1 i j h e ih =>
    refine List.Pairwise.cons ?_ ih
    intro q hq
    obtain ⟨h1, h2, _⟩ := pairs_mem a b _ _ q hq
    exact ⟨by simp; omega, by simp; omega⟩
  | case2 i j h e hge ih => exact ih
  | case3 i j h e hge ih => exact ih
  | case4 i j h => exact List.Pairwise.nil

theorem pairs_le_left (a b : List α) (i j : Nat) : (pairs a b i j).length ≤ a.length - i := by
  rw [pairs_length]; have := lcs_le_left (a.drop i) (b.drop j); simpa using this
end
end Go.Proofs.Ytkggedmcdllnaaa.Qm
