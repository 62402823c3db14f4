/- What edits cost, and what they make of a list: plain law. No program. -/
import Derived.Test.YtgbkbcdplcehmaaDapp
import Derived.Test.YtgbkbcdplcehmaaLit
namespace Go.Proofs.Ytgbkbcdplcehmaa
open Go.RowKit

theorem wrap_nat (N : Nat) (h : N ≤ 1000000) : Go.RowKit.wrap64 (N : Int) = (N : Int) := by unfold Go.RowKit.wrap64; omega
abbrev Ed := Int × Int × List ByteArray
theorem cost_cons (e : Ed) (l : List Ed) : cost (e :: l) = e.2.1 + (e.2.2.length : Int) + cost l := by simp [cost]
theorem cost_app (l m : List Ed) : cost (l ++ m) = cost l + cost m := by simp [cost]
theorem edStep_cost {ys : List ByteArray} {i j p q : Nat} (h1 : i ≤ p) (h2 : j ≤ q) (h3 : q ≤ ys.length) : cost (edStep ys i j p q) = ((p : Int) - i) + ((q : Int) - j) := by
  unfold edStep
  split
  · simp only [cost, List.map_cons, List.map_nil, List.sum_cons, List.sum_nil, List.length_take, List.length_drop]
    omega
  · simp only [cost, List.map_nil, List.sum_nil]
    omega
theorem edFrom_cost (ys : List ByteArray) (n : Nat) : ∀ (ps : List (Nat × Nat)) (i j : Nat), Ris n ys.length ps i j → cost (edFrom ys (ps ++ [(n, ys.length)]) i j) = ((n : Int) - i) + ((ys.length : Int) - j) - 2 * (ps.length : Int)
  | [], i, j, h => by
    have h1 := edStep_cost (ys := ys) h.1 h.2 (Nat.le_refl _)
    simp only [List.nil_append, edFrom, List.append_nil, List.length_nil]
    rw [h1]; omega
  | x :: r, i, j, h => by
    obtain ⟨h1, h2, h3, h4, h5⟩ := h
    have k1 := edStep_cost (ys := ys) h1 h2 (Nat.le_of_lt h4)
    have k2 := edFrom_cost ys n r _ _ h5
    simp only [List.cons_append, edFrom, cost_app, List.length_cons]
    rw [k1, k2]; omega
/-- Edits cost what two lists do not have in common. -/
theorem cost_edits (xs ys : List ByteArray) : cost (edits xs ys) = (xs.length : Int) + (ys.length : Int) - 2 * (Qm.lcs xs ys : Int) := by
  unfold edits
  rw [edFrom_cost ys xs.length _ _ _ (ris_pairs xs ys), Qm.pairs_length]
  simp
/-- The pairs are of lines that are the same. -/
def Mat (xs ys : List ByteArray) (ps : List (Nat × Nat)) : Prop := ∀ x ∈ ps, xs[x.1]? = ys[x.2]?
theorem mat_pairs (xs ys : List ByteArray) : Mat xs ys (Qm.pairs xs ys 0 0) := fun x hx => by
  obtain ⟨_, _, h1, h2, h3⟩ := Qm.pairs_mem xs ys 0 0 x hx
  rw [List.getElem?_eq_getElem h1, List.getElem?_eq_getElem h2, h3]
theorem edOk_of {n : Nat} {first : Bool} {p i m : Nat} {zs : List ByteArray} (h1 : first = true ∨ p < i) (h2 : p ≤ i) (h3 : i ≤ m) (h4 : m ≤ n) : edOk n first p ((i : Int), (m : Int) - (i : Int), zs) = true := by
  unfold edOk
  cases first <;> simp at h1 ⊢ <;> omega
theorem take_snoc_one {xs : List ByteArray} {p : Nat} {s : ByteArray} (h : xs[p]? = some s) : xs.take (p + 1) = xs.take p ++ [s] := by
  obtain ⟨hp, e⟩ := List.getElem?_eq_some_iff.1 h
  rw [List.take_succ_eq_append_getElem hp, e]
/-- Edits along pairs make of the first list the second one. -/
theorem apGo_edFrom (xs ys : List ByteArray) : ∀ (ps : List (Nat × Nat)) (i j : Nat) (first : Bool) (at_ : Nat) (out : List ByteArray), Ris xs.length ys.length ps i j → Mat xs ys ps → (first = true ∨ at_ < i) → at_ ≤ i →
    out ++ (xs.take i).drop at_ = ys.take j → apGo xs (edFrom ys (ps ++ [(xs.length, ys.length)]) i j) first at_ out = some ys
  | [], i, j, first, at_, out, h, _, hf, ha, ho => by
    simp only [List.nil_append, edFrom, List.append_nil]
    unfold edStep
    by_cases hc : i < xs.length ∨ j < ys.length
    · rw [if_pos hc]
      simp only [apGo, edOk_of hf ha h.1 (Nat.le_refl _), if_true]
      have e1 : ((i : Int) + ((xs.length : Int) - (i : Int))).toNat = xs.length := by omega
      rw [e1, Int.toNat_natCast, List.drop_length, List.append_nil, ho]
      congr 1
      rw [List.take_of_length_le (l := ys.drop j) (by simp), List.take_append_drop]
    · rw [if_neg hc]
      have e1 : i = xs.length := by have := h.1; omega
      have e2 : j = ys.length := by have := h.2; omega
      simp only [apGo]
      rw [e1, e2, List.take_length, List.take_length] at ho
      rw [ho]
  | x :: r, i, j, first, at_, out, h, hm, hf, ha, ho => by
    obtain ⟨p, q⟩ := x
    obtain ⟨h1, h2, h3, h4, h5⟩ := h
    simp only at h1 h2 h3 h4 h5
    have hxy : xs[p]? = ys[q]? := hm (p, q) (by simp)
    have hm' : Mat xs ys r := fun y hy => hm y (by simp [hy])
    have hs : xs[p]? = some xs[p] := List.getElem?_eq_getElem h3
    have hs2 : ys[q]? = some xs[p] := by rw [← hxy]; exact hs
    simp only [List.cons_append, edFrom]
    unfold edStep
    by_cases hc : i < p ∨ j < q
    · rw [if_pos hc]
      simp only [List.cons_append, List.nil_append, apGo, edOk_of hf ha h1 (Nat.le_of_lt h3), if_true]
      have e1 : ((i : Int) + ((p : Int) - (i : Int))).toNat = p := by omega
      rw [e1, Int.toNat_natCast]
      refine apGo_edFrom xs ys r _ _ false p _ h5 hm' (.inr (Nat.lt_succ_self _)) (Nat.le_succ _) ?_
      rw [ho, take_snoc_one hs2, take_snoc_one hs, List.drop_append_of_le_length (by simp; omega), List.drop_take_self, List.nil_append]
      congr 1
      rw [← List.take_append_drop j (ys.take q), List.take_take, Nat.min_eq_left h2, List.drop_take]
    · rw [if_neg hc]
      have e1 : p = i := by omega
      have e2 : q = j := by omega
      subst e1 e2
      rw [List.nil_append]
      refine apGo_edFrom xs ys r _ _ first at_ out h5 hm' (hf.imp id (fun h => Nat.lt_succ_of_lt h)) (Nat.le_succ_of_le ha) ?_
      rw [take_snoc_one hs2, take_snoc_one hs, List.drop_append_of_le_length (by simp; omega), ← List.append_assoc, ho]
theorem apR_edits (xs ys : List ByteArray) : apR xs (edits xs ys) = some ys :=
  apGo_edFrom xs ys _ 0 0 true 0 [] (ris_pairs xs ys) (mat_pairs xs ys) (.inl rfl) (Nat.le_refl _) (by simp)
/-- No edits that make of a list another one cost less than what they do not have in common. -/
theorem apGo_least (xs : List ByteArray) : ∀ (l : List Ed) (first : Bool) (p : Nat) (out z : List ByteArray), p ≤ xs.length → apGo xs l first p out = some z →
    ∃ K R : List ByteArray, K.Sublist (xs.drop p) ∧ z = out ++ R ∧ K.Sublist R ∧ cost l = ((xs.length : Int) - p - K.length) + ((R.length : Int) - K.length)
  | [], first, p, out, z, hp, h => by
    simp only [apGo, Option.some.injEq] at h
    subst h
    exact ⟨xs.drop p, xs.drop p, List.Sublist.refl _, rfl, List.Sublist.refl _, by simp [cost]; omega⟩
  | e :: r, first, p, out, z, hp, h => by
    simp only [apGo] at h
    by_cases hok : edOk xs.length first p e = true
    · rw [if_pos hok] at h
      obtain ⟨_, f1, f2, f3, f4⟩ := edOk_true _ _ _ _ hok
      obtain ⟨K, R, k1, k2, k3, k4⟩ := apGo_least xs r false _ _ z (by omega) h
      refine ⟨(xs.take e.1.toNat).drop p ++ K, (xs.take e.1.toNat).drop p ++ e.2.2 ++ R, ?_, by rw [k2]; simp, ?_, ?_⟩
      · have e1 : xs.drop p = (xs.take e.1.toNat).drop p ++ xs.drop e.1.toNat := by
          conv => lhs; rw [← List.take_append_drop e.1.toNat xs]
          rw [List.drop_append_of_le_length (by rw [List.length_take]; omega)]
        rw [e1]
        refine List.Sublist.append (List.Sublist.refl _) (k1.trans ?_)
        have e2 : (e.1 + e.2.1).toNat = e.1.toNat + e.2.1.toNat := by omega
        rw [e2, ← List.drop_drop]
        exact List.drop_sublist _ _
      · rw [List.append_assoc]
        exact List.Sublist.append (List.Sublist.refl _) (k3.trans (List.sublist_append_right _ _))
      · rw [cost_cons, k4]
        simp only [List.length_append, List.length_drop, List.length_take]
        omega
    · rw [if_neg hok] at h; cases h
theorem least (xs ys : List ByteArray) (l : List Ed) (h : apR xs l = some ys) : (xs.length : Int) + (ys.length : Int) - 2 * (Qm.lcs xs ys : Int) ≤ cost l := by
  obtain ⟨K, R, k1, k2, k3, k4⟩ := apGo_least xs l true 0 [] ys (Nat.zero_le _) h
  simp only [List.drop_zero, List.nil_append] at k1 k2
  subst k2
  have := Qm.lcs_most xs ys K k1 k3
  omega
theorem cost_nat (l : List EdA) (C : Option Addr) (k : Nat) (w : World) (h : EdL C l w) (N : Nat) (hc : cost (eds l) = (N : Int)) (hN : N ≤ 1000000) (hn : l.length ≤ 1000000) :
    Calls Try.prog 20 #[.slice C l.length k] w fun e w' => e = .returned (.int .i64 N) ∧ Below w.heap.size w w' :=
  (cost_any l C k w h hn).mono fun e w' hh => ⟨by rw [hh.1, hc, wrap_nat N hN], hh.2⟩
/-- What an edit of two lists is. -/
theorem edFrom_mem (ys : List ByteArray) (n : Nat) : ∀ (ps : List (Nat × Nat)) (i j : Nat), Ris n ys.length ps i j → ∀ e ∈ edFrom ys (ps ++ [(n, ys.length)]) i j,
    (i : Int) ≤ e.1 ∧ 0 ≤ e.2.1 ∧ 1 ≤ e.2.1 + (e.2.2.length : Int) ∧ e.1 + e.2.1 ≤ n ∧ e.2.2.length ≤ ys.length
  | [], i, j, h, e, he => by
    simp only [List.nil_append, edFrom, List.append_nil, edStep] at he
    obtain ⟨h1, h2⟩ := h
    split at he
    · obtain rfl : e = _ := List.mem_singleton.1 he
      simp only [List.length_take, List.length_drop]
      omega
    · simp at he
  | x :: r, i, j, h, e, he => by
    obtain ⟨h1, h2, h3, h4, h5⟩ := h
    simp only [List.cons_append, edFrom, List.mem_append] at he
    rcases he with he | he
    · simp only [edStep] at he
      split at he
      · obtain rfl : e = _ := List.mem_singleton.1 he
        simp only [List.length_take, List.length_drop]
        omega
      · simp at he
    · have := edFrom_mem ys n r _ _ h5 e he
      omega
theorem edits_mem {xs ys : List ByteArray} {e : Ed} (he : e ∈ edits xs ys) : 0 ≤ e.1 ∧ 0 ≤ e.2.1 ∧ 1 ≤ e.2.1 + (e.2.2.length : Int) ∧ e.1 + e.2.1 ≤ xs.length ∧ e.2.2.length ≤ ys.length := by
  have := edFrom_mem ys xs.length _ 0 0 (ris_pairs xs ys) e he
  omega
theorem edits_new {xs ys : List ByteArray} {l : List EdA} (h : eds l = edits xs ys) : ∀ e ∈ l, e.2.2.2.2.length ≤ ys.length := fun e he => by
  have h1 : (e.1, e.2.1, e.2.2.2.2) ∈ eds l := List.mem_map.2 ⟨e, he, rfl⟩
  rw [h] at h1
  exact (edits_mem h1).2.2.2.2
theorem cost_ge : ∀ (l : List Ed), (∀ e ∈ l, 1 ≤ e.2.1 + (e.2.2.length : Int)) → (l.length : Int) ≤ cost l
  | [], _ => by simp [cost]
  | e :: l, h => by
    have h1 := cost_ge l (fun x hx => h x (by simp [hx]))
    have h2 := h e (by simp)
    rw [cost_cons]
    simp only [List.length_cons]
    omega
theorem edits_nil (xs ys : List ByteArray) : (edits xs ys).length = 0 ↔ xs = ys := by
  constructor
  · intro h
    have h1 := apR_edits xs ys
    rw [List.eq_nil_of_length_eq_zero h] at h1
    simpa [apR, apGo] using h1
  · rintro rfl
    have h1 := cost_ge (edits xs xs) (fun e he => (edits_mem he).2.2.1)
    rw [cost_edits, Qm.lcs_self] at h1
    omega
theorem dapply_yes (xs : List ByteArray) (l : List EdA) (A C : Option Addr) (c k : Nat) (w : World) (zs : List ByteArray) (hr : apR xs (eds l) = some zs) (hA : SlS w.heap.size w A xs) (hC : EdL C l w) (hn : xs.length ≤ 100000) (hm : l.length ≤ 100000) (hs : ∀ e ∈ l, e.2.2.2.2.length ≤ 1000000) (hc : xs.length ≤ c) (hc2 : c ≤ 9223372036854775807) :
    Calls Try.prog 17 #[.slice A xs.length c, .slice C l.length k] w fun e w' => ∃ D r, e = .returned (.tuple #[.slice D zs.length r, .bool true]) ∧ Frs w.heap.size (LnX D zs) w' ∧ Below w.heap.size w w' := by
  refine (dapply_any xs l A C c k w hA hC hn hm hs hc hc2 _ hr).mono ?_
  rintro e w' ⟨D, r, rfl, _, _, hF, hb⟩
  exact ⟨D, r, rfl, hF, hb⟩
/-- Is one of the lines among others? -/
def anyC (ys l : List ByteArray) : Bool := l.any fun x => ys.any fun y => decide (x = y)
theorem anyC_snoc {ys : List ByteArray} {k : Nat} (h : k < ys.length) {s : ByteArray} : anyC (ys.take (k + 1)) [s] = (anyC (ys.take k) [s] || decide (s = sAt ys k)) := by
  rw [List.take_succ_eq_append_getElem h, sAt_lt h]
  simp only [anyC, List.any_append, List.any_cons, List.any_nil, Bool.or_false]
theorem anyC_step {xs ys : List ByteArray} {i : Nat} (h : i < xs.length) : anyC ys (xs.take (i + 1)) = (anyC ys (xs.take i) || anyC ys [sAt xs i]) := by
  rw [List.take_succ_eq_append_getElem h, sAt_lt h]
  simp only [anyC, List.any_append, List.any_cons, List.any_nil, Bool.or_false]
theorem anyC_lcs (xs ys : List ByteArray) : Qm.lcs xs ys = 0 ↔ anyC ys xs = false := by
  constructor
  · intro h
    have h1 := Qm.lcs_zero h
    unfold anyC
    rw [List.any_eq_false]
    intro x hx
    simp only [Bool.not_eq_true, List.any_eq_false, decide_eq_true_eq]
    rintro y hy rfl
    exact h1 x hx hy
  · intro h
    refine Classical.byContradiction fun e => ?_
    obtain ⟨x, h1, h2⟩ := Qm.lcs_pos e
    unfold anyC at h
    rw [List.any_eq_false] at h
    have := h x h1
    simp only [Bool.not_eq_true, List.any_eq_false, decide_eq_true_eq] at this
    exact this x h2 rfl
theorem edFrom_apart (ys : List ByteArray) (n : Nat) : ∀ (ps : List (Nat × Nat)) (i j : Nat), Ris n ys.length ps i j → (edFrom ys (ps ++ [(n, ys.length)]) i j).Pairwise (fun e f => e.1 + e.2.1 < f.1)
  | [], i, j, h => by
    simp only [List.nil_append, edFrom, List.append_nil, edStep]
    split <;> simp
  | x :: r, i, j, h => by
    obtain ⟨h1, h2, h3, h4, h5⟩ := h
    simp only [List.cons_append, edFrom]
    rw [List.pairwise_append]
    refine ⟨?_, edFrom_apart ys n r _ _ h5, fun e he f hf => ?_⟩
    · unfold edStep
      split <;> simp
    · have hf' := (edFrom_mem ys n r _ _ h5 f hf).1
      unfold edStep at he
      split at he
      · obtain rfl : e = _ := List.mem_singleton.1 he
        simp only
        omega
      · simp at he
theorem eds_get {l : List EdA} {xs ys : List ByteArray} (h : eds l = edits xs ys) (k : Nat) (hk : k < l.length) : 0 ≤ l[k].1 ∧ 0 ≤ l[k].2.1 ∧ 1 ≤ l[k].2.1 + (l[k].2.2.2.2.length : Int) ∧ l[k].1 + l[k].2.1 ≤ xs.length ∧ l[k].2.2.2.2.length ≤ ys.length := by
  have h1 : (l[k].1, l[k].2.1, l[k].2.2.2.2) ∈ eds l := List.mem_map.2 ⟨l[k], List.getElem_mem hk, rfl⟩
  rw [h] at h1
  exact edits_mem h1
theorem eds_apart {l : List EdA} {xs ys : List ByteArray} (h : eds l = edits xs ys) (k m : Nat) (hm : m < l.length) (hk : k < m) : l[k].1 + l[k].2.1 < l[m].1 := by
  have h1 := edFrom_apart ys xs.length _ 0 0 (ris_pairs xs ys)
  rw [show edFrom ys (Qm.pairs xs ys 0 0 ++ [(xs.length, ys.length)]) 0 0 = eds l from h.symm, List.pairwise_iff_getElem] at h1
  have h2 := h1 k m (by rw [eds_length]; omega) (by rw [eds_length]; omega) hk
  simpa [eds] using h2
theorem least_le (xs ys : List ByteArray) (l : List Ed) (h : apR xs l = some ys) : cost l ≤ (xs.length : Int) + (ys.length : Int) := by
  obtain ⟨K, R, _, k2, _, k4⟩ := apGo_least xs l true 0 [] ys (Nat.zero_le _) h
  simp only [List.nil_append] at k2
  subst k2
  omega
theorem dapply_gen (xs : List ByteArray) (l : List EdA) (A C : Option Addr) (c k : Nat) (w : World) (r : Option (List ByteArray)) (z : List ByteArray) (i : Bool) (hr : apR xs (eds l) = r) (hz : r.getD [] = z) (hi : r.isSome = i) (hA : SlS w.heap.size w A xs) (hC : EdL C l w) (hn : xs.length ≤ 100000) (hm : l.length ≤ 100000) (hs : ∀ e ∈ l, e.2.2.2.2.length ≤ 1000000) (hc : xs.length ≤ c) (hc2 : c ≤ 9223372036854775807) :
    Calls Try.prog 17 #[.slice A xs.length c, .slice C l.length k] w fun e w' => ∃ D r', e = .returned (.tuple #[.slice D z.length r', .bool i]) ∧ Frs w.heap.size (LnX D z) w' ∧ Below w.heap.size w w' := by
  subst hz hi
  refine (dapply_any xs l A C c k w hA hC hn hm hs hc hc2 _ hr).mono ?_
  rintro e w' ⟨D, r', rfl, _, _, hF, hb⟩
  exact ⟨D, r', rfl, hF, hb⟩
end Go.Proofs.Ytgbkbcdplcehmaa
