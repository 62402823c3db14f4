/- Edits turned: they make of the second list the first one, and cost as much. No program. -/
import Derived.Test.YtgbkbcdplcehmaaEdLaw
namespace Go.Proofs.Ytgbkbcdplcehmaa

/-- The edits back: each at its place in the second list. -/
def backs (xs : List ByteArray) : Int → List Ed → List Ed
  | _, [] => []
  | b, e :: r => (e.1 + b, (e.2.2.length : Int), (xs.take (e.1 + e.2.1).toNat).drop e.1.toNat) :: backs xs (b + (e.2.2.length : Int) - e.2.1) r
def Up (m : Nat) : List (Nat × Nat) → Nat → Nat → Prop
  | [], _, _ => True
  | x :: r, i, j => i ≤ x.1 ∧ j ≤ x.2 ∧ x.2 ≤ m ∧ Up m r (x.1 + 1) (x.2 + 1)
theorem ris_up {n m : Nat} : ∀ {ps : List (Nat × Nat)} {i j : Nat}, Ris n m ps i j → Up m (ps ++ [(n, m)]) i j
  | [], _, _, h => ⟨h.1, h.2, Nat.le_refl _, trivial⟩
  | _ :: _, _, _, h => ⟨h.1, h.2.1, Nat.le_of_lt h.2.2.2.1, ris_up h.2.2.2.2⟩
theorem backs_edFrom (xs ys : List ByteArray) : ∀ (ps : List (Nat × Nat)) (i j : Nat), Up ys.length ps i j → backs xs ((j : Int) - (i : Int)) (edFrom ys ps i j) = edFrom xs (ps.map Prod.swap) j i
  | [], _, _, _ => rfl
  | x :: r, i, j, h => by
    obtain ⟨p, q⟩ := x
    obtain ⟨h1, h2, h3, h4⟩ := h
    simp only at h1 h2 h3 h4
    have ih := backs_edFrom xs ys r (p + 1) (q + 1) h4
    simp only [edFrom, List.map_cons, Prod.swap_prod_mk]
    unfold edStep
    by_cases hc : i < p ∨ j < q
    · rw [if_pos hc, if_pos (by omega)]
      simp only [List.cons_append, List.nil_append, backs]
      have hl : ((ys.drop j).take (q - j)).length = q - j := by rw [List.length_take, List.length_drop]; omega
      rw [hl]
      have e1 : ((i : Int) + ((p : Int) - (i : Int))).toNat = p := by omega
      have e2 : (j : Int) - (i : Int) + ((q - j : Nat) : Int) - ((p : Int) - (i : Int)) = ((q + 1 : Nat) : Int) - ((p + 1 : Nat) : Int) := by omega
      rw [e1, e2, ih, Int.toNat_natCast, List.drop_take]
      congr 1
      congr 1
      · omega
      · congr 1
        omega
    · rw [if_neg hc, if_neg (by omega)]
      have e1 : p = i := by omega
      have e2 : q = j := by omega
      subst e1 e2
      rw [List.nil_append, List.nil_append, ← ih]
      congr 1
      omega
theorem ris_swap {n m : Nat} : ∀ {ps : List (Nat × Nat)} {i j : Nat}, Ris n m ps i j → Ris m n (ps.map Prod.swap) j i
  | [], _, _, h => ⟨h.2, h.1⟩
  | _ :: _, _, _, h => ⟨h.2.1, h.1, h.2.2.2.1, h.2.2.1, ris_swap h.2.2.2.2⟩
theorem mat_swap {xs ys : List ByteArray} {ps : List (Nat × Nat)} (h : Mat xs ys ps) : Mat ys xs (ps.map Prod.swap) := fun x hx => by
  obtain ⟨y, hy, rfl⟩ := List.mem_map.1 hx
  exact (h y hy).symm
theorem backs_edits (xs ys : List ByteArray) : backs xs 0 (edits xs ys) = edFrom xs ((Qm.pairs xs ys 0 0).map Prod.swap ++ [(ys.length, xs.length)]) 0 0 := by
  have h := backs_edFrom xs ys _ 0 0 (ris_up (ris_pairs xs ys))
  rw [List.map_append] at h
  exact h
theorem apR_backs (xs ys : List ByteArray) : apR ys (backs xs 0 (edits xs ys)) = some xs := by
  rw [backs_edits]
  exact apGo_edFrom ys xs _ 0 0 true 0 [] (ris_swap (ris_pairs xs ys)) (mat_swap (mat_pairs xs ys)) (.inl rfl) (Nat.le_refl _) (by simp)
theorem cost_backs (xs ys : List ByteArray) : cost (backs xs 0 (edits xs ys)) = cost (edits xs ys) := by
  rw [backs_edits, cost_edits, edFrom_cost xs ys.length _ _ _ (ris_swap (ris_pairs xs ys)), List.length_map, Qm.pairs_length]
  simp
  omega
/-- An edit whose lines are a cut of a list. -/
def CutOf (A : Option Addr) (c : Nat) (xs : List ByteArray) (e : EdA) : Prop :=
  ∃ p q : Nat, p ≤ q ∧ q ≤ xs.length ∧ e.2.2.1 = (if c = p then A else A.map (fun x => x.add p)) ∧ e.2.2.2.2 = (xs.take q).drop p
theorem CutOf.ln {A : Option Addr} {c : Nat} {xs : List ByteArray} {e : EdA} {w : World} (h : CutOf A c xs e) (hA : LnX A xs w) (hc : xs.length ≤ c) : LnX e.2.2.1 e.2.2.2.2 w := by
  obtain ⟨p, q, h1, h2, h3, h4⟩ := h
  rw [h3, h4]
  exact LnX.of ((hA.ln.take h2).cut (k := p) (c := c) (by rw [List.length_take]; omega) (by rw [List.length_take]; omega))
theorem CutOf.le {A : Option Addr} {c : Nat} {xs : List ByteArray} {e : EdA} (h : CutOf A c xs e) {n : Nat} (hn : xs.length ≤ n) : e.2.2.2.2.length ≤ n := by
  obtain ⟨p, q, _, _, _, h4⟩ := h
  rw [h4, List.length_drop, List.length_take]
  omega
theorem cut_snoc {A : Option Addr} {c : Nat} {xs : List ByteArray} {l : List EdA} {x : EdA} (h : ∀ e ∈ l, CutOf A c xs e) (hx : CutOf A c xs x) : ∀ e ∈ l ++ [x], CutOf A c xs e := fun e he => by
  rcases List.mem_append.1 he with he | he
  · exact h e he
  · obtain rfl : e = x := by simpa using he
    exact hx
theorem drop_eds (l : List EdA) (i : Nat) (h : i < l.length) : (eds l).drop i = (l[i].1, l[i].2.1, l[i].2.2.2.2) :: (eds l).drop (i + 1) := by
  have h2 : i < (eds l).length := by rw [eds_length]; exact h
  rw [List.drop_eq_getElem_cons h2]
  simp [eds]
theorem EdL.cells {g o i : Nat} {l : List EdA} {w : World} {x0 x1 : Int} {xa : Option Addr} {xc : Nat} {us : List ByteArray} (h : EdL (some ⟨g, o, none⟩) l w) {hlt : i < l.length} (ex : l[i] = (x0, x1, xa, xc, us)) :
    w.cell? ⟨g, o + i * 3, none⟩ = some (.int .i64 x0) ∧ w.cell? ⟨g, o + i * 3 + 1, none⟩ = some (.int .i64 x1) ∧ w.cell? ⟨g, o + i * 3 + 2, none⟩ = some (.slice xa us.length xc) := by
  obtain ⟨g', o', e, _, hc⟩ := h.at_ (by omega)
  injection e with e
  injection e with e1 e2
  subst e1 e2
  have := hc i hlt
  rw [ex] at this
  exact this
end Go.Proofs.Ytgbkbcdplcehmaa
