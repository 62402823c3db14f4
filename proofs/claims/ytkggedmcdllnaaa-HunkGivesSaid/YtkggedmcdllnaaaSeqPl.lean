/- What it is to put lines in the place of others, in plain words. No program. -/
import Derived.Deep.QuietTactic
import Derived.BigQuiet
import Derived.Test.YtkggedmcdllnaaaSeqA
namespace Go.Proofs.Ytkggedmcdllnaaa

/-- A call that only reads, in whatever drawn world: for go_quiet. -/
theorem quiet_any {P : Program} {f : FuncId} {args : Array Value} {w : World} {n : Nat} {v : Value}
    (h : ∀ q, Calls P f args (w.drewN q) fun e w' => e = .returned v ∧ ∃ m, w' = (w.drewN q).drewN m) : Calls P f args (w.drewN n) fun e w'' => e = .returned v ∧ ∃ m, w'' = w.drewN m :=
  Go.Calls.quiet_of (h n)

theorem stands_mid (P m S : List ByteArray) (p : Int) (hp : p = P.length) : stands (P ++ m ++ S) p m = true := by
  subst hp
  rw [stands_in (by simp)]
  refine decide_eq_true ?_
  rw [List.append_assoc, List.drop_left, List.take_left]
theorem swp_mid (P m S n : List ByteArray) (k l : Nat) (hk : k = P.length) (hl : l = m.length) : swp (P ++ m ++ S) k l n = P ++ n ++ S := by
  subst hk hl
  unfold swp
  have h1 : (P ++ m ++ S).take P.length = P := by rw [List.append_assoc, List.take_left]
  have h2 : (P ++ m ++ S).drop (P.length + m.length) = S := by rw [show P.length + m.length = (P ++ m).length from by simp, List.drop_left]
  rw [h1, h2]
theorem swpR_mid (P m S n : List ByteArray) (p : Int) (hp : p = P.length) : swpR (P ++ m ++ S) p m n = P ++ n ++ S := by
  unfold swpR
  rw [stands_mid P m S p hp, if_pos rfl]
  exact swp_mid P m S n _ _ (by omega) rfl
theorem stands_parts {xs ys : List ByteArray} {p : Int} (h : stands xs p ys = true) : ∃ P S, xs = P ++ ys ++ S ∧ p = P.length := by
  obtain ⟨k, rfl, h1, h2⟩ := stands_split h
  exact ⟨_, _, h2, by simp; omega⟩
theorem stands_nil (xs : List ByteArray) (p : Int) : stands xs p [] = (decide (0 ≤ p) && decide (p ≤ xs.length)) := by
  unfold stands
  rw [Bool.eq_iff_iff]
  simp only [decide_eq_true_eq, Bool.and_eq_true, List.length_nil, List.take_zero, and_true]
  omega
theorem swpR_nil (xs : List ByteArray) (p : Int) (h : stands xs p [] = true) : swpR xs p [] [] = xs := by
  obtain ⟨P, S, h1, h2⟩ := stands_parts h
  rw [h1, swpR_mid P [] S [] p h2]
theorem stands_all (xs : List ByteArray) : stands xs 0 xs = true := by
  have := stands_mid [] xs [] 0 rfl
  simpa using this
theorem swpR_all (xs ys : List ByteArray) : swpR xs 0 xs ys = ys := by
  have := swpR_mid [] xs [] ys 0 rfl
  simpa using this
/-- Two places, one behind the other. -/
theorem apart_parts {xs ys os : List ByteArray} {p q : Int} (h1 : stands xs p ys = true) (h2 : stands xs q os = true) (hg : p + ys.length ≤ q) :
    ∃ P G T, xs = P ++ ys ++ (G ++ os ++ T) ∧ p = P.length ∧ q = p + ys.length + G.length := by
  obtain ⟨P, S, e1, e2⟩ := stands_parts h1
  obtain ⟨Q, T, f1, f2⟩ := stands_parts h2
  have hlen : (P ++ ys).length ≤ Q.length := by simp; omega
  have hQ : Q = (P ++ ys) ++ Q.drop (P ++ ys).length := by
    have hx := congrArg (List.take (P ++ ys).length) (e1.symm.trans f1)
    rw [List.take_left] at hx
    rw [List.append_assoc, List.take_append_of_le_length hlen] at hx
    conv => lhs; rw [← List.take_append_drop (P ++ ys).length Q, ← hx]
  refine ⟨P, Q.drop (P ++ ys).length, T, ?_, e2, ?_⟩
  · rw [f1]
    conv => lhs; rw [hQ]
    simp
  · simp at hlen ⊢
    omega
theorem apart_eq (P ys G os T ns ts : List ByteArray) (p q : Int) (hp : p = P.length) (hq : q = p + ys.length + G.length) :
    swpR (P ++ ys ++ (G ++ os ++ T)) p ys ns = P ++ ns ++ (G ++ os ++ T) ∧ swpR (P ++ ys ++ (G ++ os ++ T)) q os ts = P ++ ys ++ (G ++ ts ++ T) ∧
    stands (P ++ ns ++ (G ++ os ++ T)) (q - ys.length + ns.length) os = true ∧ swpR (P ++ ns ++ (G ++ os ++ T)) (q - ys.length + ns.length) os ts = P ++ ns ++ (G ++ ts ++ T) ∧
    stands (P ++ ys ++ (G ++ ts ++ T)) p ys = true ∧ swpR (P ++ ys ++ (G ++ ts ++ T)) p ys ns = P ++ ns ++ (G ++ ts ++ T) := by
  have e : ∀ a b : List ByteArray, P ++ a ++ (G ++ b ++ T) = (P ++ a ++ G) ++ b ++ T := fun a b => by simp
  refine ⟨swpR_mid _ _ _ _ _ hp, ?_, ?_, ?_, stands_mid _ _ _ _ hp, swpR_mid _ _ _ _ _ hp⟩
  · rw [e, e]; exact swpR_mid _ _ _ _ _ (by simp; omega)
  · rw [e]; exact stands_mid _ _ _ _ (by simp; omega)
  · rw [e, e]; exact swpR_mid _ _ _ _ _ (by simp; omega)
end Go.Proofs.Ytkggedmcdllnaaa
