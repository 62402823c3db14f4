/- seq.Front and what it calls: how many lines two lists have in common, in front. -/
import Derived.Deep.QuietTactic
import Derived.BigQuiet
import Derived.Deep.DeepCutAuto
import Derived.Deep.LoopGhost
import Derived.Test.YtaffkplllmnjoaaWord
import Derived.Test.YtaffkplllmnjoaaProg
namespace Go.Proofs.Ytaffkplllmnjoaa
open Go.RowKit
attribute [local go_sem] max_two_ints min_two_ints

/-- How many elements two lists have in common, in front. -/
def com {α : Type} [DecidableEq α] : List α → List α → Nat
  | x :: xs, y :: ys => if x = y then com xs ys + 1 else 0
  | _, _ => 0
theorem com_le {α : Type} [DecidableEq α] : ∀ (xs ys : List α), com xs ys ≤ xs.length ∧ com xs ys ≤ ys.length
  | [], _ => by simp [com]
  | _ :: _, [] => by simp [com]
  | x :: xs, y :: ys => by
    have h := com_le xs ys
    unfold com
    split <;> simp <;> omega
theorem com_same {α : Type} [DecidableEq α] : ∀ (xs ys : List α) (k : Nat), k < com xs ys → ∃ (h1 : k < xs.length) (h2 : k < ys.length), xs[k] = ys[k]
  | [], _, k, h => by simp [com] at h
  | _ :: _, [], k, h => by simp [com] at h
  | x :: xs, y :: ys, k, h => by
    unfold com at h
    split at h
    · rename_i e
      cases k with
      | zero => exact ⟨by simp, by simp, e⟩
      | succ k =>
        obtain ⟨h1, h2, h3⟩ := com_same xs ys k (by omega)
        exact ⟨by simp; omega, by simp; omega, by simpa using h3⟩
    · omega
theorem com_end {α : Type} [DecidableEq α] : ∀ (xs ys : List α) (h1 : com xs ys < xs.length) (h2 : com xs ys < ys.length), xs[com xs ys] ≠ ys[com xs ys]
  | [], _, h1, _ => by simp [com] at h1
  | _ :: _, [], _, h2 => by simp [com] at h2
  | x :: xs, y :: ys, h1, h2 => by
    by_cases e : x = y
    · have hc : com (x :: xs) (y :: ys) = com xs ys + 1 := by rw [com, if_pos e]
      have h := com_end xs ys (by rw [hc] at h1; simpa using h1) (by rw [hc] at h2; simpa using h2)
      simp only [hc, List.getElem_cons_succ]
      exact h
    · have hc : com (x :: xs) (y :: ys) = 0 := by rw [com, if_neg e]
      simp only [hc, List.getElem_cons_zero]
      exact e
theorem com_uniq {α : Type} [DecidableEq α] (xs ys : List α) (k : Nat) (h1 : k ≤ xs.length) (h2 : k ≤ ys.length) (h3 : ∀ (j : Nat) (_ : j < k) (h4 : j < xs.length) (h5 : j < ys.length), xs[j] = ys[j])
    (h6 : ∀ (h4 : k < xs.length) (h5 : k < ys.length), xs[k] ≠ ys[k]) : com xs ys = k := by
  rcases Nat.lt_trichotomy (com xs ys) k with h | h | h
  · exact absurd (h3 _ h (by omega) (by omega)) (com_end xs ys (by omega) (by omega))
  · exact h
  · obtain ⟨a, b, e⟩ := com_same xs ys k h
    exact absurd e (h6 a b)
theorem com_comm {α : Type} [DecidableEq α] : ∀ (xs ys : List α), com xs ys = com ys xs
  | [], [] => rfl
  | [], _ :: _ => by simp [com]
  | _ :: _, [] => by simp [com]
  | x :: xs, y :: ys => by
    unfold com
    by_cases e : x = y
    · rw [if_pos e, if_pos e.symm, com_comm xs ys]
    · rw [if_neg e, if_neg (fun h => e h.symm)]

set_option maxHeartbeats 1000000 in
theorem front_any (xs ys : List ByteArray) (A B : Option Addr) (c d : Nat) (w : World) (hA : SlS w.heap.size w A xs) (hB : SlS w.heap.size w B ys) (hn : xs.length ≤ 100000) :
    Calls Try.prog 21 #[.slice A xs.length c, .slice B ys.length d] w fun e w' => e = .returned (.int .i64 (com xs ys : Nat)) ∧ Below w.heap.size w w' := by
  obtain ⟨N, hN⟩ : ∃ N : Nat, mni (xs.length : Int) (ys.length : Int) = N := by
    unfold mni
    split
    · exact ⟨_, rfl⟩
    · exact ⟨_, rfl⟩
  have hNl : (N ≤ xs.length ∧ N ≤ ys.length) ∧ (N = xs.length ∨ N = ys.length) := by
    unfold mni at hN
    split at hN <;> omega
  obtain ⟨⟨hN1, hN2⟩, hN3⟩ := hNl
  have HN3 := Kp.mk hN3
  clear hN3
  go_enter Try.func21, Try.ntmps21
  go_wp2
  clear hN
  go_loopw [13] (fun vi wr => ∃ i q : Nat, vi = .int .i64 i ∧ i ≤ N ∧ Kp (∀ j, j < i → sAt xs j = sAt ys j) ∧ wr = w.drewN q) (fun vi _ => N - (intOf vi).toNat)
  case atStart => exact ⟨0, 0, rfl, Nat.zero_le _, ⟨fun j hj => absurd hj (by omega)⟩, rfl⟩
  case round =>
    obtain ⟨i, q, rfl, hi, hall, rfl⟩ := hrel
    by_cases hlt : i < N
    · obtain ⟨ax, rfl, hax, hcx⟩ := hA.at_ (show i < xs.length by omega)
      obtain ⟨ay, rfl, hay, hcy⟩ := hB.at_ (show i < ys.length by omega)
      have b1 : (i : Int) < (xs.length : Int) := by omega
      have b2 : (i : Int) < (ys.length : Int) := by omega
      by_cases heq : sAt xs i = sAt ys i
      · have hbq : ((sAt xs i).toList == (sAt ys i).toList) = true := by rw [str_beq]; exact decide_eq_true heq
        have HE := Kp.mk heq
        clear heq
        go_wp2
        go_quiet (fail)
        go_wp2
        go_roundw
        case rel => exact ⟨i + 1, _, by go_num, by omega, ⟨fun j hj => by
          by_cases e : j = i
          · subst e; exact HE.out
          · exact hall.out j (by omega)⟩, rfl⟩
        case measure => simp [intOf]; omega
      · have hbq : ((sAt xs i).toList == (sAt ys i).toList) = false := by rw [str_beq]; exact decide_eq_false heq
        have hcm : com xs ys = i := com_uniq xs ys i (by omega) (by omega) (fun j hj h4 h5 => by rw [← sAt_lt h4, ← sAt_lt h5]; exact hall.out j hj)
          (fun h4 h5 => by rw [← sAt_lt h4, ← sAt_lt h5]; exact heq)
        have HC := Kp.mk hcm
        clear heq hcm
        go_wp2
        go_quiet (fail)
        go_wp2
        go_ret
        exact ⟨ret_int (by rw [HC.out]), below_drewN (below_drewN (Below.refl _ _) _) _⟩
    · have hcm : com xs ys = N := com_uniq xs ys N (by omega) (by omega) (fun j hj h4 h5 => by rw [← sAt_lt h4, ← sAt_lt h5]; exact hall.out j (by omega))
          (fun h4 h5 => by rcases HN3.out with e | e <;> omega)
      have HC := Kp.mk hcm
      clear hcm
      go_wp2
      go_ret
      exact ⟨ret_int (by rw [HC.out]), below_drewN (Below.refl _ _) _⟩

theorem Front_any (xs ys : List ByteArray) (A B : Option Addr) (c d : Nat) (w : World) (hA : SlS w.heap.size w A xs) (hB : SlS w.heap.size w B ys) (hn : xs.length ≤ 100000) :
    Calls Try.prog 15 #[.slice A xs.length c, .slice B ys.length d] w fun e w' => e = .returned (.int .i64 (com xs ys : Nat)) ∧ Below w.heap.size w w' := by
  go_enter Try.func15, Try.ntmps15
  go_wp2_with (go_at_call 21; refine (front_any xs ys A B c d w hA hB hn).mono ?_; rintro e w1 ⟨rfl, hb⟩)
  go_ret
  exact ⟨rfl, hb⟩
end Go.Proofs.Ytaffkplllmnjoaa
