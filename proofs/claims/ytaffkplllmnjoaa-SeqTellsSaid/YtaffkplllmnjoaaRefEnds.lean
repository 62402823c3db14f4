/- quiltmakerref02.Front, Back: the document's answer. -/
import Derived.Test.YtaffkplllmnjoaaSeqB
import Derived.Test.YtaffkplllmnjoaaEnds
namespace Go.Proofs.Ytaffkplllmnjoaa
open Go.RowKit

set_option maxHeartbeats 1000000 in
theorem refFront_any (xs ys : List ByteArray) (A B : Option Addr) (c d : Nat) (w : World) (hA : SlS w.heap.size w A xs) (hB : SlS w.heap.size w B ys) (hn : xs.length ≤ 100000) (_ : ys.length ≤ 100000) :
    Calls Try.prog 16 #[.slice A xs.length c, .slice B ys.length d] w fun e w' => e = .returned (.int .i64 (com xs ys : Nat)) ∧ Below w.heap.size w w' := by
  go_enter Try.func16, Try.ntmps16
  go_wp2
  go_loopw [5] (fun vi wr => ∃ i q : Nat, vi = .int .i64 i ∧ i ≤ xs.length ∧ i ≤ ys.length ∧ Kp (∀ j, j < i → sAt xs j = sAt ys j) ∧ wr = w.drewN q) (fun vi _ => xs.length - (intOf vi).toNat)
  case atStart => exact ⟨0, 0, rfl, Nat.zero_le _, Nat.zero_le _, ⟨fun j hj => absurd hj (by omega)⟩, rfl⟩
  case round =>
    obtain ⟨i, q, rfl, hi, hi', hall, rfl⟩ := hrel
    by_cases hlt : i < xs.length
    · have b1 : (i : Int) < (xs.length : Int) := by omega
      have d1 : decide (i < xs.length) = true := decide_eq_true hlt
      obtain ⟨ax, rfl, hax, hcx⟩ := hA.at_ hlt
      by_cases hlt2 : i < ys.length
      · obtain ⟨ay, rfl, hay, hcy⟩ := hB.at_ hlt2
        have b2 : (i : Int) < (ys.length : Int) := by omega
        have d2 : decide (i < ys.length) = true := decide_eq_true hlt2
        by_cases heq : sAt xs i = sAt ys i
        · have hbq : ((sAt xs i).toList == (sAt ys i).toList) = true := by rw [str_beq]; exact decide_eq_true heq
          have HE := Kp.mk heq
          clear heq
          go_wp2
          go_quiet (fail)
          go_wp2
          go_roundw
          case rel => exact ⟨i + 1, _, by go_num, by omega, by omega, ⟨fun j hj => by
            by_cases e : j = i
            · subst e; exact HE.out
            · exact hall.out j (by omega)⟩, rfl⟩
          case measure => simp [intOf]; omega
        · have hbq : ((sAt xs i).toList == (sAt ys i).toList) = false := by rw [str_beq]; exact decide_eq_false heq
          have HC : Kp (com xs ys = i) := ⟨com_uniq xs ys i (by omega) (by omega) (fun j hj h4 h5 => by rw [← sAt_lt h4, ← sAt_lt h5]; exact hall.out j hj)
            (fun h4 h5 => by rw [← sAt_lt h4, ← sAt_lt h5]; exact heq)⟩
          clear heq
          go_wp2
          go_quiet (fail)
          go_wp2
          go_ret
          exact ⟨ret_int (by rw [HC.out]), below_drewN (below_drewN (Below.refl _ _) _) _⟩
      · have b2 : ¬ (i : Int) < (ys.length : Int) := by omega
        have d2 : decide (i < ys.length) = false := decide_eq_false hlt2
        have HC : Kp (com xs ys = i) := ⟨com_uniq xs ys i (by omega) (by omega) (fun j hj h4 h5 => by rw [← sAt_lt h4, ← sAt_lt h5]; exact hall.out j hj) (fun h4 h5 => absurd h5 hlt2)⟩
        go_wp2
        go_quiet (fail)
        go_wp2
        go_ret
        exact ⟨ret_int (by rw [HC.out]), below_drewN (below_drewN (Below.refl _ _) _) _⟩
    · have b1 : ¬ (i : Int) < (xs.length : Int) := by omega
      have d1 : decide (i < xs.length) = false := decide_eq_false hlt
      have HC : Kp (com xs ys = i) := ⟨com_uniq xs ys i (by omega) (by omega) (fun j hj h4 h5 => by rw [← sAt_lt h4, ← sAt_lt h5]; exact hall.out j hj) (fun h4 h5 => absurd h4 hlt)⟩
      go_wp2
      go_quiet (fail)
      go_wp2
      go_ret
      exact ⟨ret_int (by rw [HC.out]), below_drewN (below_drewN (Below.refl _ _) _) _⟩

/-- The same from the other end, ahead of what is in front. -/
theorem bak_uniq (xs ys : List ByteArray) (k : Nat) (h1 : com xs ys + k ≤ xs.length) (h2 : com xs ys + k ≤ ys.length) (h3 : ∀ j, j < k → sAt xs (xs.length - 1 - j) = sAt ys (ys.length - 1 - j))
    (h6 : com xs ys + k < xs.length → com xs ys + k < ys.length → sAt xs (xs.length - 1 - k) ≠ sAt ys (ys.length - 1 - k)) : bak xs ys = k := by
  unfold bak
  have hx : ∀ (l : List ByteArray) (f j : Nat) (h : j < (l.drop f).reverse.length), (l.drop f).reverse[j] = sAt l (l.length - 1 - j) := by
    intro l f j h
    have hl : j < l.length - f := by simpa using h
    rw [List.getElem_reverse, List.getElem_drop, sAt_lt (by omega)]
    congr 1
    simp
    omega
  refine com_uniq _ _ k (by simp; omega) (by simp; omega) (fun j hj h4 h5 => ?_) (fun h4 h5 => ?_)
  · rw [hx, hx]; exact h3 j hj
  · rw [hx, hx]
    have h4' : k < xs.length - com xs ys := by simpa using h4
    have h5' : k < ys.length - com xs ys := by simpa using h5
    exact h6 (by omega) (by omega)

set_option maxHeartbeats 1000000 in
theorem refBack_any (xs ys : List ByteArray) (A B : Option Addr) (c d : Nat) (w : World) (hA : SlS w.heap.size w A xs) (hB : SlS w.heap.size w B ys) (hn : xs.length ≤ 100000) (hm : ys.length ≤ 100000) :
    Calls Try.prog 18 #[.slice A xs.length c, .slice B ys.length d] w fun e w' => e = .returned (.int .i64 (bak xs ys : Nat)) ∧ Below w.heap.size w w' := by
  obtain ⟨f, hf⟩ : ∃ f, com xs ys = f := ⟨_, rfl⟩
  have hl := com_le xs ys
  have hF := refFront_any xs ys A B c d w hA hB hn hm
  have hu := bak_uniq xs ys
  rw [hf] at hl hF hu
  obtain ⟨hl1, hl2⟩ := hl
  have HF := Kp.mk hF
  have HU := Kp.mk hu
  clear hF hf hu
  go_enter Try.func18, Try.ntmps18
  go_wp2_with fail
  refine HF.out.mono ?_
  rintro e w1 ⟨rfl, hb1⟩
  have hA1 := hA.later hb1
  have hB1 := hB.later hb1
  go_wp2
  go_loopw [6] (fun vi wr => ∃ i q : Nat, vi = .int .i64 i ∧ f + i ≤ xs.length ∧ f + i ≤ ys.length ∧ Kp (∀ j, j < i → sAt xs (xs.length - 1 - j) = sAt ys (ys.length - 1 - j)) ∧ wr = w1.drewN q) (fun vi _ => xs.length - (intOf vi).toNat)
  case atStart => exact ⟨0, 0, rfl, by omega, by omega, ⟨fun j hj => absurd hj (by omega)⟩, rfl⟩
  case round =>
    obtain ⟨i, q, rfl, hi, hi', hall, rfl⟩ := hrel
    have a1 : IntKind.i64.wrap ((xs.length : Int) - (f : Int)) = (xs.length : Int) - (f : Int) := IntWalk.i64_in _ (by omega)
    have a2 : IntKind.i64.wrap ((ys.length : Int) - (f : Int)) = (ys.length : Int) - (f : Int) := IntWalk.i64_in _ (by omega)
    by_cases hlt : f + i < xs.length
    · have b1 : (i : Int) < (xs.length : Int) - (f : Int) := by omega
      have d1 : decide ((i : Int) < (xs.length : Int) - (f : Int)) = true := decide_eq_true b1
      obtain ⟨ax, rfl, hax, hcx⟩ := hA1.at_ (show xs.length - 1 - i < xs.length by omega)
      have e1 : IntKind.i64.wrap ((xs.length : Int) - 1) = (xs.length : Int) - 1 := IntWalk.i64_in _ (by omega)
      have e2 : IntKind.i64.wrap ((xs.length : Int) - 1 - (i : Int)) = (xs.length : Int) - 1 - (i : Int) := IntWalk.i64_in _ (by omega)
      have e3 : ((xs.length : Int) - 1 - (i : Int)).toNat = xs.length - 1 - i := by omega
      have e4 : (0 : Int) ≤ (xs.length : Int) - 1 - (i : Int) := by omega
      have e5 : (xs.length : Int) - 1 - (i : Int) < (xs.length : Int) := by omega
      by_cases hlt2 : f + i < ys.length
      · obtain ⟨ay, rfl, hay, hcy⟩ := hB1.at_ (show ys.length - 1 - i < ys.length by omega)
        have f1 : IntKind.i64.wrap ((ys.length : Int) - 1) = (ys.length : Int) - 1 := IntWalk.i64_in _ (by omega)
        have f2 : IntKind.i64.wrap ((ys.length : Int) - 1 - (i : Int)) = (ys.length : Int) - 1 - (i : Int) := IntWalk.i64_in _ (by omega)
        have f3 : ((ys.length : Int) - 1 - (i : Int)).toNat = ys.length - 1 - i := by omega
        have f4 : (0 : Int) ≤ (ys.length : Int) - 1 - (i : Int) := by omega
        have f5 : (ys.length : Int) - 1 - (i : Int) < (ys.length : Int) := by omega
        have b2 : (i : Int) < (ys.length : Int) - (f : Int) := by omega
        have d2 : decide ((i : Int) < (ys.length : Int) - (f : Int)) = true := decide_eq_true b2
        by_cases heq : sAt xs (xs.length - 1 - i) = sAt ys (ys.length - 1 - i)
        · have hbq : ((sAt xs (xs.length - 1 - i)).toList == (sAt ys (ys.length - 1 - i)).toList) = true := by rw [str_beq]; exact decide_eq_true heq
          have HE := Kp.mk heq
          clear heq
          go_wp2
          go_quiet (fail)
          clear e1 e2 e3 e4 e5 f1 f2 f3 f4 f5 a1 a2
          go_wp2
          go_roundw
          case rel => exact ⟨i + 1, _, by go_num, by omega, by omega, ⟨fun j hj => by
            by_cases e : j = i
            · subst e; exact HE.out
            · exact hall.out j (by omega)⟩, rfl⟩
          case measure => simp [intOf]; omega
        · have hbq : ((sAt xs (xs.length - 1 - i)).toList == (sAt ys (ys.length - 1 - i)).toList) = false := by rw [str_beq]; exact decide_eq_false heq
          have HC : Kp (bak xs ys = i) := ⟨HU.out i hi hi' hall.out (fun _ _ => heq)⟩
          clear heq
          go_wp2
          go_quiet (fail)
          clear e1 e2 e3 e4 e5 f1 f2 f3 f4 f5 a1 a2
          go_wp2
          go_ret
          exact ⟨ret_int (by rw [HC.out]), below_drewN (below_drewN hb1 _) _⟩
      · have b2 : ¬ (i : Int) < (ys.length : Int) - (f : Int) := by omega
        have d2 : decide ((i : Int) < (ys.length : Int) - (f : Int)) = false := decide_eq_false b2
        have HC : Kp (bak xs ys = i) := ⟨HU.out i hi hi' hall.out (fun _ h => absurd h hlt2)⟩
        go_wp2
        go_quiet (fail)
        clear e1 e2 e3 e4 e5 a1 a2
        go_wp2
        go_ret
        exact ⟨ret_int (by rw [HC.out]), below_drewN (below_drewN hb1 _) _⟩
    · have b1 : ¬ (i : Int) < (xs.length : Int) - (f : Int) := by omega
      have d1 : decide ((i : Int) < (xs.length : Int) - (f : Int)) = false := decide_eq_false b1
      have HC : Kp (bak xs ys = i) := ⟨HU.out i hi hi' hall.out (fun h _ => absurd h hlt)⟩
      go_wp2
      go_quiet (fail)
      clear a1 a2
      go_wp2
      go_ret
      exact ⟨ret_int (by rw [HC.out]), below_drewN (below_drewN hb1 _) _⟩
end Go.Proofs.Ytaffkplllmnjoaa
