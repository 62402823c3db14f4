/- DiffBound: no edits cost more than taking all away, and putting all there; without common lines they do: the walk of the law. -/
import Derived.Test.YtgbkbcdplcehmaaAwake4
import Derived.Test.YtgbkbcdplcehmaaEdLaw
import Derived.Test.YtgbkbcdplcehmaaLight
import Derived.Test.YtgbkbcdplcehmaaSame
namespace Go.Proofs.Ytgbkbcdplcehmaa
open Go.RowKit

set_option maxRecDepth 100000 in
set_option maxHeartbeats 4000000 in
theorem diffBound_any (xs : List ByteArray) (A : Option Addr) (c : Nat) (ys : List ByteArray) (B : Option Addr) (d : Nat) (w : World)
    (_ : xs.length ≤ c) (_ : c ≤ 9223372036854775807) (hA : SlS w.heap.size w A xs) (_ : ys.length ≤ d) (_ : d ≤ 9223372036854775807) (hB : SlS w.heap.size w B ys) :
    Calls Try.prog 8 #[.slice A xs.length c, .slice B ys.length d] w fun e w' => e = .returned (.bool true) ∧ Below w.heap.size w w' := by
  have S := ((Sm.start w).argL hA).argL hB
  obtain ⟨bxs, lxs⟩ : ∃ b, light xs 60 = b := ⟨_, rfl⟩
  have Lxs := Kp.mk lxs
  obtain ⟨bys, lys⟩ : ∃ b, light ys 60 = b := ⟨_, rfl⟩
  have Lys := Kp.mk lys
  clear hA hB
  by_cases hall : bxs = true ∧ bys = true
  · obtain ⟨rfl, rfl⟩ := hall
    have nxs := light_len lxs
    clear lxs
    have nys := light_len lys
    clear lys
    go_enter Try.func8, Try.ntmps8
    go_wp2_with (first
      | (go_at_call 11; refine (awake4_any _).mono ?_; rintro e w1 ⟨rfl, hb⟩; replace S := S.call hb; clear hb)
      | (go_at_call_of 12 A; refine (light_any xs A _ 60 _ (S.ln me1)).mono ?_; rintro e w1 ⟨rfl, rfl⟩; rw [Lxs.out])
      | (go_at_call_of 12 B; refine (light_any ys B _ 60 _ (S.ln me0)).mono ?_; rintro e w1 ⟨rfl, rfl⟩; rw [Lys.out]))
    have hA := S.ln me1
    have hB := S.ln me0
    obtain ⟨wo, hwo⟩ : ∃ wo : World, wo = w1 := ⟨_, rfl⟩
    subst hwo
    go_loopw [8, 9] (fun vc vi wr => ∃ i q0 : Nat, vi = .int .i64 i ∧ i ≤ xs.length ∧ vc = .bool (anyC ys (xs.take i)) ∧ wr = wo.drewN q0) (fun _ vi _ => xs.length - (intOf vi).toNat)
    case atStart => exact ⟨0, 0, rfl, Nat.zero_le _, rfl, rfl⟩
    case round =>
      obtain ⟨i, q0, rfl, hi, rfl, rfl⟩ := hrel
      by_cases hlt : i < xs.length
      · obtain ⟨c0, hc0⟩ : ∃ c, anyC ys (xs.take i) = c := ⟨_, rfl⟩
        rw [hc0]
        have HC0 := Kp.mk hc0
        obtain ⟨ax, rfl, hax, hcx⟩ := hA.at_ hlt
        clear hc0
        go_wp2
        go_loopw [8, 10] (fun vc vk wr => ∃ k q1 : Nat, vk = .int .i64 k ∧ k ≤ ys.length ∧ vc = .bool (c0 || anyC (ys.take k) [sAt xs i]) ∧ wr = wo.drewN q1) (fun _ vk _ => ys.length - (intOf vk).toNat)
        case atStart => exact ⟨0, q0, rfl, Nat.zero_le _, by simp [anyC], rfl⟩
        case round =>
          obtain ⟨k, q1, rfl, hk, rfl, rfl⟩ := hrel
          by_cases hlk : k < ys.length
          · obtain ⟨ay, rfl, hay, hcy⟩ := hB.at_ hlk
            obtain ⟨c1, hc1⟩ : ∃ c, (c0 || anyC (ys.take k) [sAt xs i]) = c := ⟨_, rfl⟩
            obtain ⟨t, ht⟩ : ∃ t, ((sAt xs i).toList == (sAt ys k).toList) = t := ⟨_, rfl⟩
            have HN : Kp ((c0 || anyC (ys.take (k + 1)) [sAt xs i]) = (c1 || t)) := ⟨by rw [← hc1, ← ht, anyC_snoc hlk, str_beq, Bool.or_assoc]⟩
            rw [hc1]
            clear hc1
            cases c1 <;> cases t
            all_goals
              go_wp2
              go_quiet (fail)
              go_wp2
              go_roundw
              case rel => exact ⟨k + 1, _, by go_num, by omega, by rw [HN.out]; rfl, rfl⟩
              case measure => simp [intOf]; omega
          · obtain rfl : k = ys.length := by omega
            rw [List.take_length]
            have HN : Kp (anyC ys (xs.take (i + 1)) = (c0 || anyC ys [sAt xs i])) := ⟨by rw [← HC0.out, anyC_step hlt]⟩
            go_wp2
            go_roundw
            case rel => exact ⟨i + 1, q1, by go_num, by omega, by rw [HN.out], rfl⟩
            case measure => simp [intOf]; omega
      · obtain rfl : i = xs.length := by omega
        rw [List.take_length]
        obtain ⟨b, hb0⟩ : ∃ b, anyC ys xs = b := ⟨_, rfl⟩
        rw [hb0]
        have hz := anyC_lcs xs ys
        rw [hb0] at hz
        obtain ⟨N1, hN1⟩ : ∃ N : Nat, cost (edits xs ys) = N := ⟨xs.length + ys.length - 2 * Qm.lcs xs ys, by rw [cost_edits]; have h1 := Qm.lcs_le_left xs ys; have h2 := Qm.lcs_le_right xs ys; omega⟩
        have HN1 := Kp.mk hN1
        rw [cost_edits] at hN1
        have hle : (N1 : Int) ≤ (xs.length : Int) + (ys.length : Int) := by omega
        have t1 : ((N1 : Int) == (xs.length : Int) + (ys.length : Int)) = !b := by
          cases b
          · rw [hz.2 rfl] at hN1; simp; omega
          · have : Qm.lcs xs ys ≠ 0 := fun e => by have := hz.1 e; cases this
            simp; omega
        have u1 : N1 ≤ 1000 := by omega
        have T1 : True := trivial
        clear hN1 hz hb0 hA hB
        have S := S.drewN q0
        cases b
        all_goals
          go_wp2_with (first
            | (go_at_call 14; have _t := T1; refine (edits_any xs ys _ _ _ _ _ (S.ln me1) (S.ln me0) (by omega) (by omega) (by assumption) (by assumption)).mono ?_; rintro e w1 ⟨C1, k1, l1, rfl, he1, -, -, hF, hb⟩; replace S := S.made hb hF; have hl1 : l1.length ≤ xs.length + 1 := (by rw [← eds_length, he1]; exact edits_length _ _); have HE1 := Kp.mk he1; clear hF hb he1 T1 _t)
            | (go_at_call_of 20 C1; refine (cost_nat l1 _ _ _ (S.get me0) N1 (by rw [HE1.out]; exact HN1.out) (by omega) (by omega)).mono ?_; rintro e w1 ⟨rfl, hb⟩; replace S := S.call hb; clear hb))
          all_goals
            go_ret
            exact ⟨rfl, S.below⟩
  · have hbb : (bxs = false) ∨ (bxs = true ∧ bys = false) := by
      clear S lxs Lxs lys Lys
      cases bxs <;> cases bys <;> simp_all
    clear hall lxs lys
    rcases hbb with rfl | ⟨rfl, rfl⟩
    all_goals
      go_enter Try.func8, Try.ntmps8
      go_wp2_with (first
        | (go_at_call 11; refine (awake4_any _).mono ?_; rintro e w1 ⟨rfl, hb⟩; replace S := S.call hb; clear hb)
        | (go_at_call_of 12 A; refine (light_any xs A _ 60 _ (S.ln me1)).mono ?_; rintro e w1 ⟨rfl, rfl⟩; rw [Lxs.out])
        | (go_at_call_of 12 B; refine (light_any ys B _ 60 _ (S.ln me0)).mono ?_; rintro e w1 ⟨rfl, rfl⟩; rw [Lys.out]))
      go_ret
      exact ⟨rfl, S.below⟩
end Go.Proofs.Ytgbkbcdplcehmaa
