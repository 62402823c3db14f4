/- DiffApplies: what a list becomes by edits, and what these cost, is what the document says: the walk of the law. -/
import Derived.Test.YtgbkbcdplcehmaaAwake4
import Derived.Test.YtgbkbcdplcehmaaEdLaw
import Derived.Test.YtgbkbcdplcehmaaLight
import Derived.Test.YtgbkbcdplcehmaaSame
import Derived.Test.YtgbkbcdplcehmaaFew
import Derived.Test.YtgbkbcdplcehmaaRef4
import Derived.Test.YtgbkbcdplcehmaaApLen
namespace Go.Proofs.Ytgbkbcdplcehmaa
open Go.RowKit

set_option maxRecDepth 100000 in
set_option maxHeartbeats 4000000 in
theorem diffApplies_any (xs : List ByteArray) (A : Option Addr) (c : Nat) (C : Option Addr) (k : Nat) (l : List EdA) (w : World)
    (_ : xs.length ≤ c) (_ : c ≤ 9223372036854775807) (hA : SlS w.heap.size w A xs) (_ : l.length ≤ k) (_ : k ≤ 9223372036854775807) (hC : EdM C l w) (hI : ∀ e ∈ l, EdI e) :
    Calls Try.prog 4 #[.slice A xs.length c, .slice C l.length k] w fun e w' => e = .returned (.bool true) ∧ Below w.heap.size w w' := by
  have S := ((Sm.start w).argF hC.frs).argL hA
  obtain ⟨bxs, lxs⟩ : ∃ b, light xs 60 = b := ⟨_, rfl⟩
  have Lxs := Kp.mk lxs
  obtain ⟨bf, lf⟩ : ∃ b, (decide (l.length ≤ 60) && fews l) = b := ⟨_, rfl⟩
  have Lf := Kp.mk lf
  have HI := Kp.mk hI
  clear hC hI
  clear hA
  by_cases hall : bxs = true ∧ bf = true
  · obtain ⟨rfl, rfl⟩ := hall
    have nxs := light_len lxs
    clear lxs
    obtain ⟨nl, sl⟩ := few_out lf
    have SL := Kp.mk sl
    clear sl lf
    obtain ⟨r, hr⟩ : ∃ r, apR xs (eds l) = r := ⟨_, rfl⟩
    obtain ⟨z, hzz⟩ : ∃ z, r.getD [] = z := ⟨_, rfl⟩
    obtain ⟨i1, hi1⟩ : ∃ b, r.isSome = b := ⟨_, rfl⟩
    obtain ⟨N, hN⟩ : ∃ N, wrap64 (cost (eds l)) = N := ⟨_, rfl⟩
    have HR := Kp.mk hr
    have HZ := Kp.mk hzz
    have HI1 := Kp.mk hi1
    have HN := Kp.mk hN
    have HS1 : Kp (∀ e ∈ l, e.2.2.2.2.length ≤ 1000000) := ⟨fun e he => Nat.le_trans (SL.out e he) (by omega)⟩
    have zl : z.length ≤ 100000 := apR_len xs l r z hr hzz (by omega) nl SL.out
    have t1 : (i1 == i1) = true := by simp
    have t2 : (N == N) = true := by simp
    clear hr hzz hi1 hN
    cases i1
    all_goals
      go_enter Try.func4, Try.ntmps4
      go_wp2_with (first
        | (go_at_call 11; refine (awake4_any _).mono ?_; rintro e w1 ⟨rfl, hb⟩; replace S := S.call hb; clear hb)
        | (go_at_call_of 12 A; refine (light_any xs A _ 60 _ (S.ln me0)).mono ?_; rintro e w1 ⟨rfl, rfl⟩; rw [Lxs.out])
        | (go_at_call 16; refine (few_both l _ _ _ _ Lf.out (S.get me1) (by omega)).mono ?_; rintro e w1 ⟨rfl, hb⟩; replace S := S.call hb; clear hb)
        | (go_at_call 17; refine (dapply_gen _ l _ _ _ _ _ _ z _ HR.out HZ.out HI1.out (S.ln me0) ((S.get me1) (by omega)) (by omega) (by omega) HS1.out (by assumption) (by assumption)).mono ?_; rintro e w1 ⟨D1, r1, rfl, hF, hb⟩; replace S := S.made hb hF; clear hF hb)
        | (go_at_call 18; refine (rapply_gen _ l _ _ _ _ _ _ z _ HR.out HZ.out HI1.out (S.ln me1) ((S.get me2) (by omega)) (by omega) (by omega) HS1.out (by assumption) (by assumption)).mono ?_; rintro e w1 ⟨D2, r2, rfl, hF, hb⟩; replace S := S.made hb hF; clear hF hb)
        | (go_at_call_of 19 D1; refine (same_at _ _ _ _ _ _ _ _ true _ rfl rfl (by simp) (S.ln me1) (S.ln me0) (by omega)).mono ?_; rintro e w1 ⟨rfl, hb⟩; replace S := S.call hb; clear hb)
        | (go_at_call 20; refine (cost_any l _ _ _ ((S.get me3) (by omega)) (by omega)).mono ?_; rintro e w1 ⟨rfl, hb⟩; rw [HN.out]; replace S := S.call hb; clear hb)
        | (go_at_call 21; refine (rcost_any l _ _ _ ((S.get me3) (by omega)) (by omega)).mono ?_; rintro e w1 ⟨rfl, hb⟩; rw [HN.out]; replace S := S.call hb; clear hb))
      go_ret
      exact ⟨rfl, S.below⟩
  · have hbb : (bxs = false) ∨ (bxs = true ∧ bf = false) := by
      clear S lxs Lxs lf Lf
      cases bxs <;> cases bf <;> simp_all
    clear hall lxs lf
    rcases hbb with rfl | ⟨rfl, rfl⟩
    all_goals
      go_enter Try.func4, Try.ntmps4
      go_wp2_with (first
        | (go_at_call 11; refine (awake4_any _).mono ?_; rintro e w1 ⟨rfl, hb⟩; replace S := S.call hb; clear hb)
        | (go_at_call_of 12 A; refine (light_any xs A _ 60 _ (S.ln me0)).mono ?_; rintro e w1 ⟨rfl, rfl⟩; rw [Lxs.out])
        | (go_at_call 16; refine (few_both l _ _ _ _ Lf.out (S.get me1) (by omega)).mono ?_; rintro e w1 ⟨rfl, hb⟩; replace S := S.call hb; clear hb))
      go_ret
      exact ⟨rfl, S.below⟩
end Go.Proofs.Ytgbkbcdplcehmaa
