/- DiffGives: edits applied to the first list give the second one; there are none just if both are the same: the walk of the law. -/
import Derived.Test.YtgbkbcdplcehmaaAwake4
import Derived.Test.YtgbkbcdplcehmaaEdLaw
import Derived.Test.YtgbkbcdplcehmaaLight
import Derived.Test.YtgbkbcdplcehmaaSame
namespace Go.Proofs.Ytgbkbcdplcehmaa
open Go.RowKit

set_option maxRecDepth 100000 in
set_option maxHeartbeats 4000000 in
theorem diffGives_any (xs : List ByteArray) (A : Option Addr) (c : Nat) (ys : List ByteArray) (B : Option Addr) (d : Nat) (w : World)
    (_ : xs.length ≤ c) (_ : c ≤ 9223372036854775807) (hA : SlS w.heap.size w A xs) (_ : ys.length ≤ d) (_ : d ≤ 9223372036854775807) (hB : SlS w.heap.size w B ys) :
    Calls Try.prog 5 #[.slice A xs.length c, .slice B ys.length d] w fun e w' => e = .returned (.bool true) ∧ Below w.heap.size w w' := by
  have S := ((Sm.start w).argL hA).argL hB
  obtain ⟨bxs, lxs⟩ : ∃ b, light xs 60 = b := ⟨_, rfl⟩
  have Lxs := Kp.mk lxs
  obtain ⟨bys, lys⟩ : ∃ b, light ys 60 = b := ⟨_, rfl⟩
  have Lys := Kp.mk lys
  clear hA hB
  by_cases hall : bxs = true ∧ bys = true
  · obtain ⟨rfl, rfl⟩ := hall
    have nxs := light_len lxs
    clear lxs
    have nys := light_len lys
    clear lys
    obtain ⟨b, hb0⟩ : ∃ b, decide (xs = ys) = b := ⟨_, rfl⟩
    have HB := Kp.mk hb0
    clear hb0
    have T1 : True := trivial
    cases b
    all_goals
      go_enter Try.func5, Try.ntmps5
      go_wp2_with (first
        | (go_at_call 11; refine (awake4_any _).mono ?_; rintro e w1 ⟨rfl, hb⟩; replace S := S.call hb; clear hb)
        | (go_at_call_of 12 A; refine (light_any xs A _ 60 _ (S.ln me1)).mono ?_; rintro e w1 ⟨rfl, rfl⟩; rw [Lxs.out])
        | (go_at_call_of 12 B; refine (light_any ys B _ 60 _ (S.ln me0)).mono ?_; rintro e w1 ⟨rfl, rfl⟩; rw [Lys.out])
        | (go_at_call 14; have _t := T1; refine (edits_any xs ys _ _ _ _ _ (S.ln me1) (S.ln me0) (by omega) (by omega) (by assumption) (by assumption)).mono ?_; rintro e w1 ⟨C1, k1, l1, rfl, he1, -, -, hF, hb⟩; replace S := S.made hb hF; have hl1 : l1.length ≤ xs.length + 1 := (by rw [← eds_length, he1]; exact edits_length _ _); have HE1 := Kp.mk he1; clear hF hb he1 T1 _t; have HA1 : Kp (apR xs (eds l1) = some ys) := ⟨by rw [HE1.out]; exact apR_edits xs ys⟩; have HS1 : Kp (∀ e ∈ l1, e.2.2.2.2.length ≤ 1000000) := ⟨fun e he => Nat.le_trans (edits_new HE1.out e he) (by omega)⟩; have hz := edits_nil xs ys; rw [← HE1.out, eds_length] at hz; have t1 : ((l1.length : Int) == 0) = _ := (show ((l1.length : Int) == 0) = decide (xs = ys) from by rw [Bool.eq_iff_iff]; simp only [beq_iff_eq, decide_eq_true_eq, ← hz]; omega).trans HB.out; clear hz)
        | (go_at_call 17; refine (dapply_yes _ l1 _ _ _ _ _ ys HA1.out (S.ln me2) (S.get me0) (by omega) (by omega) HS1.out (by assumption) (by assumption)).mono ?_; rintro e w1 ⟨D1, r1, rfl, hF, hb⟩; replace S := S.made hb hF; clear hF hb)
        | (go_at_call_of 19 D1; refine (same_at _ _ _ _ _ _ _ _ true _ rfl rfl (by simp) (S.ln me2) (S.ln me0) (by omega)).mono ?_; rintro e w1 ⟨rfl, hb⟩; replace S := S.call hb; clear hb)
        | (go_at_call_of 19 A; refine (same_at _ _ _ _ _ _ _ _ _ _ rfl rfl HB.out (S.ln me3) (S.ln me2) (by omega)).mono ?_; rintro e w1 ⟨rfl, hb⟩; replace S := S.call hb; clear hb))
      all_goals
        go_ret
        exact ⟨rfl, S.below⟩
  · have hbb : (bxs = false) ∨ (bxs = true ∧ bys = false) := by
      clear S lxs Lxs lys Lys
      cases bxs <;> cases bys <;> simp_all
    clear hall lxs lys
    rcases hbb with rfl | ⟨rfl, rfl⟩
    all_goals
      go_enter Try.func5, Try.ntmps5
      go_wp2_with (first
        | (go_at_call 11; refine (awake4_any _).mono ?_; rintro e w1 ⟨rfl, hb⟩; replace S := S.call hb; clear hb)
        | (go_at_call_of 12 A; refine (light_any xs A _ 60 _ (S.ln me1)).mono ?_; rintro e w1 ⟨rfl, rfl⟩; rw [Lxs.out])
        | (go_at_call_of 12 B; refine (light_any ys B _ 60 _ (S.ln me0)).mono ?_; rintro e w1 ⟨rfl, rfl⟩; rw [Lys.out]))
      go_ret
      exact ⟨rfl, S.below⟩
end Go.Proofs.Ytgbkbcdplcehmaa
