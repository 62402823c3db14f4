/- HunkOf: the hunks from any list to any other one are what the document says: the walk of the law. -/
import Derived.Test.YtkggedmcdllnaaaAwake5
import Derived.Test.YtkggedmcdllnaaaRefOf
import Derived.Test.YtkggedmcdllnaaaHlSame
import Derived.Test.YtkggedmcdllnaaaHkMem
namespace Go.Proofs.Ytkggedmcdllnaaa
open Go.RowKit

set_option maxRecDepth 100000 in
set_option maxHeartbeats 4000000 in
theorem hunkOf_any (xs : List ByteArray) (A : Option Addr) (c : Nat) (ys : List ByteArray) (B : Option Addr) (d : Nat) (w : World)
    (_ : xs.length ≤ c) (_ : c ≤ 9223372036854775807) (hA : SlS w.heap.size w A xs) (_ : ys.length ≤ d) (_ : d ≤ 9223372036854775807) (hB : SlS w.heap.size w B ys) :
    Calls Try.prog 5 #[.slice A xs.length c, .slice B ys.length d] w fun e w' => e = .returned (.bool true) ∧ Below w.heap.size w w' := by
  have S := ((Sm.start w).argL hA).argL hB
  obtain ⟨bxs, lxs⟩ : ∃ b, light xs 60 = b := ⟨_, rfl⟩
  have Lxs := Kp.mk lxs
  obtain ⟨bys, lys⟩ : ∃ b, light ys 60 = b := ⟨_, rfl⟩
  have Lys := Kp.mk lys
  clear hA hB
  by_cases hall : bxs = true ∧ bys = true
  · obtain ⟨rfl, rfl⟩ := hall
    have nxs := light_len lxs
    clear lxs
    have nys := light_len lys
    clear lys
    go_enter Try.func5, Try.ntmps5
    go_wp2_with (first
      | (go_at_call 8; refine (awake5_any _).mono ?_; rintro e w1 ⟨rfl, hb⟩; replace S := S.call hb; clear hb)
      | (go_at_call_of 9 A; refine (light_any xs A _ 60 _ (S.ln me1)).mono ?_; rintro e w1 ⟨rfl, rfl⟩; rw [Lxs.out])
      | (go_at_call_of 9 B; refine (light_any ys B _ 60 _ (S.ln me0)).mono ?_; rintro e w1 ⟨rfl, rfl⟩; rw [Lys.out])
      | (go_at_call 17; refine (of_any xs ys _ _ _ _ _ (S.ln me1) (S.ln me0) (by omega) (by omega) (by assumption) (by assumption) (by assumption) (by assumption)).mono ?_; rintro e w1 ⟨C1, k1, l1, rfl, he1, -, -, hF, hb⟩; replace S := S.made hb hF; have HE1 := Kp.mk he1; clear hF hb he1)
      | (go_at_call 19; refine (rof_any xs ys _ _ _ _ _ (S.ln me2) (S.ln me1) (by omega) (by omega) (by assumption) (by assumption) (by assumption) (by assumption)).mono ?_; rintro e w1 ⟨C2, k2, l2, rfl, he2, hF, hb⟩; replace S := (S.call hb).and hF.frs (fun _ _ h => by simp at h); have HE2 := Kp.mk he2; clear hF hb he2)
      | (go_at_call 18; refine (hlist_any l1 l2 _ _ _ _ _ (by rw [HE1.out, HE2.out]) (S.get me1) (S.get me0) (by have := congrArg List.length HE1.out; have h2 := edits_length xs ys; rw [hds_length] at this; unfold hunks at this; rw [hFrom_length] at this; omega) (fun e he => by have := hds_len HE1.out e he; omega)).mono ?_; rintro e w1 ⟨rfl, hb⟩; replace S := S.call hb; clear hb))
    go_ret
    exact ⟨rfl, S.below⟩
  · have hbb : (bxs = false) ∨ (bxs = true ∧ bys = false) := by
      clear S lxs Lxs lys Lys
      cases bxs <;> cases bys <;> simp_all
    clear hall lxs lys
    rcases hbb with rfl | ⟨rfl, rfl⟩
    all_goals
      go_enter Try.func5, Try.ntmps5
      go_wp2_with (first
        | (go_at_call 8; refine (awake5_any _).mono ?_; rintro e w1 ⟨rfl, hb⟩; replace S := S.call hb; clear hb)
        | (go_at_call_of 9 A; refine (light_any xs A _ 60 _ (S.ln me1)).mono ?_; rintro e w1 ⟨rfl, rfl⟩; rw [Lxs.out])
        | (go_at_call_of 9 B; refine (light_any ys B _ 60 _ (S.ln me0)).mono ?_; rintro e w1 ⟨rfl, rfl⟩; rw [Lys.out]))
      go_ret
      exact ⟨rfl, S.below⟩
end Go.Proofs.Ytkggedmcdllnaaa
