/- DiffTells: the edits from any list to any other one are what the document says: the walk of the law. -/
import Derived.Test.YtgbkbcdplcehmaaAwake4
import Derived.Test.YtgbkbcdplcehmaaEdLaw
import Derived.Test.YtgbkbcdplcehmaaLight
import Derived.Test.YtgbkbcdplcehmaaSame
import Derived.Test.YtgbkbcdplcehmaaRefEdits
import Derived.Test.YtgbkbcdplcehmaaRefEdSame
namespace Go.Proofs.Ytgbkbcdplcehmaa
open Go.RowKit

set_option maxRecDepth 100000 in
set_option maxHeartbeats 4000000 in
theorem diffTells_any (xs : List ByteArray) (A : Option Addr) (c : Nat) (ys : List ByteArray) (B : Option Addr) (d : Nat) (w : World)
    (_ : xs.length ≤ c) (_ : c ≤ 9223372036854775807) (hA : SlS w.heap.size w A xs) (_ : ys.length ≤ d) (_ : d ≤ 9223372036854775807) (hB : SlS w.heap.size w B ys) :
    Calls Try.prog 3 #[.slice A xs.length c, .slice B ys.length d] w fun e w' => e = .returned (.bool true) ∧ Below w.heap.size w w' := by
  have S := ((Sm.start w).argL hA).argL hB
  obtain ⟨bxs, lxs⟩ : ∃ b, light xs 60 = b := ⟨_, rfl⟩
  have Lxs := Kp.mk lxs
  obtain ⟨bys, lys⟩ : ∃ b, light ys 60 = b := ⟨_, rfl⟩
  have Lys := Kp.mk lys
  clear hA hB
  by_cases hall : bxs = true ∧ bys = true
  · obtain ⟨rfl, rfl⟩ := hall
    have nxs := light_len lxs
    clear lxs
    have nys := light_len lys
    clear lys
    have T1 : True := trivial
    go_enter Try.func3, Try.ntmps3
    go_wp2_with (first
      | (go_at_call 11; refine (awake4_any _).mono ?_; rintro e w1 ⟨rfl, hb⟩; replace S := S.call hb; clear hb)
      | (go_at_call_of 12 A; refine (light_any xs A _ 60 _ (S.ln me1)).mono ?_; rintro e w1 ⟨rfl, rfl⟩; rw [Lxs.out])
      | (go_at_call_of 12 B; refine (light_any ys B _ 60 _ (S.ln me0)).mono ?_; rintro e w1 ⟨rfl, rfl⟩; rw [Lys.out])
      | (go_at_call 14; have _t := T1; refine (edits_any xs ys _ _ _ _ _ (S.ln me1) (S.ln me0) (by omega) (by omega) (by assumption) (by assumption)).mono ?_; rintro e w1 ⟨C1, k1, l1, rfl, he1, -, -, hF, hb⟩; replace S := S.made hb hF; have hl1 : l1.length ≤ xs.length + 1 := (by rw [← eds_length, he1]; exact edits_length _ _); have HE1 := Kp.mk he1; clear hF hb he1 T1 _t)
      | (go_at_call 15; refine (redits_any xs ys _ _ _ _ _ (S.ln me2) (S.ln me1) (by omega) (by omega) (by assumption) (by assumption)).mono ?_; rintro e w1 ⟨C2, k2, l2, rfl, he2, -, -, hF, hb⟩; replace S := S.made hb hF; have HE2 := Kp.mk he2; clear hF hb he2)
      | (go_at_call 13; refine (esame_any l1 l2 _ _ _ _ _ (by rw [HE1.out, HE2.out]) (S.get me1) (S.get me0) (by omega) (fun e he => Nat.le_trans (edits_new HE1.out e he) (by omega))).mono ?_; rintro e w1 ⟨rfl, hb⟩; replace S := S.call hb; clear hb))
    go_ret
    exact ⟨rfl, S.below⟩
  · have hbb : (bxs = false) ∨ (bxs = true ∧ bys = false) := by
      clear S lxs Lxs lys Lys
      cases bxs <;> cases bys <;> simp_all
    clear hall lxs lys
    rcases hbb with rfl | ⟨rfl, rfl⟩
    all_goals
      go_enter Try.func3, Try.ntmps3
      go_wp2_with (first
        | (go_at_call 11; refine (awake4_any _).mono ?_; rintro e w1 ⟨rfl, hb⟩; replace S := S.call hb; clear hb)
        | (go_at_call_of 12 A; refine (light_any xs A _ 60 _ (S.ln me1)).mono ?_; rintro e w1 ⟨rfl, rfl⟩; rw [Lxs.out])
        | (go_at_call_of 12 B; refine (light_any ys B _ 60 _ (S.ln me0)).mono ?_; rintro e w1 ⟨rfl, rfl⟩; rw [Lys.out]))
      go_ret
      exact ⟨rfl, S.below⟩
end Go.Proofs.Ytgbkbcdplcehmaa
