/- DiffThree: from one list to a third one costs at most as much as by way of a second one: the walk of the law. -/
import Derived.Test.YtgbkbcdplcehmaaAwake4
import Derived.Test.YtgbkbcdplcehmaaEdLaw
import Derived.Test.YtgbkbcdplcehmaaLight
import Derived.Test.YtgbkbcdplcehmaaSame
namespace Go.Proofs.Ytgbkbcdplcehmaa
open Go.RowKit

set_option maxRecDepth 100000 in
set_option maxHeartbeats 4000000 in
theorem diffThree_any (xs : List ByteArray) (A : Option Addr) (c : Nat) (ys : List ByteArray) (B : Option Addr) (d : Nat) (zs : List ByteArray) (D : Option Addr) (f : Nat) (w : World)
    (_ : xs.length ≤ c) (_ : c ≤ 9223372036854775807) (hA : SlS w.heap.size w A xs) (_ : ys.length ≤ d) (_ : d ≤ 9223372036854775807) (hB : SlS w.heap.size w B ys) (_ : zs.length ≤ f) (_ : f ≤ 9223372036854775807) (hD : SlS w.heap.size w D zs) :
    Calls Try.prog 9 #[.slice A xs.length c, .slice B ys.length d, .slice D zs.length f] w fun e w' => e = .returned (.bool true) ∧ Below w.heap.size w w' := by
  have S := (((Sm.start w).argL hA).argL hB).argL hD
  obtain ⟨bxs, lxs⟩ : ∃ b, light xs 60 = b := ⟨_, rfl⟩
  have Lxs := Kp.mk lxs
  obtain ⟨bys, lys⟩ : ∃ b, light ys 60 = b := ⟨_, rfl⟩
  have Lys := Kp.mk lys
  obtain ⟨bzs, lzs⟩ : ∃ b, light zs 60 = b := ⟨_, rfl⟩
  have Lzs := Kp.mk lzs
  clear hA hB hD
  by_cases hall : bxs = true ∧ bys = true ∧ bzs = true
  · obtain ⟨rfl, rfl, rfl⟩ := hall
    have nxs := light_len lxs
    clear lxs
    have nys := light_len lys
    clear lys
    have nzs := light_len lzs
    clear lzs
    obtain ⟨N1, hN1⟩ : ∃ N : Nat, cost (edits xs zs) = N := ⟨xs.length + zs.length - 2 * Qm.lcs xs zs, by rw [cost_edits]; have h1 := Qm.lcs_le_left xs zs; have h2 := Qm.lcs_le_right xs zs; omega⟩
    have HN1 := Kp.mk hN1
    rw [cost_edits] at hN1
    obtain ⟨N2, hN2⟩ : ∃ N : Nat, cost (edits xs ys) = N := ⟨xs.length + ys.length - 2 * Qm.lcs xs ys, by rw [cost_edits]; have h1 := Qm.lcs_le_left xs ys; have h2 := Qm.lcs_le_right xs ys; omega⟩
    have HN2 := Kp.mk hN2
    rw [cost_edits] at hN2
    obtain ⟨N3, hN3⟩ : ∃ N : Nat, cost (edits ys zs) = N := ⟨ys.length + zs.length - 2 * Qm.lcs ys zs, by rw [cost_edits]; have h1 := Qm.lcs_le_left ys zs; have h2 := Qm.lcs_le_right ys zs; omega⟩
    have HN3 := Kp.mk hN3
    rw [cost_edits] at hN3
    have hle : (N1 : Int) ≤ (N2 : Int) + (N3 : Int) := by have h3 := Qm.lcs_three xs ys zs; omega
    have u1 : N1 ≤ 1000 := by omega
    have u2 : N2 ≤ 1000 := by omega
    have u3 : N3 ≤ 1000 := by omega
    clear hN1 hN2 hN3
    have T1 : True := trivial
    have T2 : True := trivial
    have T3 : True := trivial
    go_enter Try.func9, Try.ntmps9
    go_wp2_with (first
      | (go_at_call 11; refine (awake4_any _).mono ?_; rintro e w1 ⟨rfl, hb⟩; replace S := S.call hb; clear hb)
      | (go_at_call_of 12 A; refine (light_any xs A _ 60 _ (S.ln me2)).mono ?_; rintro e w1 ⟨rfl, rfl⟩; rw [Lxs.out])
      | (go_at_call_of 12 B; refine (light_any ys B _ 60 _ (S.ln me1)).mono ?_; rintro e w1 ⟨rfl, rfl⟩; rw [Lys.out])
      | (go_at_call_of 12 D; refine (light_any zs D _ 60 _ (S.ln me0)).mono ?_; rintro e w1 ⟨rfl, rfl⟩; rw [Lzs.out])
      | (go_at_call 14; have _t := T1; refine (edits_any xs zs _ _ _ _ _ (S.ln me2) (S.ln me0) (by omega) (by omega) (by assumption) (by assumption)).mono ?_; rintro e w1 ⟨C1, k1, l1, rfl, he1, -, -, hF, hb⟩; replace S := S.made hb hF; have hl1 : l1.length ≤ xs.length + 1 := (by rw [← eds_length, he1]; exact edits_length _ _); have HE1 := Kp.mk he1; clear hF hb he1 T1 _t)
      | (go_at_call_of 20 C1; refine (cost_nat l1 _ _ _ (S.get me0) N1 (by rw [HE1.out]; exact HN1.out) (by omega) (by omega)).mono ?_; rintro e w1 ⟨rfl, hb⟩; replace S := S.call hb; clear hb)
      | (go_at_call 14; have _t := T2; refine (edits_any xs ys _ _ _ _ _ (S.ln me3) (S.ln me2) (by omega) (by omega) (by assumption) (by assumption)).mono ?_; rintro e w1 ⟨C2, k2, l2, rfl, he2, -, -, hF, hb⟩; replace S := S.made hb hF; have hl2 : l2.length ≤ xs.length + 1 := (by rw [← eds_length, he2]; exact edits_length _ _); have HE2 := Kp.mk he2; clear hF hb he2 T2 _t)
      | (go_at_call_of 20 C2; refine (cost_nat l2 _ _ _ (S.get me0) N2 (by rw [HE2.out]; exact HN2.out) (by omega) (by omega)).mono ?_; rintro e w1 ⟨rfl, hb⟩; replace S := S.call hb; clear hb)
      | (go_at_call 14; have _t := T3; refine (edits_any ys zs _ _ _ _ _ (S.ln me3) (S.ln me2) (by omega) (by omega) (by assumption) (by assumption)).mono ?_; rintro e w1 ⟨C3, k3, l3, rfl, he3, -, -, hF, hb⟩; replace S := S.made hb hF; have hl3 : l3.length ≤ ys.length + 1 := (by rw [← eds_length, he3]; exact edits_length _ _); have HE3 := Kp.mk he3; clear hF hb he3 T3 _t)
      | (go_at_call_of 20 C3; refine (cost_nat l3 _ _ _ (S.get me0) N3 (by rw [HE3.out]; exact HN3.out) (by omega) (by omega)).mono ?_; rintro e w1 ⟨rfl, hb⟩; replace S := S.call hb; clear hb))
    go_ret
    exact ⟨rfl, S.below⟩
  · have hbb : (bxs = false) ∨ (bxs = true ∧ bys = false) ∨ (bxs = true ∧ bys = true ∧ bzs = false) := by
      clear S lxs Lxs lys Lys lzs Lzs
      cases bxs <;> cases bys <;> cases bzs <;> simp_all
    clear hall lxs lys lzs
    rcases hbb with rfl | ⟨rfl, rfl⟩ | ⟨rfl, rfl, rfl⟩
    all_goals
      go_enter Try.func9, Try.ntmps9
      go_wp2_with (first
        | (go_at_call 11; refine (awake4_any _).mono ?_; rintro e w1 ⟨rfl, hb⟩; replace S := S.call hb; clear hb)
        | (go_at_call_of 12 A; refine (light_any xs A _ 60 _ (S.ln me2)).mono ?_; rintro e w1 ⟨rfl, rfl⟩; rw [Lxs.out])
        | (go_at_call_of 12 B; refine (light_any ys B _ 60 _ (S.ln me1)).mono ?_; rintro e w1 ⟨rfl, rfl⟩; rw [Lys.out])
        | (go_at_call_of 12 D; refine (light_any zs D _ 60 _ (S.ln me0)).mono ?_; rintro e w1 ⟨rfl, rfl⟩; rw [Lzs.out]))
      go_ret
      exact ⟨rfl, S.below⟩
end Go.Proofs.Ytgbkbcdplcehmaa
