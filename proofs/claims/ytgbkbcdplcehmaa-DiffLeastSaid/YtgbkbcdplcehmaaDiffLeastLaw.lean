/- DiffLeast: the edits cost what the lists do not have in common; no edits that change one so cost less: the walk of the law. -/
import Derived.Test.YtgbkbcdplcehmaaAwake4
import Derived.Test.YtgbkbcdplcehmaaEdLaw
import Derived.Test.YtgbkbcdplcehmaaLight
import Derived.Test.YtgbkbcdplcehmaaSame
import Derived.Test.YtgbkbcdplcehmaaFew
import Derived.Test.YtgbkbcdplcehmaaLcsM
namespace Go.Proofs.Ytgbkbcdplcehmaa
open Go.RowKit

set_option maxRecDepth 100000 in
set_option maxHeartbeats 4000000 in
theorem diffLeast_any (xs : List ByteArray) (A : Option Addr) (c : Nat) (ys : List ByteArray) (B : Option Addr) (d : Nat) (C : Option Addr) (k : Nat) (l : List EdA) (w : World)
    (_ : xs.length ≤ c) (_ : c ≤ 9223372036854775807) (hA : SlS w.heap.size w A xs) (_ : ys.length ≤ d) (_ : d ≤ 9223372036854775807) (hB : SlS w.heap.size w B ys) (_ : l.length ≤ k) (_ : k ≤ 9223372036854775807) (hC : EdM C l w) (hI : ∀ e ∈ l, EdI e) :
    Calls Try.prog 10 #[.slice A xs.length c, .slice B ys.length d, .slice C l.length k] w fun e w' => e = .returned (.bool true) ∧ Below w.heap.size w w' := by
  have S := (((Sm.start w).argF hC.frs).argL hA).argL hB
  obtain ⟨bxs, lxs⟩ : ∃ b, light xs 60 = b := ⟨_, rfl⟩
  have Lxs := Kp.mk lxs
  obtain ⟨bys, lys⟩ : ∃ b, light ys 60 = b := ⟨_, rfl⟩
  have Lys := Kp.mk lys
  obtain ⟨bf, lf⟩ : ∃ b, (decide (l.length ≤ 60) && fews l) = b := ⟨_, rfl⟩
  have Lf := Kp.mk lf
  have HI := Kp.mk hI
  clear hC hI
  clear hA hB
  by_cases hall : bxs = true ∧ bys = true ∧ bf = true
  · obtain ⟨rfl, rfl, rfl⟩ := hall
    have nxs := light_len lxs
    clear lxs
    have nys := light_len lys
    clear lys
    obtain ⟨nl, sl⟩ := few_out lf
    have SL := Kp.mk sl
    clear sl lf
    obtain ⟨N1, hN1⟩ : ∃ N : Nat, cost (edits xs ys) = N := ⟨xs.length + ys.length - 2 * Qm.lcs xs ys, by rw [cost_edits]; have h1 := Qm.lcs_le_left xs ys; have h2 := Qm.lcs_le_right xs ys; omega⟩
    have HN1 := Kp.mk hN1
    rw [cost_edits] at hN1
    obtain ⟨t, ht⟩ : ∃ t, tab xs ys 0 0 = t := ⟨_, rfl⟩
    have HT := Kp.mk ht
    have htt : t = (Qm.lcs xs ys : Int) := by rw [← ht]; unfold tab; simp
    have hl1 := Qm.lcs_le_left xs ys
    have t0 : 0 ≤ t := by omega
    have t6 : t ≤ 60 := by omega
    have tq : (N1 : Int) = (xs.length : Int) + (ys.length : Int) - 2 * t := by omega
    have u1 : N1 ≤ 1000 := by omega
    have T1 : True := trivial
    have T2 : True := trivial
    have t1 : ((N1 : Int) == (xs.length : Int) + (ys.length : Int) - 2 * t) = true := by rw [beq_iff_eq]; exact tq
    by_cases hz : apR xs (eds l) = some ys
    · have hc := least xs ys (eds l) hz
      have hd := least_le xs ys (eds l) hz
      have HA1 := Kp.mk hz
      have HS1 : Kp (∀ e ∈ l, e.2.2.2.2.length ≤ 1000000) := ⟨fun e he => Nat.le_trans (SL.out e he) (by omega)⟩
      obtain ⟨N2, hN2⟩ : ∃ N : Nat, cost (eds l) = N := ⟨(cost (eds l)).toNat, by omega⟩
      have HN2 := Kp.mk hN2
      have u2 : N2 ≤ 1000 := by omega
      have hle : N1 ≤ N2 := by omega
      have HLE := Kp.mk hle
      clear hle hz hc hd hN2 hN1 ht htt hl1 tq
      go_enter Try.func10, Try.ntmps10
      go_wp2_with (first
        | (go_at_call 11; refine (awake4_any _).mono ?_; rintro e w1 ⟨rfl, hb⟩; replace S := S.call hb; clear hb)
        | (go_at_call_of 12 A; refine (light_any xs A _ 60 _ (S.ln me1)).mono ?_; rintro e w1 ⟨rfl, rfl⟩; rw [Lxs.out])
        | (go_at_call_of 12 B; refine (light_any ys B _ 60 _ (S.ln me0)).mono ?_; rintro e w1 ⟨rfl, rfl⟩; rw [Lys.out])
        | (go_at_call 16; refine (few_both l _ _ _ _ Lf.out (S.get me2) (by omega)).mono ?_; rintro e w1 ⟨rfl, hb⟩; replace S := S.call hb; clear hb)
        | (go_at_call 14; have _t := T1; refine (edits_any xs ys _ _ _ _ _ (S.ln me1) (S.ln me0) (by omega) (by omega) (by assumption) (by assumption)).mono ?_; rintro e w1 ⟨C1, k1, l1, rfl, he1, -, -, hF, hb⟩; replace S := S.made hb hF; have hl1 : l1.length ≤ xs.length + 1 := (by rw [← eds_length, he1]; exact edits_length _ _); have HE1 := Kp.mk he1; clear hF hb he1 T1 _t)
        | (go_at_call_of 20 C1; refine (cost_nat l1 _ _ _ (S.get me0) N1 (by rw [HE1.out]; exact HN1.out) (by omega) (by omega)).mono ?_; rintro e w1 ⟨rfl, hb⟩; replace S := S.call hb; clear hb)
        | (go_at_call 22; refine (many_any xs ys _ _ _ _ _ (S.ln me2) (S.ln me1) (by omega) (by omega)).mono ?_; rintro e w1 ⟨rfl, hb⟩; rw [HT.out]; replace S := S.call hb; clear hb)
        | (go_at_call 17; refine (dapply_yes _ l _ _ _ _ _ ys HA1.out (S.ln me2) ((S.get me3) (by omega)) (by omega) (by omega) HS1.out (by assumption) (by assumption)).mono ?_; rintro e w1 ⟨D1, r1, rfl, hF, hb⟩; replace S := S.made hb hF; clear hF hb)
        | (go_at_call_of 19 D1; refine (same_at _ _ _ _ _ _ _ _ true _ rfl rfl (by simp) (S.ln me2) (S.ln me0) (by omega)).mono ?_; rintro e w1 ⟨rfl, hb⟩; replace S := S.call hb; clear hb)
        | (go_at_call_of 20 C; refine (cost_nat l _ _ _ ((S.get me4) (by omega)) N2 HN2.out (by omega) (by omega)).mono ?_; rintro e w1 ⟨rfl, hb⟩; replace S := S.call hb; clear hb))
      go_ret
      exact ⟨by show Ending.returned (.bool (decide (N1 ≤ N2))) = _; rw [decide_eq_true HLE.out], S.below⟩
    · obtain ⟨r, hr⟩ : ∃ r, apR xs (eds l) = r := ⟨_, rfl⟩
      obtain ⟨z, hzz⟩ : ∃ z, r.getD [] = z := ⟨_, rfl⟩
      obtain ⟨i1, hi1⟩ : ∃ b, r.isSome = b := ⟨_, rfl⟩
      obtain ⟨s1, hs1⟩ : ∃ b, decide (ys = z) = b := ⟨_, rfl⟩
      have hcase : (i1 = false ∧ s1 = true) ∨ (i1 = false ∧ s1 = false) ∨ (i1 = true ∧ s1 = false) := by
        cases i1 <;> cases s1 <;> simp
        rw [Option.isSome_iff_exists] at hi1
        obtain ⟨y, rfl⟩ := hi1
        exact hz (by rw [hr, of_decide_eq_true hs1, ← hzz]; rfl)
      have HR := Kp.mk hr
      have HZ := Kp.mk hzz
      have HI1 := Kp.mk hi1
      have HSM := Kp.mk hs1
      have HS1 : Kp (∀ e ∈ l, e.2.2.2.2.length ≤ 1000000) := ⟨fun e he => Nat.le_trans (SL.out e he) (by omega)⟩
      clear hz hr hzz hi1 hs1 hN1 ht htt hl1 tq
      rcases hcase with ⟨rfl, rfl⟩ | ⟨rfl, rfl⟩ | ⟨rfl, rfl⟩
      all_goals
        go_enter Try.func10, Try.ntmps10
        go_wp2_with (first
          | (go_at_call 11; refine (awake4_any _).mono ?_; rintro e w1 ⟨rfl, hb⟩; replace S := S.call hb; clear hb)
          | (go_at_call_of 12 A; refine (light_any xs A _ 60 _ (S.ln me1)).mono ?_; rintro e w1 ⟨rfl, rfl⟩; rw [Lxs.out])
          | (go_at_call_of 12 B; refine (light_any ys B _ 60 _ (S.ln me0)).mono ?_; rintro e w1 ⟨rfl, rfl⟩; rw [Lys.out])
          | (go_at_call 16; refine (few_both l _ _ _ _ Lf.out (S.get me2) (by omega)).mono ?_; rintro e w1 ⟨rfl, hb⟩; replace S := S.call hb; clear hb)
          | (go_at_call 14; have _t := T1; refine (edits_any xs ys _ _ _ _ _ (S.ln me1) (S.ln me0) (by omega) (by omega) (by assumption) (by assumption)).mono ?_; rintro e w1 ⟨C1, k1, l1, rfl, he1, -, -, hF, hb⟩; replace S := S.made hb hF; have hl1 : l1.length ≤ xs.length + 1 := (by rw [← eds_length, he1]; exact edits_length _ _); have HE1 := Kp.mk he1; clear hF hb he1 T1 _t)
          | (go_at_call_of 20 C1; refine (cost_nat l1 _ _ _ (S.get me0) N1 (by rw [HE1.out]; exact HN1.out) (by omega) (by omega)).mono ?_; rintro e w1 ⟨rfl, hb⟩; replace S := S.call hb; clear hb)
          | (go_at_call 22; refine (many_any xs ys _ _ _ _ _ (S.ln me2) (S.ln me1) (by omega) (by omega)).mono ?_; rintro e w1 ⟨rfl, hb⟩; rw [HT.out]; replace S := S.call hb; clear hb)
          | (go_at_call 17; refine (dapply_gen _ l _ _ _ _ _ _ z _ HR.out HZ.out HI1.out (S.ln me2) ((S.get me3) (by omega)) (by omega) (by omega) HS1.out (by assumption) (by assumption)).mono ?_; rintro e w1 ⟨D1, r1, rfl, hF, hb⟩; replace S := S.made hb hF; clear hF hb)
          | (go_at_call_of 19 D1; refine (same_at _ _ _ _ _ _ _ _ _ _ rfl rfl HSM.out (S.ln me2) (S.ln me0) (by omega)).mono ?_; rintro e w1 ⟨rfl, hb⟩; replace S := S.call hb; clear hb))
        go_ret
        exact ⟨rfl, S.below⟩
  · have hbb : (bxs = false) ∨ (bxs = true ∧ bys = false) ∨ (bxs = true ∧ bys = true ∧ bf = false) := by
      clear S lxs Lxs lys Lys lf Lf
      cases bxs <;> cases bys <;> cases bf <;> simp_all
    clear hall lxs lys lf
    rcases hbb with rfl | ⟨rfl, rfl⟩ | ⟨rfl, rfl, rfl⟩
    all_goals
      go_enter Try.func10, Try.ntmps10
      go_wp2_with (first
        | (go_at_call 11; refine (awake4_any _).mono ?_; rintro e w1 ⟨rfl, hb⟩; replace S := S.call hb; clear hb)
        | (go_at_call_of 12 A; refine (light_any xs A _ 60 _ (S.ln me1)).mono ?_; rintro e w1 ⟨rfl, rfl⟩; rw [Lxs.out])
        | (go_at_call_of 12 B; refine (light_any ys B _ 60 _ (S.ln me0)).mono ?_; rintro e w1 ⟨rfl, rfl⟩; rw [Lys.out])
        | (go_at_call 16; refine (few_both l _ _ _ _ Lf.out (S.get me2) (by omega)).mono ?_; rintro e w1 ⟨rfl, hb⟩; replace S := S.call hb; clear hb))
      go_ret
      exact ⟨rfl, S.below⟩
end Go.Proofs.Ytgbkbcdplcehmaa
