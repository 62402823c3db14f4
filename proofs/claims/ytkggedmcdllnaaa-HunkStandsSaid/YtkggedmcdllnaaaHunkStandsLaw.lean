/- HunkStands: a hunk that may be changes a list just if its Old lines stand there; then it has as many lines more as New has more than Old: the walk of the law. -/
import Derived.Test.YtkggedmcdllnaaaAwake5
import Derived.Test.YtkggedmcdllnaaaRef5
namespace Go.Proofs.Ytkggedmcdllnaaa
open Go.RowKit

set_option linter.unusedSimpArgs false in
set_option maxRecDepth 100000 in
set_option maxHeartbeats 4000000 in
theorem hunkStands_any (l : List ByteArray) (Z : Option Addr) (cz : Nat) (p : Int) (xs ys : List ByteArray) (A B : Option Addr) (c d : Nat) (w : World)
    (_ : l.length ≤ cz) (_ : cz ≤ 9223372036854775807) (hZ : SlS w.heap.size w Z l) (_ : -9223372036854775808 ≤ p) (_ : p ≤ 9223372036854775807) (_ : xs.length ≤ c) (_ : c ≤ 9223372036854775807) (hA : SlS w.heap.size w A xs) (_ : ys.length ≤ d) (_ : d ≤ 9223372036854775807) (hB : SlS w.heap.size w B ys) :
    Calls Try.prog 6 #[.slice Z l.length cz, .agg #[.int .i64 p, .slice A xs.length c, .slice B ys.length d]] w fun e w' => e = .returned (.bool true) ∧ Below w.heap.size w w' := by
  have S := (((St.start w).add hZ).add hA).add hB
  obtain ⟨bl, ll⟩ : ∃ b, light l 300 = b := ⟨_, rfl⟩
  have Ll := Kp.mk ll
  obtain ⟨bp, lp⟩ : ∃ b, light5 xs ys = b := ⟨_, rfl⟩
  have Lp := Kp.mk lp
  clear hZ hA hB
  by_cases hall : bl = true ∧ bp = true
  · obtain ⟨rfl, rfl⟩ := hall
    obtain ⟨nxs, nys, sxs, sys⟩ := light5_out lp
    have Sxs := Kp.mk sxs
    have Sys := Kp.mk sys
    clear sxs sys lp
    have nl := light_len ll
    have Sl := Kp.mk (light_mem ll)
    clear ll
    cases hbm : hMay p xs ys with
    | false =>
      have HM := Kp.mk hbm
      clear hbm
      go_enter Try.func6, Try.ntmps6
      go_wp2_with (first
        | (with_reducible show wpList _ _ _ ({ dst := _, op := .box 24 _, type := _, pos := _, after := _, guard := none } :: _) _ _; refine wpList_hk_box rfl _ rfl _ _ _ rfl S ?_; clear S; intro g w1 S)
        | (with_reducible show wpList _ _ _ ({ dst := _, op := .load 24 _, type := _, pos := _, after := _, guard := none } :: _) _ _; refine wpList_hk_load rfl _ rfl _ rfl S _ _ _ _ _ (by first | exact ix0) ?_)
        | (with_reducible show wpList _ _ _ ({ dst := _, op := .load 24 _, type := _, pos := _, after := _, guard := some _ } :: _) _ _; refine wpList_hk_loadg rfl _ rfl _ rfl S _ _ _ _ _ (by first | exact ix0) ?_)
        | (with_reducible show wpList _ _ _ ({ dst := _, op := .load _ _, type := _, pos := _, after := _, guard := none } :: _) _ _; refine wpList_hk_field rfl _ _ rfl (by first | exact Or.inl rfl | exact Or.inr rfl) _ _ rfl S _ _ _ (by first | exact ix0) _ rfl ?_)
        | (with_reducible show wpList _ _ _ ({ dst := _, op := .load _ _, type := _, pos := _, after := _, guard := some _ } :: _) _ _; refine wpList_hk_fieldg rfl _ _ rfl (by first | exact Or.inl rfl | exact Or.inr rfl) _ _ rfl S _ _ _ (by first | exact ix0) _ rfl ?_)
        | (go_at_call 8; refine (awake5_any _).mono ?_; rintro e w1 ⟨rfl, hb⟩; replace S := S.call hb; clear hb)
        | (go_at_call_of 10 p; refine (light5_any p xs ys _ _ _ _ _ (S.ln mm1) (S.ln mm0)).mono ?_; rintro e w1 ⟨rfl, hb⟩; rw [Lp.out]; replace S := S.call hb; clear hb)
        | (go_at_call_of 9 Z; refine (light_any l Z _ 300 _ (S.ln mm2)).mono ?_; rintro e w1 ⟨rfl, rfl⟩; rw [Ll.out])
        | (go_at_call_of 13 p; refine (hmay_any _ _ _ _ _ _ _ _ _ _ rfl rfl (S.ln mm1) (S.ln mm0) (by omega) (by omega) Sxs.out Sys.out).mono ?_; rintro e w1 ⟨rfl, hb⟩; rw [HM.out]; replace S := S.call hb; clear hb))
      go_ret
      exact ⟨rfl, S.below⟩
    | true =>
      have HM := Kp.mk hbm
      obtain ⟨⟨a1, a2⟩, -⟩ := hMay_out hbm
      obtain ⟨m, hm⟩ : ∃ m, apL l p xs ys = m := ⟨_, rfl⟩
      have hml := apL_le l p xs ys
      have hst := ap_stands (l := l) hbm
      rw [hm] at hml hst
      have HL := Kp.mk hm
      clear hbm hm
      rcases hst with ⟨g1, g2, g3, g4⟩ | ⟨g1, g2, rfl⟩
      · have HS := Kp.mk g1
        have HE := Kp.mk g2
        have HS2 := Kp.mk g4
        have t1 : ((m.length : Int) == (l.length : Int) + (ys.length : Int) - (xs.length : Int)) = true := beq_iff_eq.2 (by omega)
        have v1 : IntKind.i64.wrap ((l.length : Int) + (ys.length : Int)) = (l.length : Int) + (ys.length : Int) := IntWalk.i64_in _ (by omega)
        have v2 : IntKind.i64.wrap ((l.length : Int) + (ys.length : Int) - (xs.length : Int)) = (l.length : Int) + (ys.length : Int) - (xs.length : Int) := IntWalk.i64_in _ (by omega)
        clear g1 g2 g3 g4
        go_enter Try.func6, Try.ntmps6
        go_wp2_with (first
          | (with_reducible show wpList _ _ _ ({ dst := _, op := .box 24 _, type := _, pos := _, after := _, guard := none } :: _) _ _; refine wpList_hk_box rfl _ rfl _ _ _ rfl S ?_; clear S; intro g w1 S)
          | (with_reducible show wpList _ _ _ ({ dst := _, op := .load 24 _, type := _, pos := _, after := _, guard := none } :: _) _ _; refine wpList_hk_load rfl _ rfl _ rfl S _ _ _ _ _ (by first | exact ix0) ?_)
          | (with_reducible show wpList _ _ _ ({ dst := _, op := .load 24 _, type := _, pos := _, after := _, guard := some _ } :: _) _ _; refine wpList_hk_loadg rfl _ rfl _ rfl S _ _ _ _ _ (by first | exact ix0) ?_)
          | (with_reducible show wpList _ _ _ ({ dst := _, op := .load _ _, type := _, pos := _, after := _, guard := none } :: _) _ _; refine wpList_hk_field rfl _ _ rfl (by first | exact Or.inl rfl | exact Or.inr rfl) _ _ rfl S _ _ _ (by first | exact ix0) _ rfl ?_)
          | (with_reducible show wpList _ _ _ ({ dst := _, op := .load _ _, type := _, pos := _, after := _, guard := some _ } :: _) _ _; refine wpList_hk_fieldg rfl _ _ rfl (by first | exact Or.inl rfl | exact Or.inr rfl) _ _ rfl S _ _ _ (by first | exact ix0) _ rfl ?_)
          | (go_at_call 8; refine (awake5_any _).mono ?_; rintro e w1 ⟨rfl, hb⟩; replace S := S.call hb; clear hb)
          | (go_at_call_of 10 p; refine (light5_any p xs ys _ _ _ _ _ (S.ln mm1) (S.ln mm0)).mono ?_; rintro e w1 ⟨rfl, hb⟩; rw [Lp.out]; replace S := S.call hb; clear hb)
          | (go_at_call_of 9 Z; refine (light_any l Z _ 300 _ (S.ln mm2)).mono ?_; rintro e w1 ⟨rfl, rfl⟩; rw [Ll.out])
          | (go_at_call_of 13 p; refine (hmay_any _ _ _ _ _ _ _ _ _ _ rfl rfl (S.ln mm1) (S.ln mm0) (by omega) (by omega) Sxs.out Sys.out).mono ?_; rintro e w1 ⟨rfl, hb⟩; rw [HM.out]; replace S := S.call hb; clear hb)
          | (go_at_call_of 14 Z; refine (apply_any l _ xs ys _ _ _ _ _ _ _ _ _ HE.out HL.out (by assumption) (S.ln mm2) (S.ln mm1) (S.ln mm0) (by omega) (by omega) (by omega) Sxs.out Sys.out).mono ?_; rintro e w1 ⟨F1, r1, rfl, qF1, -, hF, hb⟩; replace S := (S.call hb).add0 hF; clear hb hF)
          | (go_at_call_of 20 F1; refine (At_any m ys _ _ _ _ _ _ _ true _ rfl rfl HS2.out qF1 (S.ln mm0) (S.ln mm1) (by omega) (by omega) (by omega) (by omega)).mono ?_; rintro e w1 ⟨rfl, hb⟩; replace S := S.call hb; clear hb)
          | (go_at_call_of 20 Z; refine (At_any l xs _ _ _ _ _ _ _ true _ rfl rfl HS.out (by assumption) (S.ln mm3) (S.ln mm2) (by omega) (by omega) (by omega) (by omega)).mono ?_; rintro e w1 ⟨rfl, hb⟩; replace S := S.call hb; clear hb))
        go_ret
        exact ⟨rfl, S.below⟩
      · have HS := Kp.mk g1
        have HE := Kp.mk g2
        clear g1 g2
        go_enter Try.func6, Try.ntmps6
        go_wp2_with (first
          | (with_reducible show wpList _ _ _ ({ dst := _, op := .box 24 _, type := _, pos := _, after := _, guard := none } :: _) _ _; refine wpList_hk_box rfl _ rfl _ _ _ rfl S ?_; clear S; intro g w1 S)
          | (with_reducible show wpList _ _ _ ({ dst := _, op := .load 24 _, type := _, pos := _, after := _, guard := none } :: _) _ _; refine wpList_hk_load rfl _ rfl _ rfl S _ _ _ _ _ (by first | exact ix0) ?_)
          | (with_reducible show wpList _ _ _ ({ dst := _, op := .load 24 _, type := _, pos := _, after := _, guard := some _ } :: _) _ _; refine wpList_hk_loadg rfl _ rfl _ rfl S _ _ _ _ _ (by first | exact ix0) ?_)
          | (with_reducible show wpList _ _ _ ({ dst := _, op := .load _ _, type := _, pos := _, after := _, guard := none } :: _) _ _; refine wpList_hk_field rfl _ _ rfl (by first | exact Or.inl rfl | exact Or.inr rfl) _ _ rfl S _ _ _ (by first | exact ix0) _ rfl ?_)
          | (with_reducible show wpList _ _ _ ({ dst := _, op := .load _ _, type := _, pos := _, after := _, guard := some _ } :: _) _ _; refine wpList_hk_fieldg rfl _ _ rfl (by first | exact Or.inl rfl | exact Or.inr rfl) _ _ rfl S _ _ _ (by first | exact ix0) _ rfl ?_)
          | (go_at_call 8; refine (awake5_any _).mono ?_; rintro e w1 ⟨rfl, hb⟩; replace S := S.call hb; clear hb)
          | (go_at_call_of 10 p; refine (light5_any p xs ys _ _ _ _ _ (S.ln mm1) (S.ln mm0)).mono ?_; rintro e w1 ⟨rfl, hb⟩; rw [Lp.out]; replace S := S.call hb; clear hb)
          | (go_at_call_of 9 Z; refine (light_any l Z _ 300 _ (S.ln mm2)).mono ?_; rintro e w1 ⟨rfl, rfl⟩; rw [Ll.out])
          | (go_at_call_of 13 p; refine (hmay_any _ _ _ _ _ _ _ _ _ _ rfl rfl (S.ln mm1) (S.ln mm0) (by omega) (by omega) Sxs.out Sys.out).mono ?_; rintro e w1 ⟨rfl, hb⟩; rw [HM.out]; replace S := S.call hb; clear hb)
          | (go_at_call_of 14 Z; refine (apply_any l _ xs ys _ _ _ _ _ _ _ _ _ HE.out HL.out (by assumption) (S.ln mm2) (S.ln mm1) (S.ln mm0) (by omega) (by omega) (by omega) Sxs.out Sys.out).mono ?_; rintro e w1 ⟨F1, r1, rfl, qF1, -, hF, hb⟩; replace S := (S.call hb).add0 hF; clear hb hF)
          | (go_at_call_of 20 Z; refine (At_any l xs _ _ _ _ _ _ _ false _ rfl rfl HS.out (by assumption) (S.ln mm3) (S.ln mm2) (by omega) (by omega) (by omega) (by omega)).mono ?_; rintro e w1 ⟨rfl, hb⟩; replace S := S.call hb; clear hb))
        go_ret
        exact ⟨rfl, S.below⟩
  · have hbb : (bl = false) ∨ (bl = true ∧ bp = false) := by
      clear S ll Ll lp Lp
      cases bl <;> cases bp <;> simp_all
    clear hall ll lp
    rcases hbb with rfl | ⟨rfl, rfl⟩
    all_goals
      go_enter Try.func6, Try.ntmps6
      go_wp2_with (first
        | (with_reducible show wpList _ _ _ ({ dst := _, op := .box 24 _, type := _, pos := _, after := _, guard := none } :: _) _ _; refine wpList_hk_box rfl _ rfl _ _ _ rfl S ?_; clear S; intro g w1 S)
        | (with_reducible show wpList _ _ _ ({ dst := _, op := .load 24 _, type := _, pos := _, after := _, guard := none } :: _) _ _; refine wpList_hk_load rfl _ rfl _ rfl S _ _ _ _ _ (by first | exact ix0) ?_)
        | (go_at_call 8; refine (awake5_any _).mono ?_; rintro e w1 ⟨rfl, hb⟩; replace S := S.call hb; clear hb)
        | (go_at_call_of 10 p; refine (light5_any p xs ys _ _ _ _ _ (S.ln mm1) (S.ln mm0)).mono ?_; rintro e w1 ⟨rfl, hb⟩; rw [Lp.out]; replace S := S.call hb; clear hb)
        | (go_at_call_of 9 Z; refine (light_any l Z _ 300 _ (S.ln mm2)).mono ?_; rintro e w1 ⟨rfl, rfl⟩; rw [Ll.out]))
      go_ret
      exact ⟨rfl, S.below⟩
end Go.Proofs.Ytkggedmcdllnaaa
