/- SwapTurns: two pass one another just if, turned, they do, in the other order; and what they are then is turned, too: the walk of the law. -/
import Derived.Test.YtnepgecdnhiokaaAwake6
import Derived.Test.YtnepgecdnhiokaaSwapB
import Derived.Test.YtnepgecdnhiokaaHkC
import Derived.Test.YtnepgecdnhiokaaSwapTurnsA
import Derived.Test.YtnepgecdnhiokaaSwapTurnsB
namespace Go.Proofs.Ytnepgecdnhiokaa
open Go.RowKit

set_option maxRecDepth 100000 in
set_option maxHeartbeats 2000000 in
theorem swapTurns_any (p : Int) (xs ys : List ByteArray) (A B : Option Addr) (c d : Nat) (q : Int) (us vs : List ByteArray) (C D : Option Addr) (c' d' : Nat) (w : World)
    (_ : -9223372036854775808 ≤ p) (_ : p ≤ 9223372036854775807) (_ : xs.length ≤ c) (_ : c ≤ 9223372036854775807) (hA : SlS w.heap.size w A xs) (_ : ys.length ≤ d) (_ : d ≤ 9223372036854775807) (hB : SlS w.heap.size w B ys) (_ : -9223372036854775808 ≤ q) (_ : q ≤ 9223372036854775807) (_ : us.length ≤ c') (_ : c' ≤ 9223372036854775807) (hC : SlS w.heap.size w C us) (_ : vs.length ≤ d') (_ : d' ≤ 9223372036854775807) (hD : SlS w.heap.size w D vs) :
    Calls Try.prog 8 #[.agg #[.int .i64 p, .slice A xs.length c, .slice B ys.length d], .agg #[.int .i64 q, .slice C us.length c', .slice D vs.length d']] w fun e w' => e = .returned (.bool true) ∧ Below w.heap.size w w' := by
  have S := ((((St.start w).add hA).add hB).add hC).add hD
  obtain ⟨bp, lp⟩ : ∃ b, light5 xs ys = b := ⟨_, rfl⟩
  have Lp := Kp.mk lp
  obtain ⟨bq, lq⟩ : ∃ b, light5 us vs = b := ⟨_, rfl⟩
  have Lq := Kp.mk lq
  clear hA hB hC hD
  by_cases hall : bp = true ∧ bq = true
  · obtain ⟨rfl, rfl⟩ := hall
    obtain ⟨nxs, nys, sxs, sys⟩ := light5_out lp
    have Sxs := Kp.mk sxs
    have Sys := Kp.mk sys
    clear sxs sys lp
    obtain ⟨nus, nvs, sus, svs⟩ := light5_out lq
    have Sus := Kp.mk sus
    have Svs := Kp.mk svs
    clear sus svs lq
    by_cases hp : p ≤ 524288
    · by_cases hq : q ≤ 524288
      · have hT := @passX_turn p q xs ys us vs
        cases hR : passX p xs ys q us vs with
        | none =>
          rw [hR] at hT
          have HT : Kp (passX q vs us p ys xs = none) := ⟨hT⟩
          have HR := Kp.mk hR
          clear hR hT
          exact turns_A p xs ys A B c d q us vs C D c' d' w (by assumption) (by assumption) (by assumption) (by assumption) (by assumption) (by assumption) (by assumption) (by assumption) (by assumption) (by assumption) (by assumption) (by assumption) S Lp Lq nxs nys nus nvs Sxs Sys Sus Svs hp hq HR HT
        | some z =>
          rw [hR] at hT
          have HT : Kp (passX q vs us p ys xs = some (z.2, z.1)) := ⟨hT⟩
          obtain ⟨X, hX⟩ : ∃ X, p + z.1 = X := ⟨_, rfl⟩
          obtain ⟨Y, hY⟩ : ∃ Y, q + z.2 = Y := ⟨_, rfl⟩
          have HR := Kp.mk hR
          have HX := Kp.mk hX
          have HY := Kp.mk hY
          clear hR hT hX hY
          exact turns_B p xs ys A B c d q us vs C D c' d' w (by assumption) (by assumption) (by assumption) (by assumption) (by assumption) (by assumption) (by assumption) (by assumption) (by assumption) (by assumption) (by assumption) (by assumption) S Lp Lq nxs nys nus nvs Sxs Sys Sus Svs hp hq z X Y HR HT HX HY
      · go_enter Try.func8, Try.ntmps8
        go_wp2_with (first
          | (with_reducible show wpList _ _ _ ({ dst := _, op := .box 24 _, type := _, pos := _, after := _, guard := none } :: _) _ _; refine wpList_hk_box rfl _ rfl _ _ _ rfl S ?_; clear S; intro g w1 S)
          | (with_reducible show wpList _ _ _ ({ dst := _, op := .load 24 _, type := _, pos := _, after := _, guard := none } :: _) _ _; refine wpList_hk_load rfl _ rfl _ rfl S _ _ _ _ _ (by first | exact ix0 | exact ix1 | exact ix2 | exact ix3 | exact ix4 | exact ix5) ?_)
          | (with_reducible show wpList _ _ _ ({ dst := _, op := .load 24 _, type := _, pos := _, after := _, guard := some _ } :: _) _ _; refine wpList_hk_loadg rfl _ rfl _ rfl S _ _ _ _ _ (by first | exact ix0 | exact ix1 | exact ix2 | exact ix3 | exact ix4 | exact ix5) ?_)
          | (with_reducible show wpList _ _ _ ({ dst := _, op := .alloc 24, type := _, pos := _, after := _, guard := none } :: _) _ _; refine wpList_hk_alloc rfl rfl S ?_; clear S; intro g w1 S)
          | (with_reducible show wpList _ _ _ ({ dst := _, op := .store 24 _ _, type := _, pos := _, after := _, guard := none } :: _) _ _; refine wpList_hk_store rfl _ _ rfl _ rfl _ _ _ rfl S _ _ _ _ _ (by first | exact ix0 | exact ix1 | exact ix2 | exact ix3 | exact ix4 | exact ix5) rfl rfl rfl ?_; clear S; intro w1 S; simp only [List.set] at S)
          | (go_at_call 10; refine (awake6_any _).mono ?_; rintro e w1 ⟨rfl, hb⟩; replace S := S.call hb; clear hb)
          | (go_at_call_of 11 p; refine (light5_any p xs ys _ _ _ _ _ (S.ln mm3) (S.ln mm2)).mono ?_; rintro e w1 ⟨rfl, hb⟩; rw [Lp.out]; replace S := S.call hb; clear hb)
          | (go_at_call_of 11 q; refine (light5_any q us vs _ _ _ _ _ (S.ln mm1) (S.ln mm0)).mono ?_; rintro e w1 ⟨rfl, hb⟩; rw [Lq.out]; replace S := S.call hb; clear hb; have k0 := (S.hk ix1).c0; have k1 := (S.hk ix0).c0))
        go_ret
        exact ⟨rfl, S.below⟩
    · go_enter Try.func8, Try.ntmps8
      go_wp2_with (first
        | (with_reducible show wpList _ _ _ ({ dst := _, op := .box 24 _, type := _, pos := _, after := _, guard := none } :: _) _ _; refine wpList_hk_box rfl _ rfl _ _ _ rfl S ?_; clear S; intro g w1 S)
        | (with_reducible show wpList _ _ _ ({ dst := _, op := .load 24 _, type := _, pos := _, after := _, guard := none } :: _) _ _; refine wpList_hk_load rfl _ rfl _ rfl S _ _ _ _ _ (by first | exact ix0 | exact ix1 | exact ix2 | exact ix3 | exact ix4 | exact ix5) ?_)
        | (with_reducible show wpList _ _ _ ({ dst := _, op := .load 24 _, type := _, pos := _, after := _, guard := some _ } :: _) _ _; refine wpList_hk_loadg rfl _ rfl _ rfl S _ _ _ _ _ (by first | exact ix0 | exact ix1 | exact ix2 | exact ix3 | exact ix4 | exact ix5) ?_)
        | (with_reducible show wpList _ _ _ ({ dst := _, op := .alloc 24, type := _, pos := _, after := _, guard := none } :: _) _ _; refine wpList_hk_alloc rfl rfl S ?_; clear S; intro g w1 S)
        | (with_reducible show wpList _ _ _ ({ dst := _, op := .store 24 _ _, type := _, pos := _, after := _, guard := none } :: _) _ _; refine wpList_hk_store rfl _ _ rfl _ rfl _ _ _ rfl S _ _ _ _ _ (by first | exact ix0 | exact ix1 | exact ix2 | exact ix3 | exact ix4 | exact ix5) rfl rfl rfl ?_; clear S; intro w1 S; simp only [List.set] at S)
        | (go_at_call 10; refine (awake6_any _).mono ?_; rintro e w1 ⟨rfl, hb⟩; replace S := S.call hb; clear hb)
        | (go_at_call_of 11 p; refine (light5_any p xs ys _ _ _ _ _ (S.ln mm3) (S.ln mm2)).mono ?_; rintro e w1 ⟨rfl, hb⟩; rw [Lp.out]; replace S := S.call hb; clear hb)
        | (go_at_call_of 11 q; refine (light5_any q us vs _ _ _ _ _ (S.ln mm1) (S.ln mm0)).mono ?_; rintro e w1 ⟨rfl, hb⟩; rw [Lq.out]; replace S := S.call hb; clear hb; have k0 := (S.hk ix1).c0; have k1 := (S.hk ix0).c0))
      go_ret
      exact ⟨rfl, S.below⟩
  · have hbb : (bp = false) ∨ (bp = true ∧ bq = false) := by
      clear S lp Lp lq Lq
      cases bp <;> cases bq <;> simp_all
    clear hall lp lq
    rcases hbb with rfl | ⟨rfl, rfl⟩
    all_goals
      go_enter Try.func8, Try.ntmps8
      go_wp2_with (first
        | (with_reducible show wpList _ _ _ ({ dst := _, op := .box 24 _, type := _, pos := _, after := _, guard := none } :: _) _ _; refine wpList_hk_box rfl _ rfl _ _ _ rfl S ?_; clear S; intro g w1 S)
        | (with_reducible show wpList _ _ _ ({ dst := _, op := .load 24 _, type := _, pos := _, after := _, guard := none } :: _) _ _; refine wpList_hk_load rfl _ rfl _ rfl S _ _ _ _ _ (by first | exact ix0 | exact ix1) ?_)
        | (go_at_call 10; refine (awake6_any _).mono ?_; rintro e w1 ⟨rfl, hb⟩; replace S := S.call hb; clear hb)
        | (go_at_call_of 11 p; refine (light5_any p xs ys _ _ _ _ _ (S.ln mm3) (S.ln mm2)).mono ?_; rintro e w1 ⟨rfl, hb⟩; rw [Lp.out]; replace S := S.call hb; clear hb)
        | (go_at_call_of 11 q; refine (light5_any q us vs _ _ _ _ _ (S.ln mm1) (S.ln mm0)).mono ?_; rintro e w1 ⟨rfl, hb⟩; rw [Lq.out]; replace S := S.call hb; clear hb; have k0 := (S.hk ix1).c0; have k1 := (S.hk ix0).c0))
      go_ret
      exact ⟨rfl, S.below⟩
end Go.Proofs.Ytnepgecdnhiokaa
