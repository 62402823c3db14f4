/- SwapTouch: two that touch do not pass: the walk of the law. -/
import Derived.Test.YtnepgecdnhiokaaAwake6
import Derived.Test.YtnepgecdnhiokaaSwapB
import Derived.Test.YtnepgecdnhiokaaHkC
namespace Go.Proofs.Ytnepgecdnhiokaa
open Go.RowKit

set_option maxRecDepth 100000 in
set_option maxHeartbeats 2000000 in
theorem swapTouch_any (p : Int) (xs ys : List ByteArray) (A B : Option Addr) (c d : Nat) (q : Int) (us vs : List ByteArray) (C D : Option Addr) (c' d' : Nat) (w : World)
    (_ : -9223372036854775808 ≤ p) (_ : p ≤ 9223372036854775807) (_ : xs.length ≤ c) (_ : c ≤ 9223372036854775807) (hA : SlS w.heap.size w A xs) (_ : ys.length ≤ d) (_ : d ≤ 9223372036854775807) (hB : SlS w.heap.size w B ys) (_ : -9223372036854775808 ≤ q) (_ : q ≤ 9223372036854775807) (_ : us.length ≤ c') (_ : c' ≤ 9223372036854775807) (hC : SlS w.heap.size w C us) (_ : vs.length ≤ d') (_ : d' ≤ 9223372036854775807) (hD : SlS w.heap.size w D vs) :
    Calls Try.prog 5 #[.agg #[.int .i64 p, .slice A xs.length c, .slice B ys.length d], .agg #[.int .i64 q, .slice C us.length c', .slice D vs.length d']] w fun e w' => e = .returned (.bool true) ∧ Below w.heap.size w w' := by
  have S := ((((St.start w).add hA).add hB).add hC).add hD
  obtain ⟨bp, lp⟩ : ∃ b, light5 xs ys = b := ⟨_, rfl⟩
  have Lp := Kp.mk lp
  obtain ⟨bq, lq⟩ : ∃ b, light5 us vs = b := ⟨_, rfl⟩
  have Lq := Kp.mk lq
  clear hA hB hC hD
  by_cases hall : bp = true ∧ bq = true
  · obtain ⟨rfl, rfl⟩ := hall
    obtain ⟨nxs, nys, sxs, sys⟩ := light5_out lp
    have Sxs := Kp.mk sxs
    have Sys := Kp.mk sys
    clear sxs sys lp
    obtain ⟨nus, nvs, sus, svs⟩ := light5_out lq
    have Sus := Kp.mk sus
    have Svs := Kp.mk svs
    clear sus svs lq
    by_cases g1 : q < p
    · go_enter Try.func5, Try.ntmps5
      go_wp2_with (first
        | (with_reducible show wpList _ _ _ ({ dst := _, op := .box 24 _, type := _, pos := _, after := _, guard := none } :: _) _ _; refine wpList_hk_box rfl _ rfl _ _ _ rfl S ?_; clear S; intro g w1 S)
        | (with_reducible show wpList _ _ _ ({ dst := _, op := .load 24 _, type := _, pos := _, after := _, guard := none } :: _) _ _; refine wpList_hk_load rfl _ rfl _ rfl S _ _ _ _ _ (by first | exact ix0 | exact ix1 | exact ix2 | exact ix3) ?_)
        | (with_reducible show wpList _ _ _ ({ dst := _, op := .alloc 24, type := _, pos := _, after := _, guard := none } :: _) _ _; refine wpList_hk_alloc rfl rfl S ?_; clear S; intro g w1 S)
        | (with_reducible show wpList _ _ _ ({ dst := _, op := .store 24 _ _, type := _, pos := _, after := _, guard := none } :: _) _ _; refine wpList_hk_store rfl _ _ rfl _ rfl _ _ _ rfl S _ _ _ _ _ (by first | exact ix0 | exact ix1 | exact ix2 | exact ix3) rfl rfl rfl ?_; clear S; intro w1 S; simp only [List.set] at S)
        | (go_at_call 10; refine (awake6_any _).mono ?_; rintro e w1 ⟨rfl, hb⟩; replace S := S.call hb; clear hb)
        | (go_at_call_of 11 p; refine (light5_any p xs ys _ _ _ _ _ (S.ln mm3) (S.ln mm2)).mono ?_; rintro e w1 ⟨rfl, hb⟩; rw [Lp.out]; replace S := S.call hb; clear hb)
        | (go_at_call_of 11 q; refine (light5_any q us vs _ _ _ _ _ (S.ln mm1) (S.ln mm0)).mono ?_; rintro e w1 ⟨rfl, hb⟩; rw [Lq.out]; replace S := S.call hb; clear hb; have k0 := (S.hk ix1).c0; have k1 := (S.hk ix1).c2; have k2 := (S.hk ix0).c0))
      go_ret
      exact ⟨rfl, S.below⟩
    · by_cases g2 : 0 ≤ p ∧ p ≤ 1048576
      · obtain ⟨g3, g4⟩ := g2
        by_cases g5 : p + (ys.length : Int) < q
        · go_enter Try.func5, Try.ntmps5
          go_wp2_with (first
            | (with_reducible show wpList _ _ _ ({ dst := _, op := .box 24 _, type := _, pos := _, after := _, guard := none } :: _) _ _; refine wpList_hk_box rfl _ rfl _ _ _ rfl S ?_; clear S; intro g w1 S)
            | (with_reducible show wpList _ _ _ ({ dst := _, op := .load 24 _, type := _, pos := _, after := _, guard := none } :: _) _ _; refine wpList_hk_load rfl _ rfl _ rfl S _ _ _ _ _ (by first | exact ix0 | exact ix1 | exact ix2 | exact ix3) ?_)
            | (with_reducible show wpList _ _ _ ({ dst := _, op := .alloc 24, type := _, pos := _, after := _, guard := none } :: _) _ _; refine wpList_hk_alloc rfl rfl S ?_; clear S; intro g w1 S)
            | (with_reducible show wpList _ _ _ ({ dst := _, op := .store 24 _ _, type := _, pos := _, after := _, guard := none } :: _) _ _; refine wpList_hk_store rfl _ _ rfl _ rfl _ _ _ rfl S _ _ _ _ _ (by first | exact ix0 | exact ix1 | exact ix2 | exact ix3) rfl rfl rfl ?_; clear S; intro w1 S; simp only [List.set] at S)
            | (go_at_call 10; refine (awake6_any _).mono ?_; rintro e w1 ⟨rfl, hb⟩; replace S := S.call hb; clear hb)
            | (go_at_call_of 11 p; refine (light5_any p xs ys _ _ _ _ _ (S.ln mm3) (S.ln mm2)).mono ?_; rintro e w1 ⟨rfl, hb⟩; rw [Lp.out]; replace S := S.call hb; clear hb)
            | (go_at_call_of 11 q; refine (light5_any q us vs _ _ _ _ _ (S.ln mm1) (S.ln mm0)).mono ?_; rintro e w1 ⟨rfl, hb⟩; rw [Lq.out]; replace S := S.call hb; clear hb; have k0 := (S.hk ix1).c0; have k1 := (S.hk ix1).c2; have k2 := (S.hk ix0).c0))
          go_ret
          exact ⟨rfl, S.below⟩
        · have hR : passX p xs ys q us vs = none := by
            cases hR : passX p xs ys q us vs with
            | none => rfl
            | some z =>
              obtain ⟨_, _, hz⟩ := passX_out hR
              rcases hz with ⟨_, _⟩ | ⟨_, _⟩ <;> omega
          have HR := Kp.mk hR
          clear hR
          go_enter Try.func5, Try.ntmps5
          go_wp2_with (first
            | (with_reducible show wpList _ _ _ ({ dst := _, op := .box 24 _, type := _, pos := _, after := _, guard := none } :: _) _ _; refine wpList_hk_box rfl _ rfl _ _ _ rfl S ?_; clear S; intro g w1 S)
            | (with_reducible show wpList _ _ _ ({ dst := _, op := .load 24 _, type := _, pos := _, after := _, guard := none } :: _) _ _; refine wpList_hk_load rfl _ rfl _ rfl S _ _ _ _ _ (by first | exact ix0 | exact ix1 | exact ix2 | exact ix3) ?_)
            | (with_reducible show wpList _ _ _ ({ dst := _, op := .alloc 24, type := _, pos := _, after := _, guard := none } :: _) _ _; refine wpList_hk_alloc rfl rfl S ?_; clear S; intro g w1 S)
            | (with_reducible show wpList _ _ _ ({ dst := _, op := .store 24 _ _, type := _, pos := _, after := _, guard := none } :: _) _ _; refine wpList_hk_store rfl _ _ rfl _ rfl _ _ _ rfl S _ _ _ _ _ (by first | exact ix0 | exact ix1 | exact ix2 | exact ix3) rfl rfl rfl ?_; clear S; intro w1 S; simp only [List.set] at S)
            | (go_at_call 10; refine (awake6_any _).mono ?_; rintro e w1 ⟨rfl, hb⟩; replace S := S.call hb; clear hb)
            | (go_at_call_of 11 p; refine (light5_any p xs ys _ _ _ _ _ (S.ln mm3) (S.ln mm2)).mono ?_; rintro e w1 ⟨rfl, hb⟩; rw [Lp.out]; replace S := S.call hb; clear hb)
            | (go_at_call_of 11 q; refine (light5_any q us vs _ _ _ _ _ (S.ln mm1) (S.ln mm0)).mono ?_; rintro e w1 ⟨rfl, hb⟩; rw [Lq.out]; replace S := S.call hb; clear hb; have k0 := (S.hk ix1).c0; have k1 := (S.hk ix1).c2; have k2 := (S.hk ix0).c0)
            | (go_at_call_of 12 p; refine (Pass_none _ _ _ _ _ _ _ _ _ _ _ _ _ _ _ HR.out (S.ln mm3) (S.ln mm2) (S.ln mm1) (S.ln mm0) (by omega) (by omega) (by omega) (by omega) Sxs.out Sys.out Sus.out Svs.out).mono ?_; rintro e w1 ⟨C1, e1, D1, e2, A1, e3, B1, e4, rfl, hb⟩; replace S := S.call hb; clear hb))
          go_ret
          exact ⟨rfl, S.below⟩
      · have g3 : p < 0 ∨ (0 ≤ p ∧ 1048576 < p) := by omega
        clear g2
        rcases g3 with g3 | ⟨g3, g4⟩
        all_goals
          go_enter Try.func5, Try.ntmps5
          go_wp2_with (first
            | (with_reducible show wpList _ _ _ ({ dst := _, op := .box 24 _, type := _, pos := _, after := _, guard := none } :: _) _ _; refine wpList_hk_box rfl _ rfl _ _ _ rfl S ?_; clear S; intro g w1 S)
            | (with_reducible show wpList _ _ _ ({ dst := _, op := .load 24 _, type := _, pos := _, after := _, guard := none } :: _) _ _; refine wpList_hk_load rfl _ rfl _ rfl S _ _ _ _ _ (by first | exact ix0 | exact ix1 | exact ix2 | exact ix3) ?_)
            | (with_reducible show wpList _ _ _ ({ dst := _, op := .alloc 24, type := _, pos := _, after := _, guard := none } :: _) _ _; refine wpList_hk_alloc rfl rfl S ?_; clear S; intro g w1 S)
            | (with_reducible show wpList _ _ _ ({ dst := _, op := .store 24 _ _, type := _, pos := _, after := _, guard := none } :: _) _ _; refine wpList_hk_store rfl _ _ rfl _ rfl _ _ _ rfl S _ _ _ _ _ (by first | exact ix0 | exact ix1 | exact ix2 | exact ix3) rfl rfl rfl ?_; clear S; intro w1 S; simp only [List.set] at S)
            | (go_at_call 10; refine (awake6_any _).mono ?_; rintro e w1 ⟨rfl, hb⟩; replace S := S.call hb; clear hb)
            | (go_at_call_of 11 p; refine (light5_any p xs ys _ _ _ _ _ (S.ln mm3) (S.ln mm2)).mono ?_; rintro e w1 ⟨rfl, hb⟩; rw [Lp.out]; replace S := S.call hb; clear hb)
            | (go_at_call_of 11 q; refine (light5_any q us vs _ _ _ _ _ (S.ln mm1) (S.ln mm0)).mono ?_; rintro e w1 ⟨rfl, hb⟩; rw [Lq.out]; replace S := S.call hb; clear hb; have k0 := (S.hk ix1).c0; have k1 := (S.hk ix1).c2; have k2 := (S.hk ix0).c0))
          all_goals
            go_ret
            exact ⟨rfl, S.below⟩
  · have hbb : (bp = false) ∨ (bp = true ∧ bq = false) := by
      clear S lp Lp lq Lq
      cases bp <;> cases bq <;> simp_all
    clear hall lp lq
    rcases hbb with rfl | ⟨rfl, rfl⟩
    all_goals
      go_enter Try.func5, Try.ntmps5
      go_wp2_with (first
        | (with_reducible show wpList _ _ _ ({ dst := _, op := .box 24 _, type := _, pos := _, after := _, guard := none } :: _) _ _; refine wpList_hk_box rfl _ rfl _ _ _ rfl S ?_; clear S; intro g w1 S)
        | (with_reducible show wpList _ _ _ ({ dst := _, op := .load 24 _, type := _, pos := _, after := _, guard := none } :: _) _ _; refine wpList_hk_load rfl _ rfl _ rfl S _ _ _ _ _ (by first | exact ix0 | exact ix1) ?_)
        | (go_at_call 10; refine (awake6_any _).mono ?_; rintro e w1 ⟨rfl, hb⟩; replace S := S.call hb; clear hb)
        | (go_at_call_of 11 p; refine (light5_any p xs ys _ _ _ _ _ (S.ln mm3) (S.ln mm2)).mono ?_; rintro e w1 ⟨rfl, hb⟩; rw [Lp.out]; replace S := S.call hb; clear hb)
        | (go_at_call_of 11 q; refine (light5_any q us vs _ _ _ _ _ (S.ln mm1) (S.ln mm0)).mono ?_; rintro e w1 ⟨rfl, hb⟩; rw [Lq.out]; replace S := S.call hb; clear hb; have k0 := (S.hk ix1).c0; have k1 := (S.hk ix1).c2; have k2 := (S.hk ix0).c0))
      go_ret
      exact ⟨rfl, S.below⟩
end Go.Proofs.Ytnepgecdnhiokaa
