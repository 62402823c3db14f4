/- SwapMoves: of two that pass just one moves, by as many lines as the other one puts there more than it takes away, or back; their lines stay: the walk of the law. -/
import Derived.Test.YtnepgecdnhiokaaAwake6
import Derived.Test.YtnepgecdnhiokaaSwapB
import Derived.Test.YtnepgecdnhiokaaHkC
namespace Go.Proofs.Ytnepgecdnhiokaa
open Go.RowKit

set_option maxRecDepth 100000 in
set_option maxHeartbeats 2000000 in
theorem swapMoves_any (p : Int) (xs ys : List ByteArray) (A B : Option Addr) (c d : Nat) (q : Int) (us vs : List ByteArray) (C D : Option Addr) (c' d' : Nat) (w : World)
    (_ : -9223372036854775808 ≤ p) (_ : p ≤ 9223372036854775807) (_ : xs.length ≤ c) (_ : c ≤ 9223372036854775807) (hA : SlS w.heap.size w A xs) (_ : ys.length ≤ d) (_ : d ≤ 9223372036854775807) (hB : SlS w.heap.size w B ys) (_ : -9223372036854775808 ≤ q) (_ : q ≤ 9223372036854775807) (_ : us.length ≤ c') (_ : c' ≤ 9223372036854775807) (hC : SlS w.heap.size w C us) (_ : vs.length ≤ d') (_ : d' ≤ 9223372036854775807) (hD : SlS w.heap.size w D vs) :
    Calls Try.prog 4 #[.agg #[.int .i64 p, .slice A xs.length c, .slice B ys.length d], .agg #[.int .i64 q, .slice C us.length c', .slice D vs.length d']] w fun e w' => e = .returned (.bool true) ∧ Below w.heap.size w w' := by
  have S := ((((St.start w).add hA).add hB).add hC).add hD
  obtain ⟨bp, lp⟩ : ∃ b, light5 xs ys = b := ⟨_, rfl⟩
  have Lp := Kp.mk lp
  obtain ⟨bq, lq⟩ : ∃ b, light5 us vs = b := ⟨_, rfl⟩
  have Lq := Kp.mk lq
  clear hA hB hC hD
  by_cases hall : bp = true ∧ bq = true
  · obtain ⟨rfl, rfl⟩ := hall
    obtain ⟨nxs, nys, sxs, sys⟩ := light5_out lp
    have Sxs := Kp.mk sxs
    have Sys := Kp.mk sys
    clear sxs sys lp
    obtain ⟨nus, nvs, sus, svs⟩ := light5_out lq
    have Sus := Kp.mk sus
    have Svs := Kp.mk svs
    clear sus svs lq
    cases hR : passX p xs ys q us vs with
    | none =>
      have HR := Kp.mk hR
      clear hR
      go_enter Try.func4, Try.ntmps4
      go_wp2_with (first
        | (with_reducible show wpList _ _ _ ({ dst := _, op := .box 24 _, type := _, pos := _, after := _, guard := none } :: _) _ _; refine wpList_hk_box rfl _ rfl _ _ _ rfl S ?_; clear S; intro g w1 S)
        | (with_reducible show wpList _ _ _ ({ dst := _, op := .load 24 _, type := _, pos := _, after := _, guard := none } :: _) _ _; refine wpList_hk_load rfl _ rfl _ rfl S _ _ _ _ _ (by first | exact ix0 | exact ix1 | exact ix2 | exact ix3) ?_)
        | (with_reducible show wpList _ _ _ ({ dst := _, op := .alloc 24, type := _, pos := _, after := _, guard := none } :: _) _ _; refine wpList_hk_alloc rfl rfl S ?_; clear S; intro g w1 S)
        | (with_reducible show wpList _ _ _ ({ dst := _, op := .store 24 _ _, type := _, pos := _, after := _, guard := none } :: _) _ _; refine wpList_hk_store rfl _ _ rfl _ rfl _ _ _ rfl S _ _ _ _ _ (by first | exact ix0 | exact ix1 | exact ix2 | exact ix3) rfl rfl rfl ?_; clear S; intro w1 S; simp only [List.set] at S)
        | (go_at_call 10; refine (awake6_any _).mono ?_; rintro e w1 ⟨rfl, hb⟩; replace S := S.call hb; clear hb)
        | (go_at_call_of 11 p; refine (light5_any p xs ys _ _ _ _ _ (S.ln mm3) (S.ln mm2)).mono ?_; rintro e w1 ⟨rfl, hb⟩; rw [Lp.out]; replace S := S.call hb; clear hb)
        | (go_at_call_of 11 q; refine (light5_any q us vs _ _ _ _ _ (S.ln mm1) (S.ln mm0)).mono ?_; rintro e w1 ⟨rfl, hb⟩; rw [Lq.out]; replace S := S.call hb; clear hb)
        | (go_at_call_of 12 p; refine (Pass_none _ _ _ _ _ _ _ _ _ _ _ _ _ _ _ HR.out (S.ln mm3) (S.ln mm2) (S.ln mm1) (S.ln mm0) (by omega) (by omega) (by omega) (by omega) Sxs.out Sys.out Sus.out Svs.out).mono ?_; rintro e w1 ⟨C1, e1, D1, e2, A1, e3, B1, e4, rfl, hb⟩; replace S := S.call hb; clear hb))
      go_ret
      exact ⟨rfl, S.below⟩
    | some z =>
      obtain ⟨m1, m2, hz⟩ := passX_out hR
      obtain ⟨⟨a1, a2⟩, -⟩ := hMay_out m1
      obtain ⟨⟨a3, a4⟩, -⟩ := hMay_out m2
      have HR := Kp.mk hR
      clear m1 m2 hR
      rcases hz with ⟨d1, z1, z2, d2⟩ | ⟨d1, z1, z2, d2⟩
      · have HX : Kp (p + z.1 = p) := ⟨by omega⟩
        obtain ⟨Y, hY⟩ : ∃ Y, q + z.2 = Y := ⟨_, rfl⟩
        have t1 : (Y == q - (ys.length : Int) + (xs.length : Int)) = true := beq_iff_eq.2 (by omega)
        obtain ⟨b2, t2⟩ : ∃ b, (Y == q) = b := ⟨_, rfl⟩
        obtain ⟨b3, t3⟩ : ∃ b, (p == p - (us.length : Int) + (vs.length : Int)) = b := ⟨_, rfl⟩
        have HY := Kp.mk hY
        clear z1 z2 d2 hY
        cases b2 <;> cases b3
        all_goals
          go_enter Try.func4, Try.ntmps4
          go_wp2_with (first
            | (with_reducible show wpList _ _ _ ({ dst := _, op := .box 24 _, type := _, pos := _, after := _, guard := none } :: _) _ _; refine wpList_hk_box rfl _ rfl _ _ _ rfl S ?_; clear S; intro g w1 S)
            | (with_reducible show wpList _ _ _ ({ dst := _, op := .load 24 _, type := _, pos := _, after := _, guard := none } :: _) _ _; refine wpList_hk_load rfl _ rfl _ rfl S _ _ _ _ _ (by first | exact ix0 | exact ix1 | exact ix2 | exact ix3) ?_)
            | (with_reducible show wpList _ _ _ ({ dst := _, op := .alloc 24, type := _, pos := _, after := _, guard := none } :: _) _ _; refine wpList_hk_alloc rfl rfl S ?_; clear S; intro g w1 S)
            | (with_reducible show wpList _ _ _ ({ dst := _, op := .store 24 _ _, type := _, pos := _, after := _, guard := none } :: _) _ _; refine wpList_hk_store rfl _ _ rfl _ rfl _ _ _ rfl S _ _ _ _ _ (by first | exact ix0 | exact ix1 | exact ix2 | exact ix3) rfl rfl rfl ?_; clear S; intro w1 S; simp only [List.set] at S; first | (have _t := S.hk ix3; have k0 := (S.hk ix0).c0; have k1 := (S.hk ix0).c1; have k2 := (S.hk ix0).c2; have k3 := (S.hk ix1).c0; have k4 := (S.hk ix1).c1; have k5 := (S.hk ix1).c2; have k6 := (S.hk ix2).c0; have k7 := (S.hk ix2).c1; have k8 := (S.hk ix2).c2; have k9 := (S.hk ix3).c0; have k10 := (S.hk ix3).c1; have k11 := (S.hk ix3).c2; clear _t) | skip)
            | (go_at_call 10; refine (awake6_any _).mono ?_; rintro e w1 ⟨rfl, hb⟩; replace S := S.call hb; clear hb)
            | (go_at_call_of 11 p; refine (light5_any p xs ys _ _ _ _ _ (S.ln mm3) (S.ln mm2)).mono ?_; rintro e w1 ⟨rfl, hb⟩; rw [Lp.out]; replace S := S.call hb; clear hb)
            | (go_at_call_of 11 q; refine (light5_any q us vs _ _ _ _ _ (S.ln mm1) (S.ln mm0)).mono ?_; rintro e w1 ⟨rfl, hb⟩; rw [Lq.out]; replace S := S.call hb; clear hb)
            | (go_at_call_of 12 p; refine (Pass_some _ _ _ _ _ _ _ _ _ _ _ _ _ _ _ _ _ _ HR.out HX.out HY.out (S.ln mm3) (S.ln mm2) (S.ln mm1) (S.ln mm0) (by omega) (by omega) (by omega) (by omega) Sxs.out Sys.out Sus.out Svs.out).mono ?_; rintro e w1 ⟨C1, e1, D1, e2, A1, e3, B1, e4, rfl, h1, h2, h3, h4, hb⟩; replace S := ((((S.call hb).add0 h1).add0 h2).add0 h3).add0 h4; clear hb h1 h2 h3 h4))
          all_goals
            go_ret
            exact ⟨rfl, S.below⟩
      · have HY : Kp (q + z.2 = q) := ⟨by omega⟩
        obtain ⟨X, hX⟩ : ∃ X, p + z.1 = X := ⟨_, rfl⟩
        have t1 : (X == p - (us.length : Int) + (vs.length : Int)) = true := beq_iff_eq.2 (by omega)
        obtain ⟨b2, t2⟩ : ∃ b, (X == p) = b := ⟨_, rfl⟩
        obtain ⟨b3, t3⟩ : ∃ b, (q == q - (ys.length : Int) + (xs.length : Int)) = b := ⟨_, rfl⟩
        have HX := Kp.mk hX
        clear z1 z2 d2 hX
        cases b2 <;> cases b3
        all_goals
          go_enter Try.func4, Try.ntmps4
          go_wp2_with (first
            | (with_reducible show wpList _ _ _ ({ dst := _, op := .box 24 _, type := _, pos := _, after := _, guard := none } :: _) _ _; refine wpList_hk_box rfl _ rfl _ _ _ rfl S ?_; clear S; intro g w1 S)
            | (with_reducible show wpList _ _ _ ({ dst := _, op := .load 24 _, type := _, pos := _, after := _, guard := none } :: _) _ _; refine wpList_hk_load rfl _ rfl _ rfl S _ _ _ _ _ (by first | exact ix0 | exact ix1 | exact ix2 | exact ix3) ?_)
            | (with_reducible show wpList _ _ _ ({ dst := _, op := .alloc 24, type := _, pos := _, after := _, guard := none } :: _) _ _; refine wpList_hk_alloc rfl rfl S ?_; clear S; intro g w1 S)
            | (with_reducible show wpList _ _ _ ({ dst := _, op := .store 24 _ _, type := _, pos := _, after := _, guard := none } :: _) _ _; refine wpList_hk_store rfl _ _ rfl _ rfl _ _ _ rfl S _ _ _ _ _ (by first | exact ix0 | exact ix1 | exact ix2 | exact ix3) rfl rfl rfl ?_; clear S; intro w1 S; simp only [List.set] at S; first | (have _t := S.hk ix3; have k0 := (S.hk ix0).c0; have k1 := (S.hk ix0).c1; have k2 := (S.hk ix0).c2; have k3 := (S.hk ix1).c0; have k4 := (S.hk ix1).c1; have k5 := (S.hk ix1).c2; have k6 := (S.hk ix2).c0; have k7 := (S.hk ix2).c1; have k8 := (S.hk ix2).c2; have k9 := (S.hk ix3).c0; have k10 := (S.hk ix3).c1; have k11 := (S.hk ix3).c2; clear _t) | skip)
            | (go_at_call 10; refine (awake6_any _).mono ?_; rintro e w1 ⟨rfl, hb⟩; replace S := S.call hb; clear hb)
            | (go_at_call_of 11 p; refine (light5_any p xs ys _ _ _ _ _ (S.ln mm3) (S.ln mm2)).mono ?_; rintro e w1 ⟨rfl, hb⟩; rw [Lp.out]; replace S := S.call hb; clear hb)
            | (go_at_call_of 11 q; refine (light5_any q us vs _ _ _ _ _ (S.ln mm1) (S.ln mm0)).mono ?_; rintro e w1 ⟨rfl, hb⟩; rw [Lq.out]; replace S := S.call hb; clear hb)
            | (go_at_call_of 12 p; refine (Pass_some _ _ _ _ _ _ _ _ _ _ _ _ _ _ _ _ _ _ HR.out HX.out HY.out (S.ln mm3) (S.ln mm2) (S.ln mm1) (S.ln mm0) (by omega) (by omega) (by omega) (by omega) Sxs.out Sys.out Sus.out Svs.out).mono ?_; rintro e w1 ⟨C1, e1, D1, e2, A1, e3, B1, e4, rfl, h1, h2, h3, h4, hb⟩; replace S := ((((S.call hb).add0 h1).add0 h2).add0 h3).add0 h4; clear hb h1 h2 h3 h4))
          all_goals
            go_ret
            exact ⟨rfl, S.below⟩
  · have hbb : (bp = false) ∨ (bp = true ∧ bq = false) := by
      clear S lp Lp lq Lq
      cases bp <;> cases bq <;> simp_all
    clear hall lp lq
    rcases hbb with rfl | ⟨rfl, rfl⟩
    all_goals
      go_enter Try.func4, Try.ntmps4
      go_wp2_with (first
        | (with_reducible show wpList _ _ _ ({ dst := _, op := .box 24 _, type := _, pos := _, after := _, guard := none } :: _) _ _; refine wpList_hk_box rfl _ rfl _ _ _ rfl S ?_; clear S; intro g w1 S)
        | (with_reducible show wpList _ _ _ ({ dst := _, op := .load 24 _, type := _, pos := _, after := _, guard := none } :: _) _ _; refine wpList_hk_load rfl _ rfl _ rfl S _ _ _ _ _ (by first | exact ix0 | exact ix1) ?_)
        | (go_at_call 10; refine (awake6_any _).mono ?_; rintro e w1 ⟨rfl, hb⟩; replace S := S.call hb; clear hb)
        | (go_at_call_of 11 p; refine (light5_any p xs ys _ _ _ _ _ (S.ln mm3) (S.ln mm2)).mono ?_; rintro e w1 ⟨rfl, hb⟩; rw [Lp.out]; replace S := S.call hb; clear hb)
        | (go_at_call_of 11 q; refine (light5_any q us vs _ _ _ _ _ (S.ln mm1) (S.ln mm0)).mono ?_; rintro e w1 ⟨rfl, hb⟩; rw [Lq.out]; replace S := S.call hb; clear hb))
      go_ret
      exact ⟨rfl, S.below⟩
end Go.Proofs.Ytnepgecdnhiokaa
