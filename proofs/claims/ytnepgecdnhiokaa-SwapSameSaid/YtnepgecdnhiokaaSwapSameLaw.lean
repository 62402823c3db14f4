/- SwapSame: where both change a list, one behind the other, those that are told do so, in their order, to the same: the walk of the law. -/
import Derived.Test.YtnepgecdnhiokaaAwake6
import Derived.Test.YtnepgecdnhiokaaSwapS
import Derived.Test.YtnepgecdnhiokaaHkC
namespace Go.Proofs.Ytnepgecdnhiokaa
open Go.RowKit

set_option maxRecDepth 100000 in
set_option maxHeartbeats 2000000 in
theorem swapSame_any (l : List ByteArray) (Z : Option Addr) (cz : Nat) (p : Int) (xs ys : List ByteArray) (A B : Option Addr) (c d : Nat) (q : Int) (us vs : List ByteArray) (C D : Option Addr) (c' d' : Nat) (w : World)
    (_ : l.length ≤ cz) (_ : cz ≤ 9223372036854775807) (hZ : SlS w.heap.size w Z l) (_ : -9223372036854775808 ≤ p) (_ : p ≤ 9223372036854775807) (_ : xs.length ≤ c) (_ : c ≤ 9223372036854775807) (hA : SlS w.heap.size w A xs) (_ : ys.length ≤ d) (_ : d ≤ 9223372036854775807) (hB : SlS w.heap.size w B ys) (_ : -9223372036854775808 ≤ q) (_ : q ≤ 9223372036854775807) (_ : us.length ≤ c') (_ : c' ≤ 9223372036854775807) (hC : SlS w.heap.size w C us) (_ : vs.length ≤ d') (_ : d' ≤ 9223372036854775807) (hD : SlS w.heap.size w D vs) :
    Calls Try.prog 9 #[.slice Z l.length cz, .agg #[.int .i64 p, .slice A xs.length c, .slice B ys.length d], .agg #[.int .i64 q, .slice C us.length c', .slice D vs.length d']] w fun e w' => e = .returned (.bool true) ∧ Below w.heap.size w w' := by
  have S := (((((St.start w).add hZ).add hA).add hB).add hC).add hD
  obtain ⟨bp, lp⟩ : ∃ b, light5 xs ys = b := ⟨_, rfl⟩
  have Lp := Kp.mk lp
  obtain ⟨bq, lq⟩ : ∃ b, light5 us vs = b := ⟨_, rfl⟩
  have Lq := Kp.mk lq
  obtain ⟨bl, ll⟩ : ∃ b, light l 300 = b := ⟨_, rfl⟩
  have Ll := Kp.mk ll
  clear hZ hA hB hC hD
  by_cases hall : bp = true ∧ bq = true ∧ bl = true
  · obtain ⟨rfl, rfl, rfl⟩ := hall
    obtain ⟨nxs, nys, sxs, sys⟩ := light5_out lp
    have Sxs := Kp.mk sxs
    have Sys := Kp.mk sys
    clear sxs sys lp
    obtain ⟨nus, nvs, sus, svs⟩ := light5_out lq
    have Sus := Kp.mk sus
    have Svs := Kp.mk svs
    clear sus svs lq
    have nl := light_len ll
    have Sl := Kp.mk (light_mem ll)
    clear ll
    cases hR : passX p xs ys q us vs with
    | none =>
      obtain ⟨E1, hE1⟩ : ∃ e, apE l p xs ys = e := ⟨_, rfl⟩
      obtain ⟨m1, hm1⟩ : ∃ m, apL l p xs ys = m := ⟨_, rfl⟩
      have g1 := apL_le l p xs ys
      rw [hm1] at g1
      obtain ⟨E2, hE2⟩ : ∃ e, apE m1 q us vs = e := ⟨_, rfl⟩
      obtain ⟨n1, hn1⟩ : ∃ m, apL m1 q us vs = m := ⟨_, rfl⟩
      have g2 := apL_le m1 q us vs
      rw [hn1] at g2
      have KhE1 := Kp.mk hE1
      have Khm1 := Kp.mk hm1
      have KhE2 := Kp.mk hE2
      have Khn1 := Kp.mk hn1
      have T1 : True := trivial
      have T2 : True := trivial
      have HR := Kp.mk hR
      clear hR hE1 hm1 hE2 hn1
      go_enter Try.func9, Try.ntmps9
      go_wp2_with (first
        | (with_reducible show wpList _ _ _ ({ dst := _, op := .box 24 _, type := _, pos := _, after := _, guard := none } :: _) _ _; refine wpList_hk_box rfl _ rfl _ _ _ rfl S ?_; clear S; intro g w1 S)
        | (with_reducible show wpList _ _ _ ({ dst := _, op := .load 24 _, type := _, pos := _, after := _, guard := none } :: _) _ _; refine wpList_hk_load rfl _ rfl _ rfl S _ _ _ _ _ (by first | exact ix0 | exact ix1 | exact ix2 | exact ix3 | exact ix4 | exact ix5) ?_)
        | (with_reducible show wpList _ _ _ ({ dst := _, op := .alloc 24, type := _, pos := _, after := _, guard := none } :: _) _ _; refine wpList_hk_alloc rfl rfl S ?_; clear S; intro g w1 S)
        | (with_reducible show wpList _ _ _ ({ dst := _, op := .store 24 _ _, type := _, pos := _, after := _, guard := none } :: _) _ _; refine wpList_hk_store rfl _ _ rfl _ rfl _ _ _ rfl S _ _ _ _ _ (by first | exact ix0 | exact ix1 | exact ix2 | exact ix3 | exact ix4 | exact ix5) rfl rfl rfl ?_; clear S; intro w1 S; simp only [List.set] at S)
        | (go_at_call 10; refine (awake6_any _).mono ?_; rintro e w1 ⟨rfl, hb⟩; replace S := S.call hb; clear hb)
        | (go_at_call_of 11 p; refine (light5_any p xs ys _ _ _ _ _ (S.ln mm3) (S.ln mm2)).mono ?_; rintro e w1 ⟨rfl, hb⟩; rw [Lp.out]; replace S := S.call hb; clear hb)
        | (go_at_call_of 11 q; refine (light5_any q us vs _ _ _ _ _ (S.ln mm1) (S.ln mm0)).mono ?_; rintro e w1 ⟨rfl, hb⟩; rw [Lq.out]; replace S := S.call hb; clear hb)
        | (go_at_call_of 17 Z; refine (light_any l Z _ 300 _ (S.ln mm4)).mono ?_; rintro e w1 ⟨rfl, rfl⟩; rw [Ll.out])
        | (go_at_call_of 12 p; refine (Pass_none _ _ _ _ _ _ _ _ _ _ _ _ _ _ _ HR.out (S.ln mm3) (S.ln mm2) (S.ln mm1) (S.ln mm0) (by omega) (by omega) (by omega) (by omega) Sxs.out Sys.out Sus.out Svs.out).mono ?_; rintro e w1 ⟨C1, e1, D1, e2, A1, e3, B1, e4, rfl, hb⟩; replace S := S.call hb; clear hb)
        | (go_at_call 18; have _t := T1; refine (apply_any _ _ _ _ _ _ _ _ _ _ _ m1 _ KhE1.out Khm1.out (by first | assumption | omega) (S.ln mm4) (S.ln mm3) (S.ln mm2) (by omega) (by omega) (by omega) Sxs.out Sys.out).mono ?_; rintro e w1 ⟨F1, r1, rfl, qr1, -, hF, hb⟩; replace S := (S.call hb).add0 hF; clear hb hF T1 _t)
        | (go_at_call 18; have _t := T2; refine (apply_any _ _ _ _ _ _ _ _ _ _ _ _ _ KhE2.out Khn1.out (by first | assumption | omega) (S.ln mm0) (S.ln mm2) (S.ln mm1) (by omega) (by omega) (by omega) Sus.out Svs.out).mono ?_; rintro e w1 ⟨F2, r2, rfl, qr2, -, hF, hb⟩; replace S := (S.call hb).add0 hF; clear hb hF T2 _t))
      go_ret
      exact ⟨rfl, S.below⟩
    | some z =>
      obtain ⟨E1, hE1⟩ : ∃ e, apE l p xs ys = e := ⟨_, rfl⟩
      obtain ⟨m1, hm1⟩ : ∃ m, apL l p xs ys = m := ⟨_, rfl⟩
      have g1 := apL_le l p xs ys
      rw [hm1] at g1
      obtain ⟨E2, hE2⟩ : ∃ e, apE m1 q us vs = e := ⟨_, rfl⟩
      obtain ⟨n1, hn1⟩ : ∃ m, apL m1 q us vs = m := ⟨_, rfl⟩
      have g2 := apL_le m1 q us vs
      rw [hn1] at g2
      have hall : (E1 = 1 ∨ E1 = 5) ∨ (E1 = 0 ∧ (E2 = 1 ∨ E2 = 5)) ∨ (E1 = 0 ∧ E2 = 0) := by
        have v1 := apE_vals l p xs ys
        have v2 := apE_vals m1 q us vs
        rw [hE1] at v1
        rw [hE2] at v2
        omega
      obtain ⟨X, hX⟩ : ∃ X, p + z.1 = X := ⟨_, rfl⟩
      obtain ⟨Y, hY⟩ : ∃ Y, q + z.2 = Y := ⟨_, rfl⟩
      obtain ⟨E3, hE3⟩ : ∃ e, apE l Y us vs = e := ⟨_, rfl⟩
      obtain ⟨k1, hk1⟩ : ∃ m, apL l Y us vs = m := ⟨_, rfl⟩
      have g3 := apL_le l Y us vs
      rw [hk1] at g3
      obtain ⟨E4, hE4⟩ : ∃ e, apE k1 X xs ys = e := ⟨_, rfl⟩
      obtain ⟨o1, ho1⟩ : ∃ m, apL k1 X xs ys = m := ⟨_, rfl⟩
      have HF : Kp (E1 = 0 → E2 = 0 → E3 = 0 ∧ E4 = 0 ∧ o1 = n1) := ⟨fun e1 e2 => by
        have h := passX_same hR (by rw [hE1, e1]) (by rw [hm1, hE2, e2])
        rw [hX, hY, hm1, hk1, hE3, hE4, ho1, hn1] at h
        exact h⟩
      have KhE1 := Kp.mk hE1
      have Khm1 := Kp.mk hm1
      have KhE2 := Kp.mk hE2
      have Khn1 := Kp.mk hn1
      have T1 : True := trivial
      have T2 : True := trivial
      have KhE3 := Kp.mk hE3
      have Khk1 := Kp.mk hk1
      have KhE4 := Kp.mk hE4
      have Kho1 := Kp.mk ho1
      have HR := Kp.mk hR
      have HX := Kp.mk hX
      have HY := Kp.mk hY
      have T3 : True := trivial
      have T4 : True := trivial
      clear hR hX hY hE1 hm1 hE2 hn1 hE3 hk1 hE4 ho1
      rcases hall with hall | ⟨rfl, hall⟩ | ⟨rfl, rfl⟩
      · rcases hall with rfl | rfl
        all_goals
          go_enter Try.func9, Try.ntmps9
          go_wp2_with (first
            | (with_reducible show wpList _ _ _ ({ dst := _, op := .box 24 _, type := _, pos := _, after := _, guard := none } :: _) _ _; refine wpList_hk_box rfl _ rfl _ _ _ rfl S ?_; clear S; intro g w1 S)
            | (with_reducible show wpList _ _ _ ({ dst := _, op := .load 24 _, type := _, pos := _, after := _, guard := none } :: _) _ _; refine wpList_hk_load rfl _ rfl _ rfl S _ _ _ _ _ (by first | exact ix0 | exact ix1 | exact ix2 | exact ix3 | exact ix4 | exact ix5) ?_)
            | (with_reducible show wpList _ _ _ ({ dst := _, op := .alloc 24, type := _, pos := _, after := _, guard := none } :: _) _ _; refine wpList_hk_alloc rfl rfl S ?_; clear S; intro g w1 S)
            | (with_reducible show wpList _ _ _ ({ dst := _, op := .store 24 _ _, type := _, pos := _, after := _, guard := none } :: _) _ _; refine wpList_hk_store rfl _ _ rfl _ rfl _ _ _ rfl S _ _ _ _ _ (by first | exact ix0 | exact ix1 | exact ix2 | exact ix3 | exact ix4 | exact ix5) rfl rfl rfl ?_; clear S; intro w1 S; simp only [List.set] at S)
            | (go_at_call 10; refine (awake6_any _).mono ?_; rintro e w1 ⟨rfl, hb⟩; replace S := S.call hb; clear hb)
            | (go_at_call_of 11 p; refine (light5_any p xs ys _ _ _ _ _ (S.ln mm3) (S.ln mm2)).mono ?_; rintro e w1 ⟨rfl, hb⟩; rw [Lp.out]; replace S := S.call hb; clear hb)
            | (go_at_call_of 11 q; refine (light5_any q us vs _ _ _ _ _ (S.ln mm1) (S.ln mm0)).mono ?_; rintro e w1 ⟨rfl, hb⟩; rw [Lq.out]; replace S := S.call hb; clear hb)
            | (go_at_call_of 17 Z; refine (light_any l Z _ 300 _ (S.ln mm4)).mono ?_; rintro e w1 ⟨rfl, rfl⟩; rw [Ll.out])
            | (go_at_call_of 12 p; refine (Pass_some _ _ _ _ _ _ _ _ _ _ _ _ _ _ _ _ _ _ HR.out HX.out HY.out (S.ln mm3) (S.ln mm2) (S.ln mm1) (S.ln mm0) (by omega) (by omega) (by omega) (by omega) Sxs.out Sys.out Sus.out Svs.out).mono ?_; rintro e w1 ⟨C1, e1, D1, e2, A1, e3, B1, e4, rfl, h1, h2, h3, h4, hb⟩; replace S := ((((S.call hb).add0 h1).add0 h2).add0 h3).add0 h4; clear hb h1 h2 h3 h4)
            | (go_at_call 18; have _t := T1; refine (apply_any _ _ _ _ _ _ _ _ _ _ _ m1 _ KhE1.out Khm1.out (by first | assumption | omega) (S.ln mm8) (S.ln mm7) (S.ln mm6) (by omega) (by omega) (by omega) Sxs.out Sys.out).mono ?_; rintro e w1 ⟨F1, r1, rfl, qr1, -, hF, hb⟩; replace S := (S.call hb).add0 hF; clear hb hF T1 _t)
            | (go_at_call 18; have _t := T2; refine (apply_any _ _ _ _ _ _ _ _ _ _ _ _ _ KhE2.out Khn1.out (by first | assumption | omega) (S.ln mm0) (S.ln mm6) (S.ln mm5) (by omega) (by omega) (by omega) Sus.out Svs.out).mono ?_; rintro e w1 ⟨F2, r2, rfl, qr2, -, hF, hb⟩; replace S := (S.call hb).add0 hF; clear hb hF T2 _t))
          go_ret
          exact ⟨rfl, S.below⟩
      · rcases hall with rfl | rfl
        all_goals
          go_enter Try.func9, Try.ntmps9
          go_wp2_with (first
            | (with_reducible show wpList _ _ _ ({ dst := _, op := .box 24 _, type := _, pos := _, after := _, guard := none } :: _) _ _; refine wpList_hk_box rfl _ rfl _ _ _ rfl S ?_; clear S; intro g w1 S)
            | (with_reducible show wpList _ _ _ ({ dst := _, op := .load 24 _, type := _, pos := _, after := _, guard := none } :: _) _ _; refine wpList_hk_load rfl _ rfl _ rfl S _ _ _ _ _ (by first | exact ix0 | exact ix1 | exact ix2 | exact ix3 | exact ix4 | exact ix5) ?_)
            | (with_reducible show wpList _ _ _ ({ dst := _, op := .alloc 24, type := _, pos := _, after := _, guard := none } :: _) _ _; refine wpList_hk_alloc rfl rfl S ?_; clear S; intro g w1 S)
            | (with_reducible show wpList _ _ _ ({ dst := _, op := .store 24 _ _, type := _, pos := _, after := _, guard := none } :: _) _ _; refine wpList_hk_store rfl _ _ rfl _ rfl _ _ _ rfl S _ _ _ _ _ (by first | exact ix0 | exact ix1 | exact ix2 | exact ix3 | exact ix4 | exact ix5) rfl rfl rfl ?_; clear S; intro w1 S; simp only [List.set] at S)
            | (go_at_call 10; refine (awake6_any _).mono ?_; rintro e w1 ⟨rfl, hb⟩; replace S := S.call hb; clear hb)
            | (go_at_call_of 11 p; refine (light5_any p xs ys _ _ _ _ _ (S.ln mm3) (S.ln mm2)).mono ?_; rintro e w1 ⟨rfl, hb⟩; rw [Lp.out]; replace S := S.call hb; clear hb)
            | (go_at_call_of 11 q; refine (light5_any q us vs _ _ _ _ _ (S.ln mm1) (S.ln mm0)).mono ?_; rintro e w1 ⟨rfl, hb⟩; rw [Lq.out]; replace S := S.call hb; clear hb)
            | (go_at_call_of 17 Z; refine (light_any l Z _ 300 _ (S.ln mm4)).mono ?_; rintro e w1 ⟨rfl, rfl⟩; rw [Ll.out])
            | (go_at_call_of 12 p; refine (Pass_some _ _ _ _ _ _ _ _ _ _ _ _ _ _ _ _ _ _ HR.out HX.out HY.out (S.ln mm3) (S.ln mm2) (S.ln mm1) (S.ln mm0) (by omega) (by omega) (by omega) (by omega) Sxs.out Sys.out Sus.out Svs.out).mono ?_; rintro e w1 ⟨C1, e1, D1, e2, A1, e3, B1, e4, rfl, h1, h2, h3, h4, hb⟩; replace S := ((((S.call hb).add0 h1).add0 h2).add0 h3).add0 h4; clear hb h1 h2 h3 h4)
            | (go_at_call 18; have _t := T1; refine (apply_any _ _ _ _ _ _ _ _ _ _ _ m1 _ KhE1.out Khm1.out (by first | assumption | omega) (S.ln mm8) (S.ln mm7) (S.ln mm6) (by omega) (by omega) (by omega) Sxs.out Sys.out).mono ?_; rintro e w1 ⟨F1, r1, rfl, qr1, -, hF, hb⟩; replace S := (S.call hb).add0 hF; clear hb hF T1 _t)
            | (go_at_call 18; have _t := T2; refine (apply_any _ _ _ _ _ _ _ _ _ _ _ _ _ KhE2.out Khn1.out (by first | assumption | omega) (S.ln mm0) (S.ln mm6) (S.ln mm5) (by omega) (by omega) (by omega) Sus.out Svs.out).mono ?_; rintro e w1 ⟨F2, r2, rfl, qr2, -, hF, hb⟩; replace S := (S.call hb).add0 hF; clear hb hF T2 _t))
          go_ret
          exact ⟨rfl, S.below⟩
      · obtain ⟨rfl, rfl, rfl⟩ := HF.out rfl rfl
        go_enter Try.func9, Try.ntmps9
        go_wp2_with (first
          | (with_reducible show wpList _ _ _ ({ dst := _, op := .box 24 _, type := _, pos := _, after := _, guard := none } :: _) _ _; refine wpList_hk_box rfl _ rfl _ _ _ rfl S ?_; clear S; intro g w1 S)
          | (with_reducible show wpList _ _ _ ({ dst := _, op := .load 24 _, type := _, pos := _, after := _, guard := none } :: _) _ _; refine wpList_hk_load rfl _ rfl _ rfl S _ _ _ _ _ (by first | exact ix0 | exact ix1 | exact ix2 | exact ix3 | exact ix4 | exact ix5) ?_)
          | (with_reducible show wpList _ _ _ ({ dst := _, op := .alloc 24, type := _, pos := _, after := _, guard := none } :: _) _ _; refine wpList_hk_alloc rfl rfl S ?_; clear S; intro g w1 S)
          | (with_reducible show wpList _ _ _ ({ dst := _, op := .store 24 _ _, type := _, pos := _, after := _, guard := none } :: _) _ _; refine wpList_hk_store rfl _ _ rfl _ rfl _ _ _ rfl S _ _ _ _ _ (by first | exact ix0 | exact ix1 | exact ix2 | exact ix3 | exact ix4 | exact ix5) rfl rfl rfl ?_; clear S; intro w1 S; simp only [List.set] at S)
          | (go_at_call 10; refine (awake6_any _).mono ?_; rintro e w1 ⟨rfl, hb⟩; replace S := S.call hb; clear hb)
          | (go_at_call_of 11 p; refine (light5_any p xs ys _ _ _ _ _ (S.ln mm3) (S.ln mm2)).mono ?_; rintro e w1 ⟨rfl, hb⟩; rw [Lp.out]; replace S := S.call hb; clear hb)
          | (go_at_call_of 11 q; refine (light5_any q us vs _ _ _ _ _ (S.ln mm1) (S.ln mm0)).mono ?_; rintro e w1 ⟨rfl, hb⟩; rw [Lq.out]; replace S := S.call hb; clear hb)
          | (go_at_call_of 17 Z; refine (light_any l Z _ 300 _ (S.ln mm4)).mono ?_; rintro e w1 ⟨rfl, rfl⟩; rw [Ll.out])
          | (go_at_call_of 12 p; refine (Pass_some _ _ _ _ _ _ _ _ _ _ _ _ _ _ _ _ _ _ HR.out HX.out HY.out (S.ln mm3) (S.ln mm2) (S.ln mm1) (S.ln mm0) (by omega) (by omega) (by omega) (by omega) Sxs.out Sys.out Sus.out Svs.out).mono ?_; rintro e w1 ⟨C1, e1, D1, e2, A1, e3, B1, e4, rfl, h1, h2, h3, h4, hb⟩; replace S := ((((S.call hb).add0 h1).add0 h2).add0 h3).add0 h4; clear hb h1 h2 h3 h4)
          | (go_at_call 18; have _t := T1; refine (apply_any _ _ _ _ _ _ _ _ _ _ _ m1 _ KhE1.out Khm1.out (by first | assumption | omega) (S.ln mm8) (S.ln mm7) (S.ln mm6) (by omega) (by omega) (by omega) Sxs.out Sys.out).mono ?_; rintro e w1 ⟨F1, r1, rfl, qr1, -, hF, hb⟩; replace S := (S.call hb).add0 hF; clear hb hF T1 _t)
          | (go_at_call 18; have _t := T2; refine (apply_any _ _ _ _ _ _ _ _ _ _ _ _ _ KhE2.out Khn1.out (by first | assumption | omega) (S.ln mm0) (S.ln mm6) (S.ln mm5) (by omega) (by omega) (by omega) Sus.out Svs.out).mono ?_; rintro e w1 ⟨F2, r2, rfl, qr2, -, hF, hb⟩; replace S := (S.call hb).add0 hF; clear hb hF T2 _t)
          | (go_at_call 18; have _t := T3; refine (apply_any _ _ _ _ _ _ _ _ _ _ _ k1 _ KhE3.out Khk1.out (by first | assumption | omega) (S.ln mm10) (S.ln mm5) (S.ln mm4) (by omega) (by omega) (by omega) Sus.out Svs.out).mono ?_; rintro e w1 ⟨F3, r3, rfl, qr3, -, hF, hb⟩; replace S := (S.call hb).add0 hF; clear hb hF T3 _t)
          | (go_at_call 18; have _t := T4; refine (apply_any _ _ _ _ _ _ _ _ _ _ _ _ _ KhE4.out Kho1.out (by first | assumption | omega) (S.ln mm0) (S.ln mm4) (S.ln mm3) (by omega) (by omega) (by omega) Sxs.out Sys.out).mono ?_; rintro e w1 ⟨F4, r4, rfl, qr4, -, hF, hb⟩; replace S := (S.call hb).add0 hF; clear hb hF T4 _t)
          | (go_at_call 19; refine (same_at _ _ _ _ _ _ _ _ true _ rfl rfl (by simp) (S.ln mm2) (S.ln mm0) (by omega)).mono ?_; rintro e w1 ⟨rfl, hb⟩; replace S := S.call hb; clear hb))
        go_ret
        exact ⟨rfl, S.below⟩
  · have hbb : (bp = false) ∨ (bp = true ∧ bq = false) ∨ (bp = true ∧ bq = true ∧ bl = false) := by
      clear S lp Lp lq Lq ll Ll
      cases bp <;> cases bq <;> cases bl <;> simp_all
    clear hall lp lq ll
    rcases hbb with rfl | ⟨rfl, rfl⟩ | ⟨rfl, rfl, rfl⟩
    all_goals
      go_enter Try.func9, Try.ntmps9
      go_wp2_with (first
        | (with_reducible show wpList _ _ _ ({ dst := _, op := .box 24 _, type := _, pos := _, after := _, guard := none } :: _) _ _; refine wpList_hk_box rfl _ rfl _ _ _ rfl S ?_; clear S; intro g w1 S)
        | (with_reducible show wpList _ _ _ ({ dst := _, op := .load 24 _, type := _, pos := _, after := _, guard := none } :: _) _ _; refine wpList_hk_load rfl _ rfl _ rfl S _ _ _ _ _ (by first | exact ix0 | exact ix1) ?_)
        | (go_at_call 10; refine (awake6_any _).mono ?_; rintro e w1 ⟨rfl, hb⟩; replace S := S.call hb; clear hb)
        | (go_at_call_of 11 p; refine (light5_any p xs ys _ _ _ _ _ (S.ln mm3) (S.ln mm2)).mono ?_; rintro e w1 ⟨rfl, hb⟩; rw [Lp.out]; replace S := S.call hb; clear hb)
        | (go_at_call_of 11 q; refine (light5_any q us vs _ _ _ _ _ (S.ln mm1) (S.ln mm0)).mono ?_; rintro e w1 ⟨rfl, hb⟩; rw [Lq.out]; replace S := S.call hb; clear hb)
        | (go_at_call_of 17 Z; refine (light_any l Z _ 300 _ (S.ln mm4)).mono ?_; rintro e w1 ⟨rfl, rfl⟩; rw [Ll.out]))
      go_ret
      exact ⟨rfl, S.below⟩
end Go.Proofs.Ytnepgecdnhiokaa
