/- HunkTells: whether any hunk may be, what any list becomes by it, how it is turned, and whether two are the same, is what the document says: the walk of the law. -/
import Derived.Test.YtkggedmcdllnaaaAwake5
import Derived.Test.YtkggedmcdllnaaaRef5
namespace Go.Proofs.Ytkggedmcdllnaaa
open Go.RowKit

set_option linter.unusedSimpArgs false in
set_option maxRecDepth 100000 in
set_option maxHeartbeats 4000000 in
theorem hunkTells_any (l : List ByteArray) (Z : Option Addr) (cz : Nat) (p : Int) (xs ys : List ByteArray) (A B : Option Addr) (c d : Nat) (q : Int) (us vs : List ByteArray) (C D : Option Addr) (c' d' : Nat) (w : World)
    (_ : l.length ≤ cz) (_ : cz ≤ 9223372036854775807) (hZ : SlS w.heap.size w Z l) (_ : -9223372036854775808 ≤ p) (_ : p ≤ 9223372036854775807) (_ : xs.length ≤ c) (_ : c ≤ 9223372036854775807) (hA : SlS w.heap.size w A xs) (_ : ys.length ≤ d) (_ : d ≤ 9223372036854775807) (hB : SlS w.heap.size w B ys) (_ : -9223372036854775808 ≤ q) (_ : q ≤ 9223372036854775807) (_ : us.length ≤ c') (_ : c' ≤ 9223372036854775807) (hC : SlS w.heap.size w C us) (_ : vs.length ≤ d') (_ : d' ≤ 9223372036854775807) (hD : SlS w.heap.size w D vs) :
    Calls Try.prog 7 #[.slice Z l.length cz, .agg #[.int .i64 p, .slice A xs.length c, .slice B ys.length d], .agg #[.int .i64 q, .slice C us.length c', .slice D vs.length d']] w fun e w' => e = .returned (.bool true) ∧ Below w.heap.size w w' := by
  have S := (((((St.start w).add hZ).add hA).add hB).add hC).add hD
  obtain ⟨bl, ll⟩ : ∃ b, light l 300 = b := ⟨_, rfl⟩
  have Ll := Kp.mk ll
  obtain ⟨bp, lp⟩ : ∃ b, light5 xs ys = b := ⟨_, rfl⟩
  have Lp := Kp.mk lp
  obtain ⟨bq, lq⟩ : ∃ b, light5 us vs = b := ⟨_, rfl⟩
  have Lq := Kp.mk lq
  clear hZ hA hB hC hD
  by_cases hall : bl = true ∧ bp = true ∧ bq = true
  · obtain ⟨rfl, rfl, rfl⟩ := hall
    obtain ⟨nxs, nys, sxs, sys⟩ := light5_out lp
    have Sxs := Kp.mk sxs
    have Sys := Kp.mk sys
    clear sxs sys lp
    obtain ⟨nus, nvs, sus, svs⟩ := light5_out lq
    have Sus := Kp.mk sus
    have Svs := Kp.mk svs
    clear sus svs lq
    have nl := light_len ll
    have Sl := Kp.mk (light_mem ll)
    clear ll
    obtain ⟨bm, hbm⟩ : ∃ b, hMay p xs ys = b := ⟨_, rfl⟩
    have HM := Kp.mk hbm
    obtain ⟨bs, hbs⟩ : ∃ b, hSame p q xs ys us vs = b := ⟨_, rfl⟩
    have HS := Kp.mk hbs
    obtain ⟨E, hE⟩ : ∃ E, apE l p xs ys = E := ⟨_, rfl⟩
    obtain ⟨m, hm⟩ : ∃ m, apL l p xs ys = m := ⟨_, rfl⟩
    have hml := apL_le l p xs ys
    rw [hm] at hml
    have HE := Kp.mk hE
    have HL := Kp.mk hm
    have t1 : (E == E) = true := by simp
    have t2 : (bm == bm) = true := by simp
    have t3 : (bs == bs) = true := by simp
    clear hbm hbs hE hm
    go_enter Try.func7, Try.ntmps7
    go_wp2_with (first
      | (with_reducible show wpList _ _ _ ({ dst := _, op := .box 24 _, type := _, pos := _, after := _, guard := none } :: _) _ _; refine wpList_hk_box rfl _ rfl (.int .i64 p) (.slice A xs.length c) (.slice B ys.length d) rfl S ?_; clear S; intro gp w1 S)
      | (with_reducible show wpList _ _ _ ({ dst := _, op := .box 24 _, type := _, pos := _, after := _, guard := none } :: _) _ _; refine wpList_hk_box rfl _ rfl (.int .i64 q) (.slice C us.length c') (.slice D vs.length d') rfl S ?_; clear S; intro gq w1 S)
      | (with_reducible show wpList _ _ _ ({ dst := _, op := .load 24 _, type := _, pos := _, after := _, guard := none } :: _) _ _; refine wpList_hk_load rfl _ rfl _ rfl S _ _ _ _ _ (by first | exact ix0 | exact ix1) ?_)
      | (with_reducible show wpList _ _ _ ({ dst := _, op := .load 24 _, type := _, pos := _, after := _, guard := some _ } :: _) _ _; refine wpList_hk_loadg rfl _ rfl _ rfl S _ _ _ _ _ (by first | exact ix0 | exact ix1) ?_)
      | (go_at_call 8; refine (awake5_any _).mono ?_; rintro e w1 ⟨rfl, hb⟩; replace S := S.call hb; clear hb)
      | (go_at_call_of 10 p; refine (light5_any p xs ys _ _ _ _ _ (S.ln mm3) (S.ln mm2)).mono ?_; rintro e w1 ⟨rfl, hb⟩; rw [Lp.out]; replace S := S.call hb; clear hb)
      | (go_at_call_of 10 q; refine (light5_any q us vs _ _ _ _ _ (S.ln mm1) (S.ln mm0)).mono ?_; rintro e w1 ⟨rfl, hb⟩; rw [Lq.out]; replace S := S.call hb; clear hb)
      | (go_at_call_of 9 Z; refine (light_any l Z _ 300 _ (S.ln mm4)).mono ?_; rintro e w1 ⟨rfl, rfl⟩; rw [Ll.out])
      | (go_at_call_of 14 Z; refine (apply_any l _ xs ys _ _ _ _ _ _ E m _ HE.out HL.out (by assumption) (S.ln mm4) (S.ln mm3) (S.ln mm2) (by omega) (by omega) (by omega) Sxs.out Sys.out).mono ?_; rintro e w1 ⟨F1, r1, rfl, qF1, -, hF, hb⟩; replace S := (S.call hb).add0 hF; clear hb hF)
      | (go_at_call_of 21 Z; refine (rapply_any l _ xs ys _ _ _ _ _ _ E m _ HE.out HL.out (by assumption) (S.ln mm5) (S.ln mm4) (S.ln mm3) (by omega) (by omega) (by omega) Sxs.out Sys.out).mono ?_; rintro e w1 ⟨F2, r2, rfl, qF2, -, hF, hb⟩; replace S := (S.call hb).add0 hF; clear hb hF)
      | (go_at_call_of 15 F1; refine (same_at _ _ _ _ _ _ _ _ true _ rfl rfl (by simp) (S.ln mm1) (S.ln mm0) (by omega)).mono ?_; rintro e w1 ⟨rfl, hb⟩; replace S := S.call hb; clear hb))
    have k0 := (S.hk ix1).c0
    have k1 := (S.hk ix1).c1
    have k2 := (S.hk ix1).c2
    replace S := S.drew
    refine wp_region_held_drew (S := (fun w' => w'.cell? ⟨gp, 0, none⟩ = some (.int .i64 p) ∧ w'.cell? ⟨gp, 1, none⟩ = some (.slice A xs.length c) ∧ w'.cell? ⟨gp, 2, none⟩ = some (.slice B ys.length d))) (by kernel_rfl) ?_ (fun hHeld => ?_)
    · exact ⟨k0, k1, k2⟩
    refine wpAnyH_take (i := 0) (v := ?_) rfl (by kernel_rfl) (by kernel_rfl) (by kernel_rfl) (fun _ _ _ h => h) (Or.inl ⟨by rfl, ?_⟩) (by assumption) ?_
    rotate_left
    · (intro w hSw; (try dsimp only at hSw); go_simp; try with_reducible rfl)
    try simp only [Act.put, List.getElem_toArray, List.getElem_cons_succ, List.getElem_cons_zero, List.setIfInBounds_toArray, List.set_cons_zero, List.set_cons_succ]
    refine wpAnyH_take (i := 2) (v := ?_) rfl (by kernel_rfl) (by kernel_rfl) (by kernel_rfl) (fun _ _ _ h => h) (Or.inl ⟨by rfl, ?_⟩) (by assumption) ?_
    rotate_left
    · (intro w hSw; (try dsimp only at hSw); go_simp; try with_reducible rfl)
    try simp only [Act.put, List.getElem_toArray, List.getElem_cons_succ, List.getElem_cons_zero, List.setIfInBounds_toArray, List.set_cons_zero, List.set_cons_succ]
    refine wpAnyH_ready (rs := [1]) (by kernel_rfl) (by simp) ?_
    refine AllReadyH.cons rfl (fun K hK => ?_) ?_
    · go_simp
      refine (turn_any _ _ _ _ _ _ _ _ _ _ rfl rfl (S.ln mm5) (S.ln mm4) (by omega) (by omega)).mono ?_
      rintro e w1 ⟨C1, e1, D1, f1, rfl, -, -, -, -, h1, h2, hb⟩
      replace S := ((S.call hb).add0 h1).add0 h2
      clear hb h1 h2
      replace k0 := (S.hk ix1).c0
      replace k1 := (S.hk ix1).c1
      replace k2 := (S.hk ix1).c2
      try simp only []
      refine hK.out _ _ ?_ (fun hHeld => ?_)
      · exact ⟨k0, k1, k2⟩
      clear hK K
      try simp only [Act.put, List.getElem_toArray, List.getElem_cons_succ, List.getElem_cons_zero, List.setIfInBounds_toArray, List.set_cons_zero, List.set_cons_succ]
      refine wpAnyH_ready (rs := [3]) (by kernel_rfl) (by simp) ?_
      refine AllReadyH.cons rfl (fun K hK => ?_) ?_
      · go_simp
        refine (rturn_any _ _ _ _ _ _ _ _ _ _ rfl rfl (S.ln mm7) (S.ln mm6)).mono ?_
        rintro e w1 ⟨rfl, hb⟩
        replace S := S.call hb
        clear hb
        replace k0 := (S.hk ix1).c0
        replace k1 := (S.hk ix1).c1
        replace k2 := (S.hk ix1).c2
        try simp only []
        refine hK.out _ _ ?_ (fun hHeld => ?_)
        · exact ⟨k0, k1, k2⟩
        clear hK K
        try simp only [Act.put, List.getElem_toArray, List.getElem_cons_succ, List.getElem_cons_zero, List.setIfInBounds_toArray, List.set_cons_zero, List.set_cons_succ]
        refine wpAnyH_ready (rs := [4]) (by kernel_rfl) (by simp) ?_
        refine AllReadyH.cons rfl (fun K hK => ?_) ?_
        · go_simp
          refine (rhsame_any _ _ _ _ _ _ _ _ _ _ _ _ _ _ _ _ _ _ _ rfl rfl rfl rfl (S.ln mm1) (S.ln mm0) (S.ln mm6) (S.ln mm7) (by omega) (by omega)).mono ?_
          rintro e w1 ⟨rfl, hb⟩
          rw [hSame_refl]
          replace S := S.call hb
          clear hb
          replace k0 := (S.hk ix1).c0
          replace k1 := (S.hk ix1).c1
          replace k2 := (S.hk ix1).c2
          try simp only []
          refine hK.out _ _ ?_ (fun hHeld => ?_)
          · exact ⟨k0, k1, k2⟩
          clear hK K
          try simp only [Act.put, List.getElem_toArray, List.getElem_cons_succ, List.getElem_cons_zero, List.setIfInBounds_toArray, List.set_cons_zero, List.set_cons_succ]
          refine wpAnyH_take (i := 5) (v := ?_) rfl (by kernel_rfl) (by kernel_rfl) (by kernel_rfl) (fun _ _ _ h => h) (Or.inl ⟨by rfl, ?_⟩) (by assumption) ?_
          rotate_left
          · (intro w hSw; (try dsimp only at hSw); go_simp; try with_reducible rfl)
          try simp only [Act.put, List.getElem_toArray, List.getElem_cons_succ, List.getElem_cons_zero, List.setIfInBounds_toArray, List.set_cons_zero, List.set_cons_succ]
          refine wpAnyH_done (by kernel_rfl) ?_ _
          clear k0 k1 k2
          go_wp2_with (first
            | (with_reducible show wpList _ _ _ ({ dst := _, op := .box 24 _, type := _, pos := _, after := _, guard := none } :: _) _ _; refine wpList_hk_box rfl _ rfl (.int .i64 p) (.slice A xs.length c) (.slice B ys.length d) rfl S ?_; clear S; intro gp w1 S)
            | (with_reducible show wpList _ _ _ ({ dst := _, op := .box 24 _, type := _, pos := _, after := _, guard := none } :: _) _ _; refine wpList_hk_box rfl _ rfl (.int .i64 q) (.slice C us.length c') (.slice D vs.length d') rfl S ?_; clear S; intro gq w1 S)
            | (with_reducible show wpList _ _ _ ({ dst := _, op := .load 24 _, type := _, pos := _, after := _, guard := none } :: _) _ _; refine wpList_hk_load rfl _ rfl _ rfl S _ _ _ _ _ (by first | exact ix0 | exact ix1) ?_)
            | (with_reducible show wpList _ _ _ ({ dst := _, op := .load 24 _, type := _, pos := _, after := _, guard := some _ } :: _) _ _; refine wpList_hk_loadg rfl _ rfl _ rfl S _ _ _ _ _ (by first | exact ix0 | exact ix1) ?_)
            | (go_at_call 8; refine (awake5_any _).mono ?_; rintro e w1 ⟨rfl, hb⟩; replace S := S.call hb; clear hb)
            | (go_at_call_of 10 p; refine (light5_any p xs ys _ _ _ _ _ (S.ln mm3) (S.ln mm2)).mono ?_; rintro e w1 ⟨rfl, hb⟩; rw [Lp.out]; replace S := S.call hb; clear hb)
            | (go_at_call_of 10 q; refine (light5_any q us vs _ _ _ _ _ (S.ln mm1) (S.ln mm0)).mono ?_; rintro e w1 ⟨rfl, hb⟩; rw [Lq.out]; replace S := S.call hb; clear hb)
            | (go_at_call_of 9 Z; refine (light_any l Z _ 300 _ (S.ln mm4)).mono ?_; rintro e w1 ⟨rfl, rfl⟩; rw [Ll.out])
            | (go_at_call_of 24 p; refine (rhmay_any _ _ _ _ _ _ _ _ _ _ rfl rfl (S.ln mm7) (S.ln mm6) (by omega) (by omega) Sxs.out Sys.out).mono ?_; rintro e w1 ⟨rfl, hb⟩; rw [HM.out]; replace S := S.call hb; clear hb)
            | (go_at_call_of 22 q; refine (rhsame_any _ _ _ _ _ _ _ _ _ _ _ _ _ _ _ _ _ _ _ rfl rfl rfl rfl (S.ln mm7) (S.ln mm6) (S.ln mm5) (S.ln mm4) (by omega) (by omega)).mono ?_; rintro e w1 ⟨rfl, hb⟩; rw [HS.out]; replace S := S.call hb; clear hb)
            | (go_at_call_of 13 p; refine (hmay_any _ _ _ _ _ _ _ _ _ _ rfl rfl (S.ln mm7) (S.ln mm6) (by omega) (by omega) Sxs.out Sys.out).mono ?_; rintro e w1 ⟨rfl, hb⟩; rw [HM.out]; replace S := S.call hb; clear hb)
            | (go_at_call_of 11 q; refine (hsame_any _ _ _ _ _ _ _ _ _ _ _ _ _ _ _ _ _ _ _ rfl rfl rfl rfl (S.ln mm7) (S.ln mm6) (S.ln mm5) (S.ln mm4) (by omega) (by omega)).mono ?_; rintro e w1 ⟨rfl, hb⟩; rw [HS.out]; replace S := S.call hb; clear hb))
          go_ret
          exact ⟨rfl, S.below⟩
        exact AllReadyH.nil
      exact AllReadyH.nil
    exact AllReadyH.nil
  · have hbb : (bl = false) ∨ (bl = true ∧ bp = false) ∨ (bl = true ∧ bp = true ∧ bq = false) := by
      clear S ll Ll lp Lp lq Lq
      cases bl <;> cases bp <;> cases bq <;> simp_all
    clear hall ll lp lq
    rcases hbb with rfl | ⟨rfl, rfl⟩ | ⟨rfl, rfl, rfl⟩
    all_goals
      go_enter Try.func7, Try.ntmps7
      go_wp2_with (first
        | (with_reducible show wpList _ _ _ ({ dst := _, op := .box 24 _, type := _, pos := _, after := _, guard := none } :: _) _ _; refine wpList_hk_box rfl _ rfl _ _ _ rfl S ?_; clear S; intro g w1 S)
        | (with_reducible show wpList _ _ _ ({ dst := _, op := .load 24 _, type := _, pos := _, after := _, guard := none } :: _) _ _; refine wpList_hk_load rfl _ rfl _ rfl S _ _ _ _ _ (by first | exact ix0 | exact ix1) ?_)
        | (go_at_call 8; refine (awake5_any _).mono ?_; rintro e w1 ⟨rfl, hb⟩; replace S := S.call hb; clear hb)
        | (go_at_call_of 10 p; refine (light5_any p xs ys _ _ _ _ _ (S.ln mm3) (S.ln mm2)).mono ?_; rintro e w1 ⟨rfl, hb⟩; rw [Lp.out]; replace S := S.call hb; clear hb)
        | (go_at_call_of 10 q; refine (light5_any q us vs _ _ _ _ _ (S.ln mm1) (S.ln mm0)).mono ?_; rintro e w1 ⟨rfl, hb⟩; rw [Lq.out]; replace S := S.call hb; clear hb)
        | (go_at_call_of 9 Z; refine (light_any l Z _ 300 _ (S.ln mm4)).mono ?_; rintro e w1 ⟨rfl, rfl⟩; rw [Ll.out]))
      go_ret
      exact ⟨rfl, S.below⟩
end Go.Proofs.Ytkggedmcdllnaaa
