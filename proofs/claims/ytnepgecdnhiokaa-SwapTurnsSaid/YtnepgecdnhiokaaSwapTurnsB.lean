/- SwapTurns, the case that they pass: the walk of the law. -/
import Derived.Test.YtnepgecdnhiokaaSwapTurnsS
namespace Go.Proofs.Ytnepgecdnhiokaa
open Go.RowKit
set_option linter.unusedSimpArgs false

set_option maxRecDepth 100000 in
set_option maxHeartbeats 40000000 in
theorem turns_B (p : Int) (xs ys : List ByteArray) (A B : Option Addr) (c d : Nat) (q : Int) (us vs : List ByteArray) (C D : Option Addr) (c' d' : Nat) (w : World)
    (_ : -9223372036854775808 ≤ p) (_ : p ≤ 9223372036854775807) (_ : xs.length ≤ c) (_ : c ≤ 9223372036854775807) (_ : ys.length ≤ d) (_ : d ≤ 9223372036854775807) (_ : -9223372036854775808 ≤ q) (_ : q ≤ 9223372036854775807) (_ : us.length ≤ c') (_ : c' ≤ 9223372036854775807) (_ : vs.length ≤ d') (_ : d' ≤ 9223372036854775807) (S : St w w [] [(w.heap.size, D, vs), (w.heap.size, C, us), (w.heap.size, B, ys), (w.heap.size, A, xs)]) (Lp : Kp (light5 xs ys = true)) (Lq : Kp (light5 us vs = true)) (nxs : xs.length ≤ 300) (nys : ys.length ≤ 300) (nus : us.length ≤ 300) (nvs : vs.length ≤ 300) (Sxs : Kp (∀ x ∈ xs, x.size ≤ 9223372036854775807)) (Sys : Kp (∀ x ∈ ys, x.size ≤ 9223372036854775807)) (Sus : Kp (∀ x ∈ us, x.size ≤ 9223372036854775807)) (Svs : Kp (∀ x ∈ vs, x.size ≤ 9223372036854775807)) (hp : p ≤ 524288) (hq : q ≤ 524288) (z : Int × Int) (X Y : Int) (HR : Kp (passX p xs ys q us vs = some z)) (HT : Kp (passX q vs us p ys xs = some (z.2, z.1))) (HX : Kp (p + z.1 = X)) (HY : Kp (q + z.2 = Y)) :
    Calls Try.prog 8 #[.agg #[.int .i64 p, .slice A xs.length c, .slice B ys.length d], .agg #[.int .i64 q, .slice C us.length c', .slice D vs.length d']] w fun e w' => e = .returned (.bool true) ∧ Below w.heap.size w w' := by
  have TB1 : True := trivial
  have TB2 : True := trivial
  have TA1 : True := trivial
  have TA2 : True := trivial
  go_enter Try.func8, Try.ntmps8
  go_wp2_with (first
    | (with_reducible show wpList _ _ _ ({ dst := _, op := .box 24 _, type := _, pos := _, after := _, guard := none } :: _) _ _; have _t := TB1; refine wpList_hk_box rfl _ rfl _ _ _ rfl S ?_; clear S; intro gp w1 S; clear TB1 _t)
    | (with_reducible show wpList _ _ _ ({ dst := _, op := .box 24 _, type := _, pos := _, after := _, guard := none } :: _) _ _; have _t := TB2; refine wpList_hk_box rfl _ rfl _ _ _ rfl S ?_; clear S; intro gq w1 S; clear TB2 _t)
    | (with_reducible show wpList _ _ _ ({ dst := _, op := .load 24 _, type := _, pos := _, after := _, guard := none } :: _) _ _; refine wpList_hk_load rfl _ rfl _ rfl S _ _ _ _ _ (by first | exact ix0 | exact ix1 | exact ix2 | exact ix3 | exact ix4 | exact ix5) ?_)
    | (with_reducible show wpList _ _ _ ({ dst := _, op := .load 24 _, type := _, pos := _, after := _, guard := some _ } :: _) _ _; refine wpList_hk_loadg rfl _ rfl _ rfl S _ _ _ _ _ (by first | exact ix0 | exact ix1 | exact ix2 | exact ix3 | exact ix4 | exact ix5) ?_)
    | (with_reducible show wpList _ _ _ ({ dst := _, op := .alloc 24, type := _, pos := _, after := _, guard := none } :: _) _ _; have _t := TA1; refine wpList_hk_alloc rfl rfl S ?_; clear S; intro gx w1 S; clear TA1 _t)
    | (with_reducible show wpList _ _ _ ({ dst := _, op := .alloc 24, type := _, pos := _, after := _, guard := none } :: _) _ _; have _t := TA2; refine wpList_hk_alloc rfl rfl S ?_; clear S; intro gy w1 S; clear TA2 _t)
    | (with_reducible show wpList _ _ _ ({ dst := _, op := .store 24 _ _, type := _, pos := _, after := _, guard := none } :: _) _ _; refine wpList_hk_store rfl _ _ rfl _ rfl _ _ _ rfl S _ _ _ _ _ (by first | exact ix0 | exact ix1 | exact ix2 | exact ix3 | exact ix4 | exact ix5) rfl rfl rfl ?_; clear S; intro w1 S; simp only [List.set] at S)
    | (go_at_call 10; refine (awake6_any _).mono ?_; rintro e w1 ⟨rfl, hb⟩; replace S := S.call hb; clear hb)
    | (go_at_call_of 11 p; refine (light5_any p xs ys _ _ _ _ _ (S.ln mm3) (S.ln mm2)).mono ?_; rintro e w1 ⟨rfl, hb⟩; rw [Lp.out]; replace S := S.call hb; clear hb)
    | (go_at_call_of 11 q; refine (light5_any q us vs _ _ _ _ _ (S.ln mm1) (S.ln mm0)).mono ?_; rintro e w1 ⟨rfl, hb⟩; rw [Lq.out]; replace S := S.call hb; clear hb; have k0 := (S.hk ix1).c0; have k1 := (S.hk ix0).c0)
    | (go_at_call_of 12 A; refine (Pass_some _ _ _ _ _ _ _ _ _ _ _ _ _ _ _ _ _ _ HR.out HX.out HY.out (S.ln mm3) (S.ln mm2) (S.ln mm1) (S.ln mm0) (by omega) (by omega) (by omega) (by omega) Sxs.out Sys.out Sus.out Svs.out).mono ?_; rintro e w1 ⟨C1, e1, D1, e2, A1, e3, B1, e4, rfl, h1, h2, h3, h4, hb⟩; replace S := ((((S.call hb).add0 h1).add0 h2).add0 h3).add0 h4; clear hb h1 h2 h3 h4))
  replace S := S.drew
  apply share (P := fun (R : Act → World → Prop) (F : Nat → Nat → Option Addr → Nat → Option Addr → Nat → Option Addr → Nat → Option Addr → Nat → Option Addr → Nat → Option Addr → Nat → Option Addr → Nat → Option Addr → Nat → Act) => ∀ (g9 g10 : Nat) (C2 : Option Addr) (g1 : Nat) (D2 : Option Addr) (g2 : Nat) (C3 : Option Addr) (g3 : Nat) (D3 : Option Addr) (g4 : Nat) (C4 : Option Addr) (f1 : Nat) (D4 : Option Addr) (f2 : Nat) (A4 : Option Addr) (f3 : Nat) (B4 : Option Addr) (f4 : Nat) (w1 : World), St w w1 [(g10, 24, #[.int .i64 Y, .slice A4 vs.length f3, .slice B4 us.length f4]), (g9, 24, #[.int .i64 X, .slice C4 ys.length f1, .slice D4 xs.length f2]), (gy, 24, #[.int .i64 X, .slice A1 xs.length e3, .slice B1 ys.length e4]), (gx, 24, #[.int .i64 Y, .slice C1 us.length e1, .slice D1 vs.length e2]), (gq, 24, #[.int .i64 q, .slice C us.length c', .slice D vs.length d']), (gp, 24, #[.int .i64 p, .slice A xs.length c, .slice B ys.length d])] [(0, B4, us), (0, A4, vs), (0, D4, xs), (0, C4, ys), (0, D3, xs), (0, C3, ys), (0, D2, us), (0, C2, vs), (0, B1, ys), (0, A1, xs), (0, D1, vs), (0, C1, us), (w.heap.size, D, vs), (w.heap.size, C, us), (w.heap.size, B, ys), (w.heap.size, A, xs)] → R (F g9 g10 C2 g1 D2 g2 C3 g3 D3 g4 C4 f1 D4 f2 A4 f3 B4 f4) w1)
  case main =>
    intro REST
    refine wp_region_held_drew (S := (fun w' => Blk w' gp 24 #[.int .i64 p, .slice A xs.length c, .slice B ys.length d] ∧ Blk w' gq 24 #[.int .i64 q, .slice C us.length c', .slice D vs.length d'])) (by kernel_rfl) ?_ (fun hHeld => ?_)
    · exact ⟨S.at_ ix3, S.at_ ix2⟩
    refine wpAnyH_take (i := 0) (v := ?_) rfl (by kernel_rfl) (by kernel_rfl) (by kernel_rfl) (fun _ _ _ h => h) (Or.inl ⟨by rfl, ?_⟩) (by assumption) ?_
    rotate_left
    · (intro w hSw; (try dsimp only at hSw); refine hk_take ?_ ?_ ?_ hSw.2; rotate_left; exact rfl; exact rfl)
    try simp only [Act.put, List.getElem_toArray, List.getElem_cons_succ, List.getElem_cons_zero, List.setIfInBounds_toArray, List.set_cons_zero, List.set_cons_succ]
    refine wpAnyH_take (i := 2) (v := ?_) rfl (by kernel_rfl) (by kernel_rfl) (by kernel_rfl) (fun _ _ _ h => h) (Or.inl ⟨by rfl, ?_⟩) (by assumption) ?_
    rotate_left
    · (intro w hSw; (try dsimp only at hSw); refine hk_take ?_ ?_ ?_ hSw.1; rotate_left; exact rfl; exact rfl)
    try simp only [Act.put, List.getElem_toArray, List.getElem_cons_succ, List.getElem_cons_zero, List.setIfInBounds_toArray, List.set_cons_zero, List.set_cons_succ]
    refine wpAnyH_ready (rs := [1, 9, 10]) (by kernel_rfl) (by simp) ?_
    refine AllReadyH.cons rfl (fun K hK => ?_) ?_
    · go_simp
      refine (turn_any _ _ _ _ _ _ _ _ _ _ rfl rfl (S.ln mm5) (S.ln mm4) (by omega) (by omega)).mono ?_
      rintro e w1 ⟨C2, g1, D2, g2, rfl, -, -, -, -, h1, h2, hb⟩
      replace S := ((S.call hb).add0 h1).add0 h2
      clear hb h1 h2
      try simp only []
      refine hK.out _ _ ?_ (fun hHeld => ?_)
      · first | exact ⟨S.at_ ix3, S.at_ ix2⟩ | exact ⟨S.at_ ix4, S.at_ ix3⟩ | exact ⟨S.at_ ix5, S.at_ ix4⟩
      clear hK K
      try simp only [Act.put, List.getElem_toArray, List.getElem_cons_succ, List.getElem_cons_zero, List.setIfInBounds_toArray, List.set_cons_zero, List.set_cons_succ]
      refine wpAnyH_ready (rs := [3, 9, 10]) (by kernel_rfl) (by simp) ?_
      refine AllReadyH.cons rfl (fun K hK => ?_) ?_
      · go_simp
        refine (turn_any _ _ _ _ _ _ _ _ _ _ rfl rfl (S.ln mm9) (S.ln mm8) (by omega) (by omega)).mono ?_
        rintro e w1 ⟨C3, g3, D3, g4, rfl, -, -, -, -, h1, h2, hb⟩
        replace S := ((S.call hb).add0 h1).add0 h2
        clear hb h1 h2
        try simp only []
        refine hK.out _ _ ?_ (fun hHeld => ?_)
        · first | exact ⟨S.at_ ix3, S.at_ ix2⟩ | exact ⟨S.at_ ix4, S.at_ ix3⟩ | exact ⟨S.at_ ix5, S.at_ ix4⟩
        clear hK K
        try simp only [Act.put, List.getElem_toArray, List.getElem_cons_succ, List.getElem_cons_zero, List.setIfInBounds_toArray, List.set_cons_zero, List.set_cons_succ]
        refine wpAnyH_ready (rs := [4, 9, 10]) (by kernel_rfl) (by simp) ?_
        refine AllReadyH.cons rfl (fun K hK => ?_) ?_
        · go_simp
          refine (Pass_some _ _ _ _ _ _ _ _ _ _ _ _ _ _ _ _ _ _ HT.out HY.out HX.out (S.ln mm3) (S.ln mm2) (S.ln mm1) (S.ln mm0) (by omega) (by omega) (by omega) (by omega) Svs.out Sus.out Sys.out Sxs.out).mono ?_
          rintro e w1 ⟨C4, f1, D4, f2, A4, f3, B4, f4, rfl, h1, h2, h3, h4, hb⟩
          replace S := ((((S.call hb).add0 h1).add0 h2).add0 h3).add0 h4
          clear hb h1 h2 h3 h4
          try simp only []
          refine hK.out _ _ ?_ (fun hHeld => ?_)
          · first | exact ⟨S.at_ ix3, S.at_ ix2⟩ | exact ⟨S.at_ ix4, S.at_ ix3⟩ | exact ⟨S.at_ ix5, S.at_ ix4⟩
          clear hK K
          try simp only [Act.put, List.getElem_toArray, List.getElem_cons_succ, List.getElem_cons_zero, List.setIfInBounds_toArray, List.set_cons_zero, List.set_cons_succ]
          refine wpAnyH_take (i := 5) (v := ?_) rfl (by kernel_rfl) (by kernel_rfl) (by kernel_rfl) (fun _ _ _ h => h) (Or.inl ⟨by rfl, ?_⟩) (by assumption) ?_
          rotate_left
          · (intro w hSw; (try dsimp only at hSw); go_simp; try with_reducible rfl)
          try simp only [Act.put, List.getElem_toArray, List.getElem_cons_succ, List.getElem_cons_zero, List.setIfInBounds_toArray, List.set_cons_zero, List.set_cons_succ]
          refine wpAnyH_take (i := 6) (v := ?_) rfl (by kernel_rfl) (by kernel_rfl) (by kernel_rfl) (fun _ _ _ h => h) (Or.inl ⟨by rfl, ?_⟩) (by assumption) ?_
          rotate_left
          · (intro w hSw; (try dsimp only at hSw); go_simp; try with_reducible rfl)
          try simp only [Act.put, List.getElem_toArray, List.getElem_cons_succ, List.getElem_cons_zero, List.setIfInBounds_toArray, List.set_cons_zero, List.set_cons_succ]
          refine wpAnyH_take (i := 7) (v := ?_) rfl (by kernel_rfl) (by kernel_rfl) (by kernel_rfl) (fun _ _ _ h => h) (Or.inl ⟨by rfl, ?_⟩) (by assumption) ?_
          rotate_left
          · (intro w hSw; (try dsimp only at hSw); go_simp; try with_reducible rfl)
          try simp only [Act.put, List.getElem_toArray, List.getElem_cons_succ, List.getElem_cons_zero, List.setIfInBounds_toArray, List.set_cons_zero, List.set_cons_succ]
          refine wpAnyH_take (i := 8) (v := ?_) rfl (by kernel_rfl) (by kernel_rfl) (by kernel_rfl) (fun _ _ _ h => h) (Or.inl ⟨by rfl, ?_⟩) (by assumption) ?_
          rotate_left
          · (intro w hSw; (try dsimp only at hSw); go_simp; try with_reducible rfl)
          try simp only [Act.put, List.getElem_toArray, List.getElem_cons_succ, List.getElem_cons_zero, List.setIfInBounds_toArray, List.set_cons_zero, List.set_cons_succ]
          refine wpAnyH_ready (rs := [9, 10]) (by kernel_rfl) (by simp) ?_
          refine AllReadyH.cons rfl (fun K hK => ?_) ?_
          · refine wp_st_alloc 24 rfl _ Try.hk_zero Try.hk_not S ?_
            clear S
            intro g9 w1 S
            refine hK.out _ _ ?_ (fun hHeld => ?_)
            · first | exact ⟨S.at_ ix3, S.at_ ix2⟩ | exact ⟨S.at_ ix4, S.at_ ix3⟩ | exact ⟨S.at_ ix5, S.at_ ix4⟩
            clear hK K
            try simp only [Act.put, List.getElem_toArray, List.getElem_cons_succ, List.getElem_cons_zero, List.setIfInBounds_toArray, List.set_cons_zero, List.set_cons_succ]
            refine wpAnyH_ready (rs := [10]) (by kernel_rfl) (by simp) ?_
            refine AllReadyH.cons rfl (fun K hK => ?_) ?_
            · refine wp_st_alloc 24 rfl _ Try.hk_zero Try.hk_not S ?_
              clear S
              intro g10 w1 S
              refine hK.out _ _ ?_ (fun hHeld => ?_)
              · first | exact ⟨S.at_ ix3, S.at_ ix2⟩ | exact ⟨S.at_ ix4, S.at_ ix3⟩ | exact ⟨S.at_ ix5, S.at_ ix4⟩
              clear hK K
              try simp only [Act.put, List.getElem_toArray, List.getElem_cons_succ, List.getElem_cons_zero, List.setIfInBounds_toArray, List.set_cons_zero, List.set_cons_succ]
              refine wpAnyH_ready (rs := [11]) (by kernel_rfl) (by simp) ?_
              refine AllReadyH.cons rfl (fun K hK => ?_) ?_
              · refine hk_store _ _ rfl _ rfl _ _ _ rfl S _ _ _ _ _ (by first | exact ix0 | exact ix1) rfl rfl rfl ?_
                clear S
                intro w1 S
                simp only [List.set] at S
                refine hK.out _ _ ?_ (fun hHeld => ?_)
                · first | exact ⟨S.at_ ix3, S.at_ ix2⟩ | exact ⟨S.at_ ix4, S.at_ ix3⟩ | exact ⟨S.at_ ix5, S.at_ ix4⟩
                clear hK K
                try simp only [Act.put, List.getElem_toArray, List.getElem_cons_succ, List.getElem_cons_zero, List.setIfInBounds_toArray, List.set_cons_zero, List.set_cons_succ]
                refine wpAnyH_ready (rs := [12]) (by kernel_rfl) (by simp) ?_
                refine AllReadyH.cons rfl (fun K hK => ?_) ?_
                · refine hk_store _ _ rfl _ rfl _ _ _ rfl S _ _ _ _ _ (by first | exact ix0 | exact ix1) rfl rfl rfl ?_
                  clear S
                  intro w1 S
                  simp only [List.set] at S
                  refine hK.out _ _ ?_ (fun hHeld => ?_)
                  · first | exact ⟨S.at_ ix3, S.at_ ix2⟩ | exact ⟨S.at_ ix4, S.at_ ix3⟩ | exact ⟨S.at_ ix5, S.at_ ix4⟩
                  clear hK K
                  try simp only [Act.put, List.getElem_toArray, List.getElem_cons_succ, List.getElem_cons_zero, List.setIfInBounds_toArray, List.set_cons_zero, List.set_cons_succ]
                  refine wpAnyH_take (i := 13) (v := ?_) rfl (by kernel_rfl) (by kernel_rfl) (by kernel_rfl) (fun _ _ _ h => h) (Or.inl ⟨by rfl, ?_⟩) (by assumption) ?_
                  rotate_left
                  · (intro w hSw; (try dsimp only at hSw); go_simp; try with_reducible rfl)
                  try simp only [Act.put, List.getElem_toArray, List.getElem_cons_succ, List.getElem_cons_zero, List.setIfInBounds_toArray, List.set_cons_zero, List.set_cons_succ]
                  refine wpAnyH_done (by kernel_rfl) ?_ _
                  first
                    | exact REST g9 g10 C2 g1 D2 g2 C3 g3 D3 g4 C4 f1 D4 f2 A4 f3 B4 f4 w1 S
                    | exact REST g9 g10 C2 g1 D2 g2 C3 g3 D3 g4 C4 f1 D4 f2 A4 f3 B4 f4 w1 S.swap
                exact AllReadyH.nil
              exact AllReadyH.nil
            exact AllReadyH.nil
          refine AllReadyH.cons rfl (fun K hK => ?_) ?_
          · refine wp_st_alloc 24 rfl _ Try.hk_zero Try.hk_not S ?_
            clear S
            intro g10 w1 S
            refine hK.out _ _ ?_ (fun hHeld => ?_)
            · first | exact ⟨S.at_ ix3, S.at_ ix2⟩ | exact ⟨S.at_ ix4, S.at_ ix3⟩ | exact ⟨S.at_ ix5, S.at_ ix4⟩
            clear hK K
            try simp only [Act.put, List.getElem_toArray, List.getElem_cons_succ, List.getElem_cons_zero, List.setIfInBounds_toArray, List.set_cons_zero, List.set_cons_succ]
            refine wpAnyH_ready (rs := [9]) (by kernel_rfl) (by simp) ?_
            refine AllReadyH.cons rfl (fun K hK => ?_) ?_
            · refine wp_st_alloc 24 rfl _ Try.hk_zero Try.hk_not S ?_
              clear S
              intro g9 w1 S
              refine hK.out _ _ ?_ (fun hHeld => ?_)
              · first | exact ⟨S.at_ ix3, S.at_ ix2⟩ | exact ⟨S.at_ ix4, S.at_ ix3⟩ | exact ⟨S.at_ ix5, S.at_ ix4⟩
              clear hK K
              try simp only [Act.put, List.getElem_toArray, List.getElem_cons_succ, List.getElem_cons_zero, List.setIfInBounds_toArray, List.set_cons_zero, List.set_cons_succ]
              refine wpAnyH_ready (rs := [11]) (by kernel_rfl) (by simp) ?_
              refine AllReadyH.cons rfl (fun K hK => ?_) ?_
              · refine hk_store _ _ rfl _ rfl _ _ _ rfl S _ _ _ _ _ (by first | exact ix0 | exact ix1) rfl rfl rfl ?_
                clear S
                intro w1 S
                simp only [List.set] at S
                refine hK.out _ _ ?_ (fun hHeld => ?_)
                · first | exact ⟨S.at_ ix3, S.at_ ix2⟩ | exact ⟨S.at_ ix4, S.at_ ix3⟩ | exact ⟨S.at_ ix5, S.at_ ix4⟩
                clear hK K
                try simp only [Act.put, List.getElem_toArray, List.getElem_cons_succ, List.getElem_cons_zero, List.setIfInBounds_toArray, List.set_cons_zero, List.set_cons_succ]
                refine wpAnyH_ready (rs := [12]) (by kernel_rfl) (by simp) ?_
                refine AllReadyH.cons rfl (fun K hK => ?_) ?_
                · refine hk_store _ _ rfl _ rfl _ _ _ rfl S _ _ _ _ _ (by first | exact ix0 | exact ix1) rfl rfl rfl ?_
                  clear S
                  intro w1 S
                  simp only [List.set] at S
                  refine hK.out _ _ ?_ (fun hHeld => ?_)
                  · first | exact ⟨S.at_ ix3, S.at_ ix2⟩ | exact ⟨S.at_ ix4, S.at_ ix3⟩ | exact ⟨S.at_ ix5, S.at_ ix4⟩
                  clear hK K
                  try simp only [Act.put, List.getElem_toArray, List.getElem_cons_succ, List.getElem_cons_zero, List.setIfInBounds_toArray, List.set_cons_zero, List.set_cons_succ]
                  refine wpAnyH_take (i := 13) (v := ?_) rfl (by kernel_rfl) (by kernel_rfl) (by kernel_rfl) (fun _ _ _ h => h) (Or.inl ⟨by rfl, ?_⟩) (by assumption) ?_
                  rotate_left
                  · (intro w hSw; (try dsimp only at hSw); go_simp; try with_reducible rfl)
                  try simp only [Act.put, List.getElem_toArray, List.getElem_cons_succ, List.getElem_cons_zero, List.setIfInBounds_toArray, List.set_cons_zero, List.set_cons_succ]
                  refine wpAnyH_done (by kernel_rfl) ?_ _
                  first
                    | exact REST g9 g10 C2 g1 D2 g2 C3 g3 D3 g4 C4 f1 D4 f2 A4 f3 B4 f4 w1 S
                    | exact REST g9 g10 C2 g1 D2 g2 C3 g3 D3 g4 C4 f1 D4 f2 A4 f3 B4 f4 w1 S.swap
                exact AllReadyH.nil
              exact AllReadyH.nil
            exact AllReadyH.nil
          exact AllReadyH.nil
        refine AllReadyH.cons rfl (fun K hK => ?_) ?_
        · refine wp_st_alloc 24 rfl _ Try.hk_zero Try.hk_not S ?_
          clear S
          intro g9 w1 S
          refine hK.out _ _ ?_ (fun hHeld => ?_)
          · first | exact ⟨S.at_ ix3, S.at_ ix2⟩ | exact ⟨S.at_ ix4, S.at_ ix3⟩ | exact ⟨S.at_ ix5, S.at_ ix4⟩
          clear hK K
          try simp only [Act.put, List.getElem_toArray, List.getElem_cons_succ, List.getElem_cons_zero, List.setIfInBounds_toArray, List.set_cons_zero, List.set_cons_succ]
          refine wpAnyH_ready (rs := [4, 10]) (by kernel_rfl) (by simp) ?_
          refine AllReadyH.cons rfl (fun K hK => ?_) ?_
          · go_simp
            refine (Pass_some _ _ _ _ _ _ _ _ _ _ _ _ _ _ _ _ _ _ HT.out HY.out HX.out (S.ln mm3) (S.ln mm2) (S.ln mm1) (S.ln mm0) (by omega) (by omega) (by omega) (by omega) Svs.out Sus.out Sys.out Sxs.out).mono ?_
            rintro e w1 ⟨C4, f1, D4, f2, A4, f3, B4, f4, rfl, h1, h2, h3, h4, hb⟩
            replace S := ((((S.call hb).add0 h1).add0 h2).add0 h3).add0 h4
            clear hb h1 h2 h3 h4
            try simp only []
            refine hK.out _ _ ?_ (fun hHeld => ?_)
            · first | exact ⟨S.at_ ix3, S.at_ ix2⟩ | exact ⟨S.at_ ix4, S.at_ ix3⟩ | exact ⟨S.at_ ix5, S.at_ ix4⟩
            clear hK K
            try simp only [Act.put, List.getElem_toArray, List.getElem_cons_succ, List.getElem_cons_zero, List.setIfInBounds_toArray, List.set_cons_zero, List.set_cons_succ]
            refine wpAnyH_take (i := 5) (v := ?_) rfl (by kernel_rfl) (by kernel_rfl) (by kernel_rfl) (fun _ _ _ h => h) (Or.inl ⟨by rfl, ?_⟩) (by assumption) ?_
            rotate_left
            · (intro w hSw; (try dsimp only at hSw); go_simp; try with_reducible rfl)
            try simp only [Act.put, List.getElem_toArray, List.getElem_cons_succ, List.getElem_cons_zero, List.setIfInBounds_toArray, List.set_cons_zero, List.set_cons_succ]
            refine wpAnyH_take (i := 6) (v := ?_) rfl (by kernel_rfl) (by kernel_rfl) (by kernel_rfl) (fun _ _ _ h => h) (Or.inl ⟨by rfl, ?_⟩) (by assumption) ?_
            rotate_left
            · (intro w hSw; (try dsimp only at hSw); go_simp; try with_reducible rfl)
            try simp only [Act.put, List.getElem_toArray, List.getElem_cons_succ, List.getElem_cons_zero, List.setIfInBounds_toArray, List.set_cons_zero, List.set_cons_succ]
            refine wpAnyH_take (i := 7) (v := ?_) rfl (by kernel_rfl) (by kernel_rfl) (by kernel_rfl) (fun _ _ _ h => h) (Or.inl ⟨by rfl, ?_⟩) (by assumption) ?_
            rotate_left
            · (intro w hSw; (try dsimp only at hSw); go_simp; try with_reducible rfl)
            try simp only [Act.put, List.getElem_toArray, List.getElem_cons_succ, List.getElem_cons_zero, List.setIfInBounds_toArray, List.set_cons_zero, List.set_cons_succ]
            refine wpAnyH_take (i := 8) (v := ?_) rfl (by kernel_rfl) (by kernel_rfl) (by kernel_rfl) (fun _ _ _ h => h) (Or.inl ⟨by rfl, ?_⟩) (by assumption) ?_
            rotate_left
            · (intro w hSw; (try dsimp only at hSw); go_simp; try with_reducible rfl)
            try simp only [Act.put, List.getElem_toArray, List.getElem_cons_succ, List.getElem_cons_zero, List.setIfInBounds_toArray, List.set_cons_zero, List.set_cons_succ]
            refine wpAnyH_ready (rs := [10]) (by kernel_rfl) (by simp) ?_
            refine AllReadyH.cons rfl (fun K hK => ?_) ?_
            · refine wp_st_alloc 24 rfl _ Try.hk_zero Try.hk_not S ?_
              clear S
              intro g10 w1 S
              refine hK.out _ _ ?_ (fun hHeld => ?_)
              · first | exact ⟨S.at_ ix3, S.at_ ix2⟩ | exact ⟨S.at_ ix4, S.at_ ix3⟩ | exact ⟨S.at_ ix5, S.at_ ix4⟩
              clear hK K
              try simp only [Act.put, List.getElem_toArray, List.getElem_cons_succ, List.getElem_cons_zero, List.setIfInBounds_toArray, List.set_cons_zero, List.set_cons_succ]
              refine wpAnyH_ready (rs := [11]) (by kernel_rfl) (by simp) ?_
              refine AllReadyH.cons rfl (fun K hK => ?_) ?_
              · refine hk_store _ _ rfl _ rfl _ _ _ rfl S _ _ _ _ _ (by first | exact ix0 | exact ix1) rfl rfl rfl ?_
                clear S
                intro w1 S
                simp only [List.set] at S
                refine hK.out _ _ ?_ (fun hHeld => ?_)
                · first | exact ⟨S.at_ ix3, S.at_ ix2⟩ | exact ⟨S.at_ ix4, S.at_ ix3⟩ | exact ⟨S.at_ ix5, S.at_ ix4⟩
                clear hK K
                try simp only [Act.put, List.getElem_toArray, List.getElem_cons_succ, List.getElem_cons_zero, List.setIfInBounds_toArray, List.set_cons_zero, List.set_cons_succ]
                refine wpAnyH_ready (rs := [12]) (by kernel_rfl) (by simp) ?_
                refine AllReadyH.cons rfl (fun K hK => ?_) ?_
                · refine hk_store _ _ rfl _ rfl _ _ _ rfl S _ _ _ _ _ (by first | exact ix0 | exact ix1) rfl rfl rfl ?_
                  clear S
                  intro w1 S
                  simp only [List.set] at S
                  refine hK.out _ _ ?_ (fun hHeld => ?_)
                  · first | exact ⟨S.at_ ix3, S.at_ ix2⟩ | exact ⟨S.at_ ix4, S.at_ ix3⟩ | exact ⟨S.at_ ix5, S.at_ ix4⟩
                  clear hK K
                  try simp only [Act.put, List.getElem_toArray, List.getElem_cons_succ, List.getElem_cons_zero, List.setIfInBounds_toArray, List.set_cons_zero, List.set_cons_succ]
                  refine wpAnyH_take (i := 13) (v := ?_) rfl (by kernel_rfl) (by kernel_rfl) (by kernel_rfl) (fun _ _ _ h => h) (Or.inl ⟨by rfl, ?_⟩) (by assumption) ?_
                  rotate_left
                  · (intro w hSw; (try dsimp only at hSw); go_simp; try with_reducible rfl)
                  try simp only [Act.put, List.getElem_toArray, List.getElem_cons_succ, List.getElem_cons_zero, List.setIfInBounds_toArray, List.set_cons_zero, List.set_cons_succ]
                  refine wpAnyH_done (by kernel_rfl) ?_ _
                  first
                    | exact REST g9 g10 C2 g1 D2 g2 C3 g3 D3 g4 C4 f1 D4 f2 A4 f3 B4 f4 w1 S
                    | exact REST g9 g10 C2 g1 D2 g2 C3 g3 D3 g4 C4 f1 D4 f2 A4 f3 B4 f4 w1 S.swap
                exact AllReadyH.nil
              exact AllReadyH.nil
            exact AllReadyH.nil
          refine AllReadyH.cons rfl (fun K hK => ?_) ?_
          · refine wp_st_alloc 24 rfl _ Try.hk_zero Try.hk_not S ?_
            clear S
            intro g10 w1 S
            refine hK.out _ _ ?_ (fun hHeld => ?_)
            · first | exact ⟨S.at_ ix3, S.at_ ix2⟩ | exact ⟨S.at_ ix4, S.at_ ix3⟩ | exact ⟨S.at_ ix5, S.at_ ix4⟩
            clear hK K
            try simp only [Act.put, List.getElem_toArray, List.getElem_cons_succ, List.getElem_cons_zero, List.setIfInBounds_toArray, List.set_cons_zero, List.set_cons_succ]
            refine wpAnyH_ready (rs := [4]) (by kernel_rfl) (by simp) ?_
            refine AllReadyH.cons rfl (fun K hK => ?_) ?_
            · go_simp
              refine (Pass_some _ _ _ _ _ _ _ _ _ _ _ _ _ _ _ _ _ _ HT.out HY.out HX.out (S.ln mm3) (S.ln mm2) (S.ln mm1) (S.ln mm0) (by omega) (by omega) (by omega) (by omega) Svs.out Sus.out Sys.out Sxs.out).mono ?_
              rintro e w1 ⟨C4, f1, D4, f2, A4, f3, B4, f4, rfl, h1, h2, h3, h4, hb⟩
              replace S := ((((S.call hb).add0 h1).add0 h2).add0 h3).add0 h4
              clear hb h1 h2 h3 h4
              try simp only []
              refine hK.out _ _ ?_ (fun hHeld => ?_)
              · first | exact ⟨S.at_ ix3, S.at_ ix2⟩ | exact ⟨S.at_ ix4, S.at_ ix3⟩ | exact ⟨S.at_ ix5, S.at_ ix4⟩
              clear hK K
              try simp only [Act.put, List.getElem_toArray, List.getElem_cons_succ, List.getElem_cons_zero, List.setIfInBounds_toArray, List.set_cons_zero, List.set_cons_succ]
              refine wpAnyH_take (i := 5) (v := ?_) rfl (by kernel_rfl) (by kernel_rfl) (by kernel_rfl) (fun _ _ _ h => h) (Or.inl ⟨by rfl, ?_⟩) (by assumption) ?_
              rotate_left
              · (intro w hSw; (try dsimp only at hSw); go_simp; try with_reducible rfl)
              try simp only [Act.put, List.getElem_toArray, List.getElem_cons_succ, List.getElem_cons_zero, List.setIfInBounds_toArray, List.set_cons_zero, List.set_cons_succ]
              refine wpAnyH_take (i := 6) (v := ?_) rfl (by kernel_rfl) (by kernel_rfl) (by kernel_rfl) (fun _ _ _ h => h) (Or.inl ⟨by rfl, ?_⟩) (by assumption) ?_
              rotate_left
              · (intro w hSw; (try dsimp only at hSw); go_simp; try with_reducible rfl)
              try simp only [Act.put, List.getElem_toArray, List.getElem_cons_succ, List.getElem_cons_zero, List.setIfInBounds_toArray, List.set_cons_zero, List.set_cons_succ]
              refine wpAnyH_take (i := 7) (v := ?_) rfl (by kernel_rfl) (by kernel_rfl) (by kernel_rfl) (fun _ _ _ h => h) (Or.inl ⟨by rfl, ?_⟩) (by assumption) ?_
              rotate_left
              · (intro w hSw; (try dsimp only at hSw); go_simp; try with_reducible rfl)
              try simp only [Act.put, List.getElem_toArray, List.getElem_cons_succ, List.getElem_cons_zero, List.setIfInBounds_toArray, List.set_cons_zero, List.set_cons_succ]
              refine wpAnyH_take (i := 8) (v := ?_) rfl (by kernel_rfl) (by kernel_rfl) (by kernel_rfl) (fun _ _ _ h => h) (Or.inl ⟨by rfl, ?_⟩) (by assumption) ?_
              rotate_left
              · (intro w hSw; (try dsimp only at hSw); go_simp; try with_reducible rfl)
              try simp only [Act.put, List.getElem_toArray, List.getElem_cons_succ, List.getElem_cons_zero, List.setIfInBounds_toArray, List.set_cons_zero, List.set_cons_succ]
              refine wpAnyH_ready (rs := [11]) (by kernel_rfl) (by simp) ?_
              refine AllReadyH.cons rfl (fun K hK => ?_) ?_
              · refine hk_store _ _ rfl _ rfl _ _ _ rfl S _ _ _ _ _ (by first | exact ix0 | exact ix1) rfl rfl rfl ?_
                clear S
                intro w1 S
                simp only [List.set] at S
                refine hK.out _ _ ?_ (fun hHeld => ?_)
                · first | exact ⟨S.at_ ix3, S.at_ ix2⟩ | exact ⟨S.at_ ix4, S.at_ ix3⟩ | exact ⟨S.at_ ix5, S.at_ ix4⟩
                clear hK K
                try simp only [Act.put, List.getElem_toArray, List.getElem_cons_succ, List.getElem_cons_zero, List.setIfInBounds_toArray, List.set_cons_zero, List.set_cons_succ]
                refine wpAnyH_ready (rs := [12]) (by kernel_rfl) (by simp) ?_
                refine AllReadyH.cons rfl (fun K hK => ?_) ?_
                · refine hk_store _ _ rfl _ rfl _ _ _ rfl S _ _ _ _ _ (by first | exact ix0 | exact ix1) rfl rfl rfl ?_
                  clear S
                  intro w1 S
                  simp only [List.set] at S
                  refine hK.out _ _ ?_ (fun hHeld => ?_)
                  · first | exact ⟨S.at_ ix3, S.at_ ix2⟩ | exact ⟨S.at_ ix4, S.at_ ix3⟩ | exact ⟨S.at_ ix5, S.at_ ix4⟩
                  clear hK K
                  try simp only [Act.put, List.getElem_toArray, List.getElem_cons_succ, List.getElem_cons_zero, List.setIfInBounds_toArray, List.set_cons_zero, List.set_cons_succ]
                  refine wpAnyH_take (i := 13) (v := ?_) rfl (by kernel_rfl) (by kernel_rfl) (by kernel_rfl) (fun _ _ _ h => h) (Or.inl ⟨by rfl, ?_⟩) (by assumption) ?_
                  rotate_left
                  · (intro w hSw; (try dsimp only at hSw); go_simp; try with_reducible rfl)
                  try simp only [Act.put, List.getElem_toArray, List.getElem_cons_succ, List.getElem_cons_zero, List.setIfInBounds_toArray, List.set_cons_zero, List.set_cons_succ]
                  refine wpAnyH_done (by kernel_rfl) ?_ _
                  first
                    | exact REST g9 g10 C2 g1 D2 g2 C3 g3 D3 g4 C4 f1 D4 f2 A4 f3 B4 f4 w1 S
                    | exact REST g9 g10 C2 g1 D2 g2 C3 g3 D3 g4 C4 f1 D4 f2 A4 f3 B4 f4 w1 S.swap
                exact AllReadyH.nil
              exact AllReadyH.nil
            exact AllReadyH.nil
          exact AllReadyH.nil
        refine AllReadyH.cons rfl (fun K hK => ?_) ?_
        · refine wp_st_alloc 24 rfl _ Try.hk_zero Try.hk_not S ?_
          clear S
          intro g10 w1 S
          refine hK.out _ _ ?_ (fun hHeld => ?_)
          · first | exact ⟨S.at_ ix3, S.at_ ix2⟩ | exact ⟨S.at_ ix4, S.at_ ix3⟩ | exact ⟨S.at_ ix5, S.at_ ix4⟩
          clear hK K
          try simp only [Act.put, List.getElem_toArray, List.getElem_cons_succ, List.getElem_cons_zero, List.setIfInBounds_toArray, List.set_cons_zero, List.set_cons_succ]
          refine wpAnyH_ready (rs := [4, 9]) (by kernel_rfl) (by simp) ?_
          refine AllReadyH.cons rfl (fun K hK => ?_) ?_
          · go_simp
            refine (Pass_some _ _ _ _ _ _ _ _ _ _ _ _ _ _ _ _ _ _ HT.out HY.out HX.out (S.ln mm3) (S.ln mm2) (S.ln mm1) (S.ln mm0) (by omega) (by omega) (by omega) (by omega) Svs.out Sus.out Sys.out Sxs.out).mono ?_
            rintro e w1 ⟨C4, f1, D4, f2, A4, f3, B4, f4, rfl, h1, h2, h3, h4, hb⟩
            replace S := ((((S.call hb).add0 h1).add0 h2).add0 h3).add0 h4
            clear hb h1 h2 h3 h4
            try simp only []
            refine hK.out _ _ ?_ (fun hHeld => ?_)
            · first | exact ⟨S.at_ ix3, S.at_ ix2⟩ | exact ⟨S.at_ ix4, S.at_ ix3⟩ | exact ⟨S.at_ ix5, S.at_ ix4⟩
            clear hK K
            try simp only [Act.put, List.getElem_toArray, List.getElem_cons_succ, List.getElem_cons_zero, List.setIfInBounds_toArray, List.set_cons_zero, List.set_cons_succ]
            refine wpAnyH_take (i := 5) (v := ?_) rfl (by kernel_rfl) (by kernel_rfl) (by kernel_rfl) (fun _ _ _ h => h) (Or.inl ⟨by rfl, ?_⟩) (by assumption) ?_
            rotate_left
            · (intro w hSw; (try dsimp only at hSw); go_simp; try with_reducible rfl)
            try simp only [Act.put, List.getElem_toArray, List.getElem_cons_succ, List.getElem_cons_zero, List.setIfInBounds_toArray, List.set_cons_zero, List.set_cons_succ]
            refine wpAnyH_take (i := 6) (v := ?_) rfl (by kernel_rfl) (by kernel_rfl) (by kernel_rfl) (fun _ _ _ h => h) (Or.inl ⟨by rfl, ?_⟩) (by assumption) ?_
            rotate_left
            · (intro w hSw; (try dsimp only at hSw); go_simp; try with_reducible rfl)
            try simp only [Act.put, List.getElem_toArray, List.getElem_cons_succ, List.getElem_cons_zero, List.setIfInBounds_toArray, List.set_cons_zero, List.set_cons_succ]
            refine wpAnyH_take (i := 7) (v := ?_) rfl (by kernel_rfl) (by kernel_rfl) (by kernel_rfl) (fun _ _ _ h => h) (Or.inl ⟨by rfl, ?_⟩) (by assumption) ?_
            rotate_left
            · (intro w hSw; (try dsimp only at hSw); go_simp; try with_reducible rfl)
            try simp only [Act.put, List.getElem_toArray, List.getElem_cons_succ, List.getElem_cons_zero, List.setIfInBounds_toArray, List.set_cons_zero, List.set_cons_succ]
            refine wpAnyH_take (i := 8) (v := ?_) rfl (by kernel_rfl) (by kernel_rfl) (by kernel_rfl) (fun _ _ _ h => h) (Or.inl ⟨by rfl, ?_⟩) (by assumption) ?_
            rotate_left
            · (intro w hSw; (try dsimp only at hSw); go_simp; try with_reducible rfl)
            try simp only [Act.put, List.getElem_toArray, List.getElem_cons_succ, List.getElem_cons_zero, List.setIfInBounds_toArray, List.set_cons_zero, List.set_cons_succ]
            refine wpAnyH_ready (rs := [9]) (by kernel_rfl) (by simp) ?_
            refine AllReadyH.cons rfl (fun K hK => ?_) ?_
            · refine wp_st_alloc 24 rfl _ Try.hk_zero Try.hk_not S ?_
              clear S
              intro g9 w1 S
              refine hK.out _ _ ?_ (fun hHeld => ?_)
              · first | exact ⟨S.at_ ix3, S.at_ ix2⟩ | exact ⟨S.at_ ix4, S.at_ ix3⟩ | exact ⟨S.at_ ix5, S.at_ ix4⟩
              clear hK K
              try simp only [Act.put, List.getElem_toArray, List.getElem_cons_succ, List.getElem_cons_zero, List.setIfInBounds_toArray, List.set_cons_zero, List.set_cons_succ]
              refine wpAnyH_ready (rs := [11]) (by kernel_rfl) (by simp) ?_
              refine AllReadyH.cons rfl (fun K hK => ?_) ?_
              · refine hk_store _ _ rfl _ rfl _ _ _ rfl S _ _ _ _ _ (by first | exact ix0 | exact ix1) rfl rfl rfl ?_
                clear S
                intro w1 S
                simp only [List.set] at S
                refine hK.out _ _ ?_ (fun hHeld => ?_)
                · first | exact ⟨S.at_ ix3, S.at_ ix2⟩ | exact ⟨S.at_ ix4, S.at_ ix3⟩ | exact ⟨S.at_ ix5, S.at_ ix4⟩
                clear hK K
                try simp only [Act.put, List.getElem_toArray, List.getElem_cons_succ, List.getElem_cons_zero, List.setIfInBounds_toArray, List.set_cons_zero, List.set_cons_succ]
                refine wpAnyH_ready (rs := [12]) (by kernel_rfl) (by simp) ?_
                refine AllReadyH.cons rfl (fun K hK => ?_) ?_
                · refine hk_store _ _ rfl _ rfl _ _ _ rfl S _ _ _ _ _ (by first | exact ix0 | exact ix1) rfl rfl rfl ?_
                  clear S
                  intro w1 S
                  simp only [List.set] at S
                  refine hK.out _ _ ?_ (fun hHeld => ?_)
                  · first | exact ⟨S.at_ ix3, S.at_ ix2⟩ | exact ⟨S.at_ ix4, S.at_ ix3⟩ | exact ⟨S.at_ ix5, S.at_ ix4⟩
                  clear hK K
                  try simp only [Act.put, List.getElem_toArray, List.getElem_cons_succ, List.getElem_cons_zero, List.setIfInBounds_toArray, List.set_cons_zero, List.set_cons_succ]
                  refine wpAnyH_take (i := 13) (v := ?_) rfl (by kernel_rfl) (by kernel_rfl) (by kernel_rfl) (fun _ _ _ h => h) (Or.inl ⟨by rfl, ?_⟩) (by assumption) ?_
                  rotate_left
                  · (intro w hSw; (try dsimp only at hSw); go_simp; try with_reducible rfl)
                  try simp only [Act.put, List.getElem_toArray, List.getElem_cons_succ, List.getElem_cons_zero, List.setIfInBounds_toArray, List.set_cons_zero, List.set_cons_succ]
                  refine wpAnyH_done (by kernel_rfl) ?_ _
                  first
                    | exact REST g9 g10 C2 g1 D2 g2 C3 g3 D3 g4 C4 f1 D4 f2 A4 f3 B4 f4 w1 S
                    | exact REST g9 g10 C2 g1 D2 g2 C3 g3 D3 g4 C4 f1 D4 f2 A4 f3 B4 f4 w1 S.swap
                exact AllReadyH.nil
              exact AllReadyH.nil
            exact AllReadyH.nil
          refine AllReadyH.cons rfl (fun K hK => ?_) ?_
          · refine wp_st_alloc 24 rfl _ Try.hk_zero Try.hk_not S ?_
            clear S
            intro g9 w1 S
            refine hK.out _ _ ?_ (fun hHeld => ?_)
            · first | exact ⟨S.at_ ix3, S.at_ ix2⟩ | exact ⟨S.at_ ix4, S.at_ ix3⟩ | exact ⟨S.at_ ix5, S.at_ ix4⟩
            clear hK K
            try simp only [Act.put, List.getElem_toArray, List.getElem_cons_succ, List.getElem_cons_zero, List.setIfInBounds_toArray, List.set_cons_zero, List.set_cons_succ]
            refine wpAnyH_ready (rs := [4]) (by kernel_rfl) (by simp) ?_
            refine AllReadyH.cons rfl (fun K hK => ?_) ?_
            · go_simp
              refine (Pass_some _ _ _ _ _ _ _ _ _ _ _ _ _ _ _ _ _ _ HT.out HY.out HX.out (S.ln mm3) (S.ln mm2) (S.ln mm1) (S.ln mm0) (by omega) (by omega) (by omega) (by omega) Svs.out Sus.out Sys.out Sxs.out).mono ?_
              rintro e w1 ⟨C4, f1, D4, f2, A4, f3, B4, f4, rfl, h1, h2, h3, h4, hb⟩
              replace S := ((((S.call hb).add0 h1).add0 h2).add0 h3).add0 h4
              clear hb h1 h2 h3 h4
              try simp only []
              refine hK.out _ _ ?_ (fun hHeld => ?_)
              · first | exact ⟨S.at_ ix3, S.at_ ix2⟩ | exact ⟨S.at_ ix4, S.at_ ix3⟩ | exact ⟨S.at_ ix5, S.at_ ix4⟩
              clear hK K
              try simp only [Act.put, List.getElem_toArray, List.getElem_cons_succ, List.getElem_cons_zero, List.setIfInBounds_toArray, List.set_cons_zero, List.set_cons_succ]
              refine wpAnyH_take (i := 5) (v := ?_) rfl (by kernel_rfl) (by kernel_rfl) (by kernel_rfl) (fun _ _ _ h => h) (Or.inl ⟨by rfl, ?_⟩) (by assumption) ?_
              rotate_left
              · (intro w hSw; (try dsimp only at hSw); go_simp; try with_reducible rfl)
              try simp only [Act.put, List.getElem_toArray, List.getElem_cons_succ, List.getElem_cons_zero, List.setIfInBounds_toArray, List.set_cons_zero, List.set_cons_succ]
              refine wpAnyH_take (i := 6) (v := ?_) rfl (by kernel_rfl) (by kernel_rfl) (by kernel_rfl) (fun _ _ _ h => h) (Or.inl ⟨by rfl, ?_⟩) (by assumption) ?_
              rotate_left
              · (intro w hSw; (try dsimp only at hSw); go_simp; try with_reducible rfl)
              try simp only [Act.put, List.getElem_toArray, List.getElem_cons_succ, List.getElem_cons_zero, List.setIfInBounds_toArray, List.set_cons_zero, List.set_cons_succ]
              refine wpAnyH_take (i := 7) (v := ?_) rfl (by kernel_rfl) (by kernel_rfl) (by kernel_rfl) (fun _ _ _ h => h) (Or.inl ⟨by rfl, ?_⟩) (by assumption) ?_
              rotate_left
              · (intro w hSw; (try dsimp only at hSw); go_simp; try with_reducible rfl)
              try simp only [Act.put, List.getElem_toArray, List.getElem_cons_succ, List.getElem_cons_zero, List.setIfInBounds_toArray, List.set_cons_zero, List.set_cons_succ]
              refine wpAnyH_take (i := 8) (v := ?_) rfl (by kernel_rfl) (by kernel_rfl) (by kernel_rfl) (fun _ _ _ h => h) (Or.inl ⟨by rfl, ?_⟩) (by assumption) ?_
              rotate_left
              · (intro w hSw; (try dsimp only at hSw); go_simp; try with_reducible rfl)
              try simp only [Act.put, List.getElem_toArray, List.getElem_cons_succ, List.getElem_cons_zero, List.setIfInBounds_toArray, List.set_cons_zero, List.set_cons_succ]
              refine wpAnyH_ready (rs := [11]) (by kernel_rfl) (by simp) ?_
              refine AllReadyH.cons rfl (fun K hK => ?_) ?_
              · refine hk_store _ _ rfl _ rfl _ _ _ rfl S _ _ _ _ _ (by first | exact ix0 | exact ix1) rfl rfl rfl ?_
                clear S
                intro w1 S
                simp only [List.set] at S
                refine hK.out _ _ ?_ (fun hHeld => ?_)
                · first | exact ⟨S.at_ ix3, S.at_ ix2⟩ | exact ⟨S.at_ ix4, S.at_ ix3⟩ | exact ⟨S.at_ ix5, S.at_ ix4⟩
                clear hK K
                try simp only [Act.put, List.getElem_toArray, List.getElem_cons_succ, List.getElem_cons_zero, List.setIfInBounds_toArray, List.set_cons_zero, List.set_cons_succ]
                refine wpAnyH_ready (rs := [12]) (by kernel_rfl) (by simp) ?_
                refine AllReadyH.cons rfl (fun K hK => ?_) ?_
                · refine hk_store _ _ rfl _ rfl _ _ _ rfl S _ _ _ _ _ (by first | exact ix0 | exact ix1) rfl rfl rfl ?_
                  clear S
                  intro w1 S
                  simp only [List.set] at S
                  refine hK.out _ _ ?_ (fun hHeld => ?_)
                  · first | exact ⟨S.at_ ix3, S.at_ ix2⟩ | exact ⟨S.at_ ix4, S.at_ ix3⟩ | exact ⟨S.at_ ix5, S.at_ ix4⟩
                  clear hK K
                  try simp only [Act.put, List.getElem_toArray, List.getElem_cons_succ, List.getElem_cons_zero, List.setIfInBounds_toArray, List.set_cons_zero, List.set_cons_succ]
                  refine wpAnyH_take (i := 13) (v := ?_) rfl (by kernel_rfl) (by kernel_rfl) (by kernel_rfl) (fun _ _ _ h => h) (Or.inl ⟨by rfl, ?_⟩) (by assumption) ?_
                  rotate_left
                  · (intro w hSw; (try dsimp only at hSw); go_simp; try with_reducible rfl)
                  try simp only [Act.put, List.getElem_toArray, List.getElem_cons_succ, List.getElem_cons_zero, List.setIfInBounds_toArray, List.set_cons_zero, List.set_cons_succ]
                  refine wpAnyH_done (by kernel_rfl) ?_ _
                  first
                    | exact REST g9 g10 C2 g1 D2 g2 C3 g3 D3 g4 C4 f1 D4 f2 A4 f3 B4 f4 w1 S
                    | exact REST g9 g10 C2 g1 D2 g2 C3 g3 D3 g4 C4 f1 D4 f2 A4 f3 B4 f4 w1 S.swap
                exact AllReadyH.nil
              exact AllReadyH.nil
            exact AllReadyH.nil
          exact AllReadyH.nil
        exact AllReadyH.nil
      refine AllReadyH.cons rfl (fun K hK => ?_) ?_
      · refine wp_st_alloc 24 rfl _ Try.hk_zero Try.hk_not S ?_
        clear S
        intro g9 w1 S
        refine hK.out _ _ ?_ (fun hHeld => ?_)
        · first | exact ⟨S.at_ ix3, S.at_ ix2⟩ | exact ⟨S.at_ ix4, S.at_ ix3⟩ | exact ⟨S.at_ ix5, S.at_ ix4⟩
        clear hK K
        try simp only [Act.put, List.getElem_toArray, List.getElem_cons_succ, List.getElem_cons_zero, List.setIfInBounds_toArray, List.set_cons_zero, List.set_cons_succ]
        refine wpAnyH_ready (rs := [3, 10]) (by kernel_rfl) (by simp) ?_
        refine AllReadyH.cons rfl (fun K hK => ?_) ?_
        · go_simp
          refine (turn_any _ _ _ _ _ _ _ _ _ _ rfl rfl (S.ln mm9) (S.ln mm8) (by omega) (by omega)).mono ?_
          rintro e w1 ⟨C3, g3, D3, g4, rfl, -, -, -, -, h1, h2, hb⟩
          replace S := ((S.call hb).add0 h1).add0 h2
          clear hb h1 h2
          try simp only []
          refine hK.out _ _ ?_ (fun hHeld => ?_)
          · first | exact ⟨S.at_ ix3, S.at_ ix2⟩ | exact ⟨S.at_ ix4, S.at_ ix3⟩ | exact ⟨S.at_ ix5, S.at_ ix4⟩
          clear hK K
          try simp only [Act.put, List.getElem_toArray, List.getElem_cons_succ, List.getElem_cons_zero, List.setIfInBounds_toArray, List.set_cons_zero, List.set_cons_succ]
          refine wpAnyH_ready (rs := [4, 10]) (by kernel_rfl) (by simp) ?_
          refine AllReadyH.cons rfl (fun K hK => ?_) ?_
          · go_simp
            refine (Pass_some _ _ _ _ _ _ _ _ _ _ _ _ _ _ _ _ _ _ HT.out HY.out HX.out (S.ln mm3) (S.ln mm2) (S.ln mm1) (S.ln mm0) (by omega) (by omega) (by omega) (by omega) Svs.out Sus.out Sys.out Sxs.out).mono ?_
            rintro e w1 ⟨C4, f1, D4, f2, A4, f3, B4, f4, rfl, h1, h2, h3, h4, hb⟩
            replace S := ((((S.call hb).add0 h1).add0 h2).add0 h3).add0 h4
            clear hb h1 h2 h3 h4
            try simp only []
            refine hK.out _ _ ?_ (fun hHeld => ?_)
            · first | exact ⟨S.at_ ix3, S.at_ ix2⟩ | exact ⟨S.at_ ix4, S.at_ ix3⟩ | exact ⟨S.at_ ix5, S.at_ ix4⟩
            clear hK K
            try simp only [Act.put, List.getElem_toArray, List.getElem_cons_succ, List.getElem_cons_zero, List.setIfInBounds_toArray, List.set_cons_zero, List.set_cons_succ]
            refine wpAnyH_take (i := 5) (v := ?_) rfl (by kernel_rfl) (by kernel_rfl) (by kernel_rfl) (fun _ _ _ h => h) (Or.inl ⟨by rfl, ?_⟩) (by assumption) ?_
            rotate_left
            · (intro w hSw; (try dsimp only at hSw); go_simp; try with_reducible rfl)
            try simp only [Act.put, List.getElem_toArray, List.getElem_cons_succ, List.getElem_cons_zero, List.setIfInBounds_toArray, List.set_cons_zero, List.set_cons_succ]
            refine wpAnyH_take (i := 6) (v := ?_) rfl (by kernel_rfl) (by kernel_rfl) (by kernel_rfl) (fun _ _ _ h => h) (Or.inl ⟨by rfl, ?_⟩) (by assumption) ?_
            rotate_left
            · (intro w hSw; (try dsimp only at hSw); go_simp; try with_reducible rfl)
            try simp only [Act.put, List.getElem_toArray, List.getElem_cons_succ, List.getElem_cons_zero, List.setIfInBounds_toArray, List.set_cons_zero, List.set_cons_succ]
            refine wpAnyH_take (i := 7) (v := ?_) rfl (by kernel_rfl) (by kernel_rfl) (by kernel_rfl) (fun _ _ _ h => h) (Or.inl ⟨by rfl, ?_⟩) (by assumption) ?_
            rotate_left
            · (intro w hSw; (try dsimp only at hSw); go_simp; try with_reducible rfl)
            try simp only [Act.put, List.getElem_toArray, List.getElem_cons_succ, List.getElem_cons_zero, List.setIfInBounds_toArray, List.set_cons_zero, List.set_cons_succ]
            refine wpAnyH_take (i := 8) (v := ?_) rfl (by kernel_rfl) (by kernel_rfl) (by kernel_rfl) (fun _ _ _ h => h) (Or.inl ⟨by rfl, ?_⟩) (by assumption) ?_
            rotate_left
            · (intro w hSw; (try dsimp only at hSw); go_simp; try with_reducible rfl)
            try simp only [Act.put, List.getElem_toArray, List.getElem_cons_succ, List.getElem_cons_zero, List.setIfInBounds_toArray, List.set_cons_zero, List.set_cons_succ]
            refine wpAnyH_ready (rs := [10]) (by kernel_rfl) (by simp) ?_
            refine AllReadyH.cons rfl (fun K hK => ?_) ?_
            · refine wp_st_alloc 24 rfl _ Try.hk_zero Try.hk_not S ?_
              clear S
              intro g10 w1 S
              refine hK.out _ _ ?_ (fun hHeld => ?_)
              · first | exact ⟨S.at_ ix3, S.at_ ix2⟩ | exact ⟨S.at_ ix4, S.at_ ix3⟩ | exact ⟨S.at_ ix5, S.at_ ix4⟩
              clear hK K
              try simp only [Act.put, List.getElem_toArray, List.getElem_cons_succ, List.getElem_cons_zero, List.setIfInBounds_toArray, List.set_cons_zero, List.set_cons_succ]
              refine wpAnyH_ready (rs := [11]) (by kernel_rfl) (by simp) ?_
              refine AllReadyH.cons rfl (fun K hK => ?_) ?_
              · refine hk_store _ _ rfl _ rfl _ _ _ rfl S _ _ _ _ _ (by first | exact ix0 | exact ix1) rfl rfl rfl ?_
                clear S
                intro w1 S
                simp only [List.set] at S
                refine hK.out _ _ ?_ (fun hHeld => ?_)
                · first | exact ⟨S.at_ ix3, S.at_ ix2⟩ | exact ⟨S.at_ ix4, S.at_ ix3⟩ | exact ⟨S.at_ ix5, S.at_ ix4⟩
                clear hK K
                try simp only [Act.put, List.getElem_toArray, List.getElem_cons_succ, List.getElem_cons_zero, List.setIfInBounds_toArray, List.set_cons_zero, List.set_cons_succ]
                refine wpAnyH_ready (rs := [12]) (by kernel_rfl) (by simp) ?_
                refine AllReadyH.cons rfl (fun K hK => ?_) ?_
                · refine hk_store _ _ rfl _ rfl _ _ _ rfl S _ _ _ _ _ (by first | exact ix0 | exact ix1) rfl rfl rfl ?_
                  clear S
                  intro w1 S
                  simp only [List.set] at S
                  refine hK.out _ _ ?_ (fun hHeld => ?_)
                  · first | exact ⟨S.at_ ix3, S.at_ ix2⟩ | exact ⟨S.at_ ix4, S.at_ ix3⟩ | exact ⟨S.at_ ix5, S.at_ ix4⟩
                  clear hK K
                  try simp only [Act.put, List.getElem_toArray, List.getElem_cons_succ, List.getElem_cons_zero, List.setIfInBounds_toArray, List.set_cons_zero, List.set_cons_succ]
                  refine wpAnyH_take (i := 13) (v := ?_) rfl (by kernel_rfl) (by kernel_rfl) (by kernel_rfl) (fun _ _ _ h => h) (Or.inl ⟨by rfl, ?_⟩) (by assumption) ?_
                  rotate_left
                  · (intro w hSw; (try dsimp only at hSw); go_simp; try with_reducible rfl)
                  try simp only [Act.put, List.getElem_toArray, List.getElem_cons_succ, List.getElem_cons_zero, List.setIfInBounds_toArray, List.set_cons_zero, List.set_cons_succ]
                  refine wpAnyH_done (by kernel_rfl) ?_ _
                  first
                    | exact REST g9 g10 C2 g1 D2 g2 C3 g3 D3 g4 C4 f1 D4 f2 A4 f3 B4 f4 w1 S
                    | exact REST g9 g10 C2 g1 D2 g2 C3 g3 D3 g4 C4 f1 D4 f2 A4 f3 B4 f4 w1 S.swap
                exact AllReadyH.nil
              exact AllReadyH.nil
            exact AllReadyH.nil
          refine AllReadyH.cons rfl (fun K hK => ?_) ?_
          · refine wp_st_alloc 24 rfl _ Try.hk_zero Try.hk_not S ?_
            clear S
            intro g10 w1 S
            refine hK.out _ _ ?_ (fun hHeld => ?_)
            · first | exact ⟨S.at_ ix3, S.at_ ix2⟩ | exact ⟨S.at_ ix4, S.at_ ix3⟩ | exact ⟨S.at_ ix5, S.at_ ix4⟩
            clear hK K
            try simp only [Act.put, List.getElem_toArray, List.getElem_cons_succ, List.getElem_cons_zero, List.setIfInBounds_toArray, List.set_cons_zero, List.set_cons_succ]
            refine wpAnyH_ready (rs := [4]) (by kernel_rfl) (by simp) ?_
            refine AllReadyH.cons rfl (fun K hK => ?_) ?_
            · go_simp
              refine (Pass_some _ _ _ _ _ _ _ _ _ _ _ _ _ _ _ _ _ _ HT.out HY.out HX.out (S.ln mm3) (S.ln mm2) (S.ln mm1) (S.ln mm0) (by omega) (by omega) (by omega) (by omega) Svs.out Sus.out Sys.out Sxs.out).mono ?_
              rintro e w1 ⟨C4, f1, D4, f2, A4, f3, B4, f4, rfl, h1, h2, h3, h4, hb⟩
              replace S := ((((S.call hb).add0 h1).add0 h2).add0 h3).add0 h4
              clear hb h1 h2 h3 h4
              try simp only []
              refine hK.out _ _ ?_ (fun hHeld => ?_)
              · first | exact ⟨S.at_ ix3, S.at_ ix2⟩ | exact ⟨S.at_ ix4, S.at_ ix3⟩ | exact ⟨S.at_ ix5, S.at_ ix4⟩
              clear hK K
              try simp only [Act.put, List.getElem_toArray, List.getElem_cons_succ, List.getElem_cons_zero, List.setIfInBounds_toArray, List.set_cons_zero, List.set_cons_succ]
              refine wpAnyH_take (i := 5) (v := ?_) rfl (by kernel_rfl) (by kernel_rfl) (by kernel_rfl) (fun _ _ _ h => h) (Or.inl ⟨by rfl, ?_⟩) (by assumption) ?_
              rotate_left
              · (intro w hSw; (try dsimp only at hSw); go_simp; try with_reducible rfl)
              try simp only [Act.put, List.getElem_toArray, List.getElem_cons_succ, List.getElem_cons_zero, List.setIfInBounds_toArray, List.set_cons_zero, List.set_cons_succ]
              refine wpAnyH_take (i := 6) (v := ?_) rfl (by kernel_rfl) (by kernel_rfl) (by kernel_rfl) (fun _ _ _ h => h) (Or.inl ⟨by rfl, ?_⟩) (by assumption) ?_
              rotate_left
              · (intro w hSw; (try dsimp only at hSw); go_simp; try with_reducible rfl)
              try simp only [Act.put, List.getElem_toArray, List.getElem_cons_succ, List.getElem_cons_zero, List.setIfInBounds_toArray, List.set_cons_zero, List.set_cons_succ]
              refine wpAnyH_take (i := 7) (v := ?_) rfl (by kernel_rfl) (by kernel_rfl) (by kernel_rfl) (fun _ _ _ h => h) (Or.inl ⟨by rfl, ?_⟩) (by assumption) ?_
              rotate_left
              · (intro w hSw; (try dsimp only at hSw); go_simp; try with_reducible rfl)
              try simp only [Act.put, List.getElem_toArray, List.getElem_cons_succ, List.getElem_cons_zero, List.setIfInBounds_toArray, List.set_cons_zero, List.set_cons_succ]
              refine wpAnyH_take (i := 8) (v := ?_) rfl (by kernel_rfl) (by kernel_rfl) (by kernel_rfl) (fun _ _ _ h => h) (Or.inl ⟨by rfl, ?_⟩) (by assumption) ?_
              rotate_left
              · (intro w hSw; (try dsimp only at hSw); go_simp; try with_reducible rfl)
              try simp only [Act.put, List.getElem_toArray, List.getElem_cons_succ, List.getElem_cons_zero, List.setIfInBounds_toArray, List.set_cons_zero, List.set_cons_succ]
              refine wpAnyH_ready (rs := [11]) (by kernel_rfl) (by simp) ?_
              refine AllReadyH.cons rfl (fun K hK => ?_) ?_
              · refine hk_store _ _ rfl _ rfl _ _ _ rfl S _ _ _ _ _ (by first | exact ix0 | exact ix1) rfl rfl rfl ?_
                clear S
                intro w1 S
                simp only [List.set] at S
                refine hK.out _ _ ?_ (fun hHeld => ?_)
                · first | exact ⟨S.at_ ix3, S.at_ ix2⟩ | exact ⟨S.at_ ix4, S.at_ ix3⟩ | exact ⟨S.at_ ix5, S.at_ ix4⟩
                clear hK K
                try simp only [Act.put, List.getElem_toArray, List.getElem_cons_succ, List.getElem_cons_zero, List.setIfInBounds_toArray, List.set_cons_zero, List.set_cons_succ]
                refine wpAnyH_ready (rs := [12]) (by kernel_rfl) (by simp) ?_
                refine AllReadyH.cons rfl (fun K hK => ?_) ?_
                · refine hk_store _ _ rfl _ rfl _ _ _ rfl S _ _ _ _ _ (by first | exact ix0 | exact ix1) rfl rfl rfl ?_
                  clear S
                  intro w1 S
                  simp only [List.set] at S
                  refine hK.out _ _ ?_ (fun hHeld => ?_)
                  · first | exact ⟨S.at_ ix3, S.at_ ix2⟩ | exact ⟨S.at_ ix4, S.at_ ix3⟩ | exact ⟨S.at_ ix5, S.at_ ix4⟩
                  clear hK K
                  try simp only [Act.put, List.getElem_toArray, List.getElem_cons_succ, List.getElem_cons_zero, List.setIfInBounds_toArray, List.set_cons_zero, List.set_cons_succ]
                  refine wpAnyH_take (i := 13) (v := ?_) rfl (by kernel_rfl) (by kernel_rfl) (by kernel_rfl) (fun _ _ _ h => h) (Or.inl ⟨by rfl, ?_⟩) (by assumption) ?_
                  rotate_left
                  · (intro w hSw; (try dsimp only at hSw); go_simp; try with_reducible rfl)
                  try simp only [Act.put, List.getElem_toArray, List.getElem_cons_succ, List.getElem_cons_zero, List.setIfInBounds_toArray, List.set_cons_zero, List.set_cons_succ]
                  refine wpAnyH_done (by kernel_rfl) ?_ _
                  first
                    | exact REST g9 g10 C2 g1 D2 g2 C3 g3 D3 g4 C4 f1 D4 f2 A4 f3 B4 f4 w1 S
                    | exact REST g9 g10 C2 g1 D2 g2 C3 g3 D3 g4 C4 f1 D4 f2 A4 f3 B4 f4 w1 S.swap
                exact AllReadyH.nil
              exact AllReadyH.nil
            exact AllReadyH.nil
          exact AllReadyH.nil
        refine AllReadyH.cons rfl (fun K hK => ?_) ?_
        · refine wp_st_alloc 24 rfl _ Try.hk_zero Try.hk_not S ?_
          clear S
          intro g10 w1 S
          refine hK.out _ _ ?_ (fun hHeld => ?_)
          · first | exact ⟨S.at_ ix3, S.at_ ix2⟩ | exact ⟨S.at_ ix4, S.at_ ix3⟩ | exact ⟨S.at_ ix5, S.at_ ix4⟩
          clear hK K
          try simp only [Act.put, List.getElem_toArray, List.getElem_cons_succ, List.getElem_cons_zero, List.setIfInBounds_toArray, List.set_cons_zero, List.set_cons_succ]
          refine wpAnyH_ready (rs := [3]) (by kernel_rfl) (by simp) ?_
          refine AllReadyH.cons rfl (fun K hK => ?_) ?_
          · go_simp
            refine (turn_any _ _ _ _ _ _ _ _ _ _ rfl rfl (S.ln mm9) (S.ln mm8) (by omega) (by omega)).mono ?_
            rintro e w1 ⟨C3, g3, D3, g4, rfl, -, -, -, -, h1, h2, hb⟩
            replace S := ((S.call hb).add0 h1).add0 h2
            clear hb h1 h2
            try simp only []
            refine hK.out _ _ ?_ (fun hHeld => ?_)
            · first | exact ⟨S.at_ ix3, S.at_ ix2⟩ | exact ⟨S.at_ ix4, S.at_ ix3⟩ | exact ⟨S.at_ ix5, S.at_ ix4⟩
            clear hK K
            try simp only [Act.put, List.getElem_toArray, List.getElem_cons_succ, List.getElem_cons_zero, List.setIfInBounds_toArray, List.set_cons_zero, List.set_cons_succ]
            refine wpAnyH_ready (rs := [4]) (by kernel_rfl) (by simp) ?_
            refine AllReadyH.cons rfl (fun K hK => ?_) ?_
            · go_simp
              refine (Pass_some _ _ _ _ _ _ _ _ _ _ _ _ _ _ _ _ _ _ HT.out HY.out HX.out (S.ln mm3) (S.ln mm2) (S.ln mm1) (S.ln mm0) (by omega) (by omega) (by omega) (by omega) Svs.out Sus.out Sys.out Sxs.out).mono ?_
              rintro e w1 ⟨C4, f1, D4, f2, A4, f3, B4, f4, rfl, h1, h2, h3, h4, hb⟩
              replace S := ((((S.call hb).add0 h1).add0 h2).add0 h3).add0 h4
              clear hb h1 h2 h3 h4
              try simp only []
              refine hK.out _ _ ?_ (fun hHeld => ?_)
              · first | exact ⟨S.at_ ix3, S.at_ ix2⟩ | exact ⟨S.at_ ix4, S.at_ ix3⟩ | exact ⟨S.at_ ix5, S.at_ ix4⟩
              clear hK K
              try simp only [Act.put, List.getElem_toArray, List.getElem_cons_succ, List.getElem_cons_zero, List.setIfInBounds_toArray, List.set_cons_zero, List.set_cons_succ]
              refine wpAnyH_take (i := 5) (v := ?_) rfl (by kernel_rfl) (by kernel_rfl) (by kernel_rfl) (fun _ _ _ h => h) (Or.inl ⟨by rfl, ?_⟩) (by assumption) ?_
              rotate_left
              · (intro w hSw; (try dsimp only at hSw); go_simp; try with_reducible rfl)
              try simp only [Act.put, List.getElem_toArray, List.getElem_cons_succ, List.getElem_cons_zero, List.setIfInBounds_toArray, List.set_cons_zero, List.set_cons_succ]
              refine wpAnyH_take (i := 6) (v := ?_) rfl (by kernel_rfl) (by kernel_rfl) (by kernel_rfl) (fun _ _ _ h => h) (Or.inl ⟨by rfl, ?_⟩) (by assumption) ?_
              rotate_left
              · (intro w hSw; (try dsimp only at hSw); go_simp; try with_reducible rfl)
              try simp only [Act.put, List.getElem_toArray, List.getElem_cons_succ, List.getElem_cons_zero, List.setIfInBounds_toArray, List.set_cons_zero, List.set_cons_succ]
              refine wpAnyH_take (i := 7) (v := ?_) rfl (by kernel_rfl) (by kernel_rfl) (by kernel_rfl) (fun _ _ _ h => h) (Or.inl ⟨by rfl, ?_⟩) (by assumption) ?_
              rotate_left
              · (intro w hSw; (try dsimp only at hSw); go_simp; try with_reducible rfl)
              try simp only [Act.put, List.getElem_toArray, List.getElem_cons_succ, List.getElem_cons_zero, List.setIfInBounds_toArray, List.set_cons_zero, List.set_cons_succ]
              refine wpAnyH_take (i := 8) (v := ?_) rfl (by kernel_rfl) (by kernel_rfl) (by kernel_rfl) (fun _ _ _ h => h) (Or.inl ⟨by rfl, ?_⟩) (by assumption) ?_
              rotate_left
              · (intro w hSw; (try dsimp only at hSw); go_simp; try with_reducible rfl)
              try simp only [Act.put, List.getElem_toArray, List.getElem_cons_succ, List.getElem_cons_zero, List.setIfInBounds_toArray, List.set_cons_zero, List.set_cons_succ]
              refine wpAnyH_ready (rs := [11]) (by kernel_rfl) (by simp) ?_
              refine AllReadyH.cons rfl (fun K hK => ?_) ?_
              · refine hk_store _ _ rfl _ rfl _ _ _ rfl S _ _ _ _ _ (by first | exact ix0 | exact ix1) rfl rfl rfl ?_
                clear S
                intro w1 S
                simp only [List.set] at S
                refine hK.out _ _ ?_ (fun hHeld => ?_)
                · first | exact ⟨S.at_ ix3, S.at_ ix2⟩ | exact ⟨S.at_ ix4, S.at_ ix3⟩ | exact ⟨S.at_ ix5, S.at_ ix4⟩
                clear hK K
                try simp only [Act.put, List.getElem_toArray, List.getElem_cons_succ, List.getElem_cons_zero, List.setIfInBounds_toArray, List.set_cons_zero, List.set_cons_succ]
                refine wpAnyH_ready (rs := [12]) (by kernel_rfl) (by simp) ?_
                refine AllReadyH.cons rfl (fun K hK => ?_) ?_
                · refine hk_store _ _ rfl _ rfl _ _ _ rfl S _ _ _ _ _ (by first | exact ix0 | exact ix1) rfl rfl rfl ?_
                  clear S
                  intro w1 S
                  simp only [List.set] at S
                  refine hK.out _ _ ?_ (fun hHeld => ?_)
                  · first | exact ⟨S.at_ ix3, S.at_ ix2⟩ | exact ⟨S.at_ ix4, S.at_ ix3⟩ | exact ⟨S.at_ ix5, S.at_ ix4⟩
                  clear hK K
                  try simp only [Act.put, List.getElem_toArray, List.getElem_cons_succ, List.getElem_cons_zero, List.setIfInBounds_toArray, List.set_cons_zero, List.set_cons_succ]
                  refine wpAnyH_take (i := 13) (v := ?_) rfl (by kernel_rfl) (by kernel_rfl) (by kernel_rfl) (fun _ _ _ h => h) (Or.inl ⟨by rfl, ?_⟩) (by assumption) ?_
                  rotate_left
                  · (intro w hSw; (try dsimp only at hSw); go_simp; try with_reducible rfl)
                  try simp only [Act.put, List.getElem_toArray, List.getElem_cons_succ, List.getElem_cons_zero, List.setIfInBounds_toArray, List.set_cons_zero, List.set_cons_succ]
                  refine wpAnyH_done (by kernel_rfl) ?_ _
                  first
                    | exact REST g9 g10 C2 g1 D2 g2 C3 g3 D3 g4 C4 f1 D4 f2 A4 f3 B4 f4 w1 S
                    | exact REST g9 g10 C2 g1 D2 g2 C3 g3 D3 g4 C4 f1 D4 f2 A4 f3 B4 f4 w1 S.swap
                exact AllReadyH.nil
              exact AllReadyH.nil
            exact AllReadyH.nil
          exact AllReadyH.nil
        exact AllReadyH.nil
      refine AllReadyH.cons rfl (fun K hK => ?_) ?_
      · refine wp_st_alloc 24 rfl _ Try.hk_zero Try.hk_not S ?_
        clear S
        intro g10 w1 S
        refine hK.out _ _ ?_ (fun hHeld => ?_)
        · first | exact ⟨S.at_ ix3, S.at_ ix2⟩ | exact ⟨S.at_ ix4, S.at_ ix3⟩ | exact ⟨S.at_ ix5, S.at_ ix4⟩
        clear hK K
        try simp only [Act.put, List.getElem_toArray, List.getElem_cons_succ, List.getElem_cons_zero, List.setIfInBounds_toArray, List.set_cons_zero, List.set_cons_succ]
        refine wpAnyH_ready (rs := [3, 9]) (by kernel_rfl) (by simp) ?_
        refine AllReadyH.cons rfl (fun K hK => ?_) ?_
        · go_simp
          refine (turn_any _ _ _ _ _ _ _ _ _ _ rfl rfl (S.ln mm9) (S.ln mm8) (by omega) (by omega)).mono ?_
          rintro e w1 ⟨C3, g3, D3, g4, rfl, -, -, -, -, h1, h2, hb⟩
          replace S := ((S.call hb).add0 h1).add0 h2
          clear hb h1 h2
          try simp only []
          refine hK.out _ _ ?_ (fun hHeld => ?_)
          · first | exact ⟨S.at_ ix3, S.at_ ix2⟩ | exact ⟨S.at_ ix4, S.at_ ix3⟩ | exact ⟨S.at_ ix5, S.at_ ix4⟩
          clear hK K
          try simp only [Act.put, List.getElem_toArray, List.getElem_cons_succ, List.getElem_cons_zero, List.setIfInBounds_toArray, List.set_cons_zero, List.set_cons_succ]
          refine wpAnyH_ready (rs := [4, 9]) (by kernel_rfl) (by simp) ?_
          refine AllReadyH.cons rfl (fun K hK => ?_) ?_
          · go_simp
            refine (Pass_some _ _ _ _ _ _ _ _ _ _ _ _ _ _ _ _ _ _ HT.out HY.out HX.out (S.ln mm3) (S.ln mm2) (S.ln mm1) (S.ln mm0) (by omega) (by omega) (by omega) (by omega) Svs.out Sus.out Sys.out Sxs.out).mono ?_
            rintro e w1 ⟨C4, f1, D4, f2, A4, f3, B4, f4, rfl, h1, h2, h3, h4, hb⟩
            replace S := ((((S.call hb).add0 h1).add0 h2).add0 h3).add0 h4
            clear hb h1 h2 h3 h4
            try simp only []
            refine hK.out _ _ ?_ (fun hHeld => ?_)
            · first | exact ⟨S.at_ ix3, S.at_ ix2⟩ | exact ⟨S.at_ ix4, S.at_ ix3⟩ | exact ⟨S.at_ ix5, S.at_ ix4⟩
            clear hK K
            try simp only [Act.put, List.getElem_toArray, List.getElem_cons_succ, List.getElem_cons_zero, List.setIfInBounds_toArray, List.set_cons_zero, List.set_cons_succ]
            refine wpAnyH_take (i := 5) (v := ?_) rfl (by kernel_rfl) (by kernel_rfl) (by kernel_rfl) (fun _ _ _ h => h) (Or.inl ⟨by rfl, ?_⟩) (by assumption) ?_
            rotate_left
            · (intro w hSw; (try dsimp only at hSw); go_simp; try with_reducible rfl)
            try simp only [Act.put, List.getElem_toArray, List.getElem_cons_succ, List.getElem_cons_zero, List.setIfInBounds_toArray, List.set_cons_zero, List.set_cons_succ]
            refine wpAnyH_take (i := 6) (v := ?_) rfl (by kernel_rfl) (by kernel_rfl) (by kernel_rfl) (fun _ _ _ h => h) (Or.inl ⟨by rfl, ?_⟩) (by assumption) ?_
            rotate_left
            · (intro w hSw; (try dsimp only at hSw); go_simp; try with_reducible rfl)
            try simp only [Act.put, List.getElem_toArray, List.getElem_cons_succ, List.getElem_cons_zero, List.setIfInBounds_toArray, List.set_cons_zero, List.set_cons_succ]
            refine wpAnyH_take (i := 7) (v := ?_) rfl (by kernel_rfl) (by kernel_rfl) (by kernel_rfl) (fun _ _ _ h => h) (Or.inl ⟨by rfl, ?_⟩) (by assumption) ?_
            rotate_left
            · (intro w hSw; (try dsimp only at hSw); go_simp; try with_reducible rfl)
            try simp only [Act.put, List.getElem_toArray, List.getElem_cons_succ, List.getElem_cons_zero, List.setIfInBounds_toArray, List.set_cons_zero, List.set_cons_succ]
            refine wpAnyH_take (i := 8) (v := ?_) rfl (by kernel_rfl) (by kernel_rfl) (by kernel_rfl) (fun _ _ _ h => h) (Or.inl ⟨by rfl, ?_⟩) (by assumption) ?_
            rotate_left
            · (intro w hSw; (try dsimp only at hSw); go_simp; try with_reducible rfl)
            try simp only [Act.put, List.getElem_toArray, List.getElem_cons_succ, List.getElem_cons_zero, List.setIfInBounds_toArray, List.set_cons_zero, List.set_cons_succ]
            refine wpAnyH_ready (rs := [9]) (by kernel_rfl) (by simp) ?_
            refine AllReadyH.cons rfl (fun K hK => ?_) ?_
            · refine wp_st_alloc 24 rfl _ Try.hk_zero Try.hk_not S ?_
              clear S
              intro g9 w1 S
              refine hK.out _ _ ?_ (fun hHeld => ?_)
              · first | exact ⟨S.at_ ix3, S.at_ ix2⟩ | exact ⟨S.at_ ix4, S.at_ ix3⟩ | exact ⟨S.at_ ix5, S.at_ ix4⟩
              clear hK K
              try simp only [Act.put, List.getElem_toArray, List.getElem_cons_succ, List.getElem_cons_zero, List.setIfInBounds_toArray, List.set_cons_zero, List.set_cons_succ]
              refine wpAnyH_ready (rs := [11]) (by kernel_rfl) (by simp) ?_
              refine AllReadyH.cons rfl (fun K hK => ?_) ?_
              · refine hk_store _ _ rfl _ rfl _ _ _ rfl S _ _ _ _ _ (by first | exact ix0 | exact ix1) rfl rfl rfl ?_
                clear S
                intro w1 S
                simp only [List.set] at S
                refine hK.out _ _ ?_ (fun hHeld => ?_)
                · first | exact ⟨S.at_ ix3, S.at_ ix2⟩ | exact ⟨S.at_ ix4, S.at_ ix3⟩ | exact ⟨S.at_ ix5, S.at_ ix4⟩
                clear hK K
                try simp only [Act.put, List.getElem_toArray, List.getElem_cons_succ, List.getElem_cons_zero, List.setIfInBounds_toArray, List.set_cons_zero, List.set_cons_succ]
                refine wpAnyH_ready (rs := [12]) (by kernel_rfl) (by simp) ?_
                refine AllReadyH.cons rfl (fun K hK => ?_) ?_
                · refine hk_store _ _ rfl _ rfl _ _ _ rfl S _ _ _ _ _ (by first | exact ix0 | exact ix1) rfl rfl rfl ?_
                  clear S
                  intro w1 S
                  simp only [List.set] at S
                  refine hK.out _ _ ?_ (fun hHeld => ?_)
                  · first | exact ⟨S.at_ ix3, S.at_ ix2⟩ | exact ⟨S.at_ ix4, S.at_ ix3⟩ | exact ⟨S.at_ ix5, S.at_ ix4⟩
                  clear hK K
                  try simp only [Act.put, List.getElem_toArray, List.getElem_cons_succ, List.getElem_cons_zero, List.setIfInBounds_toArray, List.set_cons_zero, List.set_cons_succ]
                  refine wpAnyH_take (i := 13) (v := ?_) rfl (by kernel_rfl) (by kernel_rfl) (by kernel_rfl) (fun _ _ _ h => h) (Or.inl ⟨by rfl, ?_⟩) (by assumption) ?_
                  rotate_left
                  · (intro w hSw; (try dsimp only at hSw); go_simp; try with_reducible rfl)
                  try simp only [Act.put, List.getElem_toArray, List.getElem_cons_succ, List.getElem_cons_zero, List.setIfInBounds_toArray, List.set_cons_zero, List.set_cons_succ]
                  refine wpAnyH_done (by kernel_rfl) ?_ _
                  first
                    | exact REST g9 g10 C2 g1 D2 g2 C3 g3 D3 g4 C4 f1 D4 f2 A4 f3 B4 f4 w1 S
                    | exact REST g9 g10 C2 g1 D2 g2 C3 g3 D3 g4 C4 f1 D4 f2 A4 f3 B4 f4 w1 S.swap
                exact AllReadyH.nil
              exact AllReadyH.nil
            exact AllReadyH.nil
          refine AllReadyH.cons rfl (fun K hK => ?_) ?_
          · refine wp_st_alloc 24 rfl _ Try.hk_zero Try.hk_not S ?_
            clear S
            intro g9 w1 S
            refine hK.out _ _ ?_ (fun hHeld => ?_)
            · first | exact ⟨S.at_ ix3, S.at_ ix2⟩ | exact ⟨S.at_ ix4, S.at_ ix3⟩ | exact ⟨S.at_ ix5, S.at_ ix4⟩
            clear hK K
            try simp only [Act.put, List.getElem_toArray, List.getElem_cons_succ, List.getElem_cons_zero, List.setIfInBounds_toArray, List.set_cons_zero, List.set_cons_succ]
            refine wpAnyH_ready (rs := [4]) (by kernel_rfl) (by simp) ?_
            refine AllReadyH.cons rfl (fun K hK => ?_) ?_
            · go_simp
              refine (Pass_some _ _ _ _ _ _ _ _ _ _ _ _ _ _ _ _ _ _ HT.out HY.out HX.out (S.ln mm3) (S.ln mm2) (S.ln mm1) (S.ln mm0) (by omega) (by omega) (by omega) (by omega) Svs.out Sus.out Sys.out Sxs.out).mono ?_
              rintro e w1 ⟨C4, f1, D4, f2, A4, f3, B4, f4, rfl, h1, h2, h3, h4, hb⟩
              replace S := ((((S.call hb).add0 h1).add0 h2).add0 h3).add0 h4
              clear hb h1 h2 h3 h4
              try simp only []
              refine hK.out _ _ ?_ (fun hHeld => ?_)
              · first | exact ⟨S.at_ ix3, S.at_ ix2⟩ | exact ⟨S.at_ ix4, S.at_ ix3⟩ | exact ⟨S.at_ ix5, S.at_ ix4⟩
              clear hK K
              try simp only [Act.put, List.getElem_toArray, List.getElem_cons_succ, List.getElem_cons_zero, List.setIfInBounds_toArray, List.set_cons_zero, List.set_cons_succ]
              refine wpAnyH_take (i := 5) (v := ?_) rfl (by kernel_rfl) (by kernel_rfl) (by kernel_rfl) (fun _ _ _ h => h) (Or.inl ⟨by rfl, ?_⟩) (by assumption) ?_
              rotate_left
              · (intro w hSw; (try dsimp only at hSw); go_simp; try with_reducible rfl)
              try simp only [Act.put, List.getElem_toArray, List.getElem_cons_succ, List.getElem_cons_zero, List.setIfInBounds_toArray, List.set_cons_zero, List.set_cons_succ]
              refine wpAnyH_take (i := 6) (v := ?_) rfl (by kernel_rfl) (by kernel_rfl) (by kernel_rfl) (fun _ _ _ h => h) (Or.inl ⟨by rfl, ?_⟩) (by assumption) ?_
              rotate_left
              · (intro w hSw; (try dsimp only at hSw); go_simp; try with_reducible rfl)
              try simp only [Act.put, List.getElem_toArray, List.getElem_cons_succ, List.getElem_cons_zero, List.setIfInBounds_toArray, List.set_cons_zero, List.set_cons_succ]
              refine wpAnyH_take (i := 7) (v := ?_) rfl (by kernel_rfl) (by kernel_rfl) (by kernel_rfl) (fun _ _ _ h => h) (Or.inl ⟨by rfl, ?_⟩) (by assumption) ?_
              rotate_left
              · (intro w hSw; (try dsimp only at hSw); go_simp; try with_reducible rfl)
              try simp only [Act.put, List.getElem_toArray, List.getElem_cons_succ, List.getElem_cons_zero, List.setIfInBounds_toArray, List.set_cons_zero, List.set_cons_succ]
              refine wpAnyH_take (i := 8) (v := ?_) rfl (by kernel_rfl) (by kernel_rfl) (by kernel_rfl) (fun _ _ _ h => h) (Or.inl ⟨by rfl, ?_⟩) (by assumption) ?_
              rotate_left
              · (intro w hSw; (try dsimp only at hSw); go_simp; try with_reducible rfl)
              try simp only [Act.put, List.getElem_toArray, List.getElem_cons_succ, List.getElem_cons_zero, List.setIfInBounds_toArray, List.set_cons_zero, List.set_cons_succ]
              refine wpAnyH_ready (rs := [11]) (by kernel_rfl) (by simp) ?_
              refine AllReadyH.cons rfl (fun K hK => ?_) ?_
              · refine hk_store _ _ rfl _ rfl _ _ _ rfl S _ _ _ _ _ (by first | exact ix0 | exact ix1) rfl rfl rfl ?_
                clear S
                intro w1 S
                simp only [List.set] at S
                refine hK.out _ _ ?_ (fun hHeld => ?_)
                · first | exact ⟨S.at_ ix3, S.at_ ix2⟩ | exact ⟨S.at_ ix4, S.at_ ix3⟩ | exact ⟨S.at_ ix5, S.at_ ix4⟩
                clear hK K
                try simp only [Act.put, List.getElem_toArray, List.getElem_cons_succ, List.getElem_cons_zero, List.setIfInBounds_toArray, List.set_cons_zero, List.set_cons_succ]
                refine wpAnyH_ready (rs := [12]) (by kernel_rfl) (by simp) ?_
                refine AllReadyH.cons rfl (fun K hK => ?_) ?_
                · refine hk_store _ _ rfl _ rfl _ _ _ rfl S _ _ _ _ _ (by first | exact ix0 | exact ix1) rfl rfl rfl ?_
                  clear S
                  intro w1 S
                  simp only [List.set] at S
                  refine hK.out _ _ ?_ (fun hHeld => ?_)
                  · first | exact ⟨S.at_ ix3, S.at_ ix2⟩ | exact ⟨S.at_ ix4, S.at_ ix3⟩ | exact ⟨S.at_ ix5, S.at_ ix4⟩
                  clear hK K
                  try simp only [Act.put, List.getElem_toArray, List.getElem_cons_succ, List.getElem_cons_zero, List.setIfInBounds_toArray, List.set_cons_zero, List.set_cons_succ]
                  refine wpAnyH_take (i := 13) (v := ?_) rfl (by kernel_rfl) (by kernel_rfl) (by kernel_rfl) (fun _ _ _ h => h) (Or.inl ⟨by rfl, ?_⟩) (by assumption) ?_
                  rotate_left
                  · (intro w hSw; (try dsimp only at hSw); go_simp; try with_reducible rfl)
                  try simp only [Act.put, List.getElem_toArray, List.getElem_cons_succ, List.getElem_cons_zero, List.setIfInBounds_toArray, List.set_cons_zero, List.set_cons_succ]
                  refine wpAnyH_done (by kernel_rfl) ?_ _
                  first
                    | exact REST g9 g10 C2 g1 D2 g2 C3 g3 D3 g4 C4 f1 D4 f2 A4 f3 B4 f4 w1 S
                    | exact REST g9 g10 C2 g1 D2 g2 C3 g3 D3 g4 C4 f1 D4 f2 A4 f3 B4 f4 w1 S.swap
                exact AllReadyH.nil
              exact AllReadyH.nil
            exact AllReadyH.nil
          exact AllReadyH.nil
        refine AllReadyH.cons rfl (fun K hK => ?_) ?_
        · refine wp_st_alloc 24 rfl _ Try.hk_zero Try.hk_not S ?_
          clear S
          intro g9 w1 S
          refine hK.out _ _ ?_ (fun hHeld => ?_)
          · first | exact ⟨S.at_ ix3, S.at_ ix2⟩ | exact ⟨S.at_ ix4, S.at_ ix3⟩ | exact ⟨S.at_ ix5, S.at_ ix4⟩
          clear hK K
          try simp only [Act.put, List.getElem_toArray, List.getElem_cons_succ, List.getElem_cons_zero, List.setIfInBounds_toArray, List.set_cons_zero, List.set_cons_succ]
          refine wpAnyH_ready (rs := [3]) (by kernel_rfl) (by simp) ?_
          refine AllReadyH.cons rfl (fun K hK => ?_) ?_
          · go_simp
            refine (turn_any _ _ _ _ _ _ _ _ _ _ rfl rfl (S.ln mm9) (S.ln mm8) (by omega) (by omega)).mono ?_
            rintro e w1 ⟨C3, g3, D3, g4, rfl, -, -, -, -, h1, h2, hb⟩
            replace S := ((S.call hb).add0 h1).add0 h2
            clear hb h1 h2
            try simp only []
            refine hK.out _ _ ?_ (fun hHeld => ?_)
            · first | exact ⟨S.at_ ix3, S.at_ ix2⟩ | exact ⟨S.at_ ix4, S.at_ ix3⟩ | exact ⟨S.at_ ix5, S.at_ ix4⟩
            clear hK K
            try simp only [Act.put, List.getElem_toArray, List.getElem_cons_succ, List.getElem_cons_zero, List.setIfInBounds_toArray, List.set_cons_zero, List.set_cons_succ]
            refine wpAnyH_ready (rs := [4]) (by kernel_rfl) (by simp) ?_
            refine AllReadyH.cons rfl (fun K hK => ?_) ?_
            · go_simp
              refine (Pass_some _ _ _ _ _ _ _ _ _ _ _ _ _ _ _ _ _ _ HT.out HY.out HX.out (S.ln mm3) (S.ln mm2) (S.ln mm1) (S.ln mm0) (by omega) (by omega) (by omega) (by omega) Svs.out Sus.out Sys.out Sxs.out).mono ?_
              rintro e w1 ⟨C4, f1, D4, f2, A4, f3, B4, f4, rfl, h1, h2, h3, h4, hb⟩
              replace S := ((((S.call hb).add0 h1).add0 h2).add0 h3).add0 h4
              clear hb h1 h2 h3 h4
              try simp only []
              refine hK.out _ _ ?_ (fun hHeld => ?_)
              · first | exact ⟨S.at_ ix3, S.at_ ix2⟩ | exact ⟨S.at_ ix4, S.at_ ix3⟩ | exact ⟨S.at_ ix5, S.at_ ix4⟩
              clear hK K
              try simp only [Act.put, List.getElem_toArray, List.getElem_cons_succ, List.getElem_cons_zero, List.setIfInBounds_toArray, List.set_cons_zero, List.set_cons_succ]
              refine wpAnyH_take (i := 5) (v := ?_) rfl (by kernel_rfl) (by kernel_rfl) (by kernel_rfl) (fun _ _ _ h => h) (Or.inl ⟨by rfl, ?_⟩) (by assumption) ?_
              rotate_left
              · (intro w hSw; (try dsimp only at hSw); go_simp; try with_reducible rfl)
              try simp only [Act.put, List.getElem_toArray, List.getElem_cons_succ, List.getElem_cons_zero, List.setIfInBounds_toArray, List.set_cons_zero, List.set_cons_succ]
              refine wpAnyH_take (i := 6) (v := ?_) rfl (by kernel_rfl) (by kernel_rfl) (by kernel_rfl) (fun _ _ _ h => h) (Or.inl ⟨by rfl, ?_⟩) (by assumption) ?_
              rotate_left
              · (intro w hSw; (try dsimp only at hSw); go_simp; try with_reducible rfl)
              try simp only [Act.put, List.getElem_toArray, List.getElem_cons_succ, List.getElem_cons_zero, List.setIfInBounds_toArray, List.set_cons_zero, List.set_cons_succ]
              refine wpAnyH_take (i := 7) (v := ?_) rfl (by kernel_rfl) (by kernel_rfl) (by kernel_rfl) (fun _ _ _ h => h) (Or.inl ⟨by rfl, ?_⟩) (by assumption) ?_
              rotate_left
              · (intro w hSw; (try dsimp only at hSw); go_simp; try with_reducible rfl)
              try simp only [Act.put, List.getElem_toArray, List.getElem_cons_succ, List.getElem_cons_zero, List.setIfInBounds_toArray, List.set_cons_zero, List.set_cons_succ]
              refine wpAnyH_take (i := 8) (v := ?_) rfl (by kernel_rfl) (by kernel_rfl) (by kernel_rfl) (fun _ _ _ h => h) (Or.inl ⟨by rfl, ?_⟩) (by assumption) ?_
              rotate_left
              · (intro w hSw; (try dsimp only at hSw); go_simp; try with_reducible rfl)
              try simp only [Act.put, List.getElem_toArray, List.getElem_cons_succ, List.getElem_cons_zero, List.setIfInBounds_toArray, List.set_cons_zero, List.set_cons_succ]
              refine wpAnyH_ready (rs := [11]) (by kernel_rfl) (by simp) ?_
              refine AllReadyH.cons rfl (fun K hK => ?_) ?_
              · refine hk_store _ _ rfl _ rfl _ _ _ rfl S _ _ _ _ _ (by first | exact ix0 | exact ix1) rfl rfl rfl ?_
                clear S
                intro w1 S
                simp only [List.set] at S
                refine hK.out _ _ ?_ (fun hHeld => ?_)
                · first | exact ⟨S.at_ ix3, S.at_ ix2⟩ | exact ⟨S.at_ ix4, S.at_ ix3⟩ | exact ⟨S.at_ ix5, S.at_ ix4⟩
                clear hK K
                try simp only [Act.put, List.getElem_toArray, List.getElem_cons_succ, List.getElem_cons_zero, List.setIfInBounds_toArray, List.set_cons_zero, List.set_cons_succ]
                refine wpAnyH_ready (rs := [12]) (by kernel_rfl) (by simp) ?_
                refine AllReadyH.cons rfl (fun K hK => ?_) ?_
                · refine hk_store _ _ rfl _ rfl _ _ _ rfl S _ _ _ _ _ (by first | exact ix0 | exact ix1) rfl rfl rfl ?_
                  clear S
                  intro w1 S
                  simp only [List.set] at S
                  refine hK.out _ _ ?_ (fun hHeld => ?_)
                  · first | exact ⟨S.at_ ix3, S.at_ ix2⟩ | exact ⟨S.at_ ix4, S.at_ ix3⟩ | exact ⟨S.at_ ix5, S.at_ ix4⟩
                  clear hK K
                  try simp only [Act.put, List.getElem_toArray, List.getElem_cons_succ, List.getElem_cons_zero, List.setIfInBounds_toArray, List.set_cons_zero, List.set_cons_succ]
                  refine wpAnyH_take (i := 13) (v := ?_) rfl (by kernel_rfl) (by kernel_rfl) (by kernel_rfl) (fun _ _ _ h => h) (Or.inl ⟨by rfl, ?_⟩) (by assumption) ?_
                  rotate_left
                  · (intro w hSw; (try dsimp only at hSw); go_simp; try with_reducible rfl)
                  try simp only [Act.put, List.getElem_toArray, List.getElem_cons_succ, List.getElem_cons_zero, List.setIfInBounds_toArray, List.set_cons_zero, List.set_cons_succ]
                  refine wpAnyH_done (by kernel_rfl) ?_ _
                  first
                    | exact REST g9 g10 C2 g1 D2 g2 C3 g3 D3 g4 C4 f1 D4 f2 A4 f3 B4 f4 w1 S
                    | exact REST g9 g10 C2 g1 D2 g2 C3 g3 D3 g4 C4 f1 D4 f2 A4 f3 B4 f4 w1 S.swap
                exact AllReadyH.nil
              exact AllReadyH.nil
            exact AllReadyH.nil
          exact AllReadyH.nil
        exact AllReadyH.nil
      exact AllReadyH.nil
    refine AllReadyH.cons rfl (fun K hK => ?_) ?_
    · refine wp_st_alloc 24 rfl _ Try.hk_zero Try.hk_not S ?_
      clear S
      intro g9 w1 S
      refine hK.out _ _ ?_ (fun hHeld => ?_)
      · first | exact ⟨S.at_ ix3, S.at_ ix2⟩ | exact ⟨S.at_ ix4, S.at_ ix3⟩ | exact ⟨S.at_ ix5, S.at_ ix4⟩
      clear hK K
      try simp only [Act.put, List.getElem_toArray, List.getElem_cons_succ, List.getElem_cons_zero, List.setIfInBounds_toArray, List.set_cons_zero, List.set_cons_succ]
      refine wpAnyH_ready (rs := [1, 10]) (by kernel_rfl) (by simp) ?_
      refine AllReadyH.cons rfl (fun K hK => ?_) ?_
      · go_simp
        refine (turn_any _ _ _ _ _ _ _ _ _ _ rfl rfl (S.ln mm5) (S.ln mm4) (by omega) (by omega)).mono ?_
        rintro e w1 ⟨C2, g1, D2, g2, rfl, -, -, -, -, h1, h2, hb⟩
        replace S := ((S.call hb).add0 h1).add0 h2
        clear hb h1 h2
        try simp only []
        refine hK.out _ _ ?_ (fun hHeld => ?_)
        · first | exact ⟨S.at_ ix3, S.at_ ix2⟩ | exact ⟨S.at_ ix4, S.at_ ix3⟩ | exact ⟨S.at_ ix5, S.at_ ix4⟩
        clear hK K
        try simp only [Act.put, List.getElem_toArray, List.getElem_cons_succ, List.getElem_cons_zero, List.setIfInBounds_toArray, List.set_cons_zero, List.set_cons_succ]
        refine wpAnyH_ready (rs := [3, 10]) (by kernel_rfl) (by simp) ?_
        refine AllReadyH.cons rfl (fun K hK => ?_) ?_
        · go_simp
          refine (turn_any _ _ _ _ _ _ _ _ _ _ rfl rfl (S.ln mm9) (S.ln mm8) (by omega) (by omega)).mono ?_
          rintro e w1 ⟨C3, g3, D3, g4, rfl, -, -, -, -, h1, h2, hb⟩
          replace S := ((S.call hb).add0 h1).add0 h2
          clear hb h1 h2
          try simp only []
          refine hK.out _ _ ?_ (fun hHeld => ?_)
          · first | exact ⟨S.at_ ix3, S.at_ ix2⟩ | exact ⟨S.at_ ix4, S.at_ ix3⟩ | exact ⟨S.at_ ix5, S.at_ ix4⟩
          clear hK K
          try simp only [Act.put, List.getElem_toArray, List.getElem_cons_succ, List.getElem_cons_zero, List.setIfInBounds_toArray, List.set_cons_zero, List.set_cons_succ]
          refine wpAnyH_ready (rs := [4, 10]) (by kernel_rfl) (by simp) ?_
          refine AllReadyH.cons rfl (fun K hK => ?_) ?_
          · go_simp
            refine (Pass_some _ _ _ _ _ _ _ _ _ _ _ _ _ _ _ _ _ _ HT.out HY.out HX.out (S.ln mm3) (S.ln mm2) (S.ln mm1) (S.ln mm0) (by omega) (by omega) (by omega) (by omega) Svs.out Sus.out Sys.out Sxs.out).mono ?_
            rintro e w1 ⟨C4, f1, D4, f2, A4, f3, B4, f4, rfl, h1, h2, h3, h4, hb⟩
            replace S := ((((S.call hb).add0 h1).add0 h2).add0 h3).add0 h4
            clear hb h1 h2 h3 h4
            try simp only []
            refine hK.out _ _ ?_ (fun hHeld => ?_)
            · first | exact ⟨S.at_ ix3, S.at_ ix2⟩ | exact ⟨S.at_ ix4, S.at_ ix3⟩ | exact ⟨S.at_ ix5, S.at_ ix4⟩
            clear hK K
            try simp only [Act.put, List.getElem_toArray, List.getElem_cons_succ, List.getElem_cons_zero, List.setIfInBounds_toArray, List.set_cons_zero, List.set_cons_succ]
            refine wpAnyH_take (i := 5) (v := ?_) rfl (by kernel_rfl) (by kernel_rfl) (by kernel_rfl) (fun _ _ _ h => h) (Or.inl ⟨by rfl, ?_⟩) (by assumption) ?_
            rotate_left
            · (intro w hSw; (try dsimp only at hSw); go_simp; try with_reducible rfl)
            try simp only [Act.put, List.getElem_toArray, List.getElem_cons_succ, List.getElem_cons_zero, List.setIfInBounds_toArray, List.set_cons_zero, List.set_cons_succ]
            refine wpAnyH_take (i := 6) (v := ?_) rfl (by kernel_rfl) (by kernel_rfl) (by kernel_rfl) (fun _ _ _ h => h) (Or.inl ⟨by rfl, ?_⟩) (by assumption) ?_
            rotate_left
            · (intro w hSw; (try dsimp only at hSw); go_simp; try with_reducible rfl)
            try simp only [Act.put, List.getElem_toArray, List.getElem_cons_succ, List.getElem_cons_zero, List.setIfInBounds_toArray, List.set_cons_zero, List.set_cons_succ]
            refine wpAnyH_take (i := 7) (v := ?_) rfl (by kernel_rfl) (by kernel_rfl) (by kernel_rfl) (fun _ _ _ h => h) (Or.inl ⟨by rfl, ?_⟩) (by assumption) ?_
            rotate_left
            · (intro w hSw; (try dsimp only at hSw); go_simp; try with_reducible rfl)
            try simp only [Act.put, List.getElem_toArray, List.getElem_cons_succ, List.getElem_cons_zero, List.setIfInBounds_toArray, List.set_cons_zero, List.set_cons_succ]
            refine wpAnyH_take (i := 8) (v := ?_) rfl (by kernel_rfl) (by kernel_rfl) (by kernel_rfl) (fun _ _ _ h => h) (Or.inl ⟨by rfl, ?_⟩) (by assumption) ?_
            rotate_left
            · (intro w hSw; (try dsimp only at hSw); go_simp; try with_reducible rfl)
            try simp only [Act.put, List.getElem_toArray, List.getElem_cons_succ, List.getElem_cons_zero, List.setIfInBounds_toArray, List.set_cons_zero, List.set_cons_succ]
            refine wpAnyH_ready (rs := [10]) (by kernel_rfl) (by simp) ?_
            refine AllReadyH.cons rfl (fun K hK => ?_) ?_
            · refine wp_st_alloc 24 rfl _ Try.hk_zero Try.hk_not S ?_
              clear S
              intro g10 w1 S
              refine hK.out _ _ ?_ (fun hHeld => ?_)
              · first | exact ⟨S.at_ ix3, S.at_ ix2⟩ | exact ⟨S.at_ ix4, S.at_ ix3⟩ | exact ⟨S.at_ ix5, S.at_ ix4⟩
              clear hK K
              try simp only [Act.put, List.getElem_toArray, List.getElem_cons_succ, List.getElem_cons_zero, List.setIfInBounds_toArray, List.set_cons_zero, List.set_cons_succ]
              refine wpAnyH_ready (rs := [11]) (by kernel_rfl) (by simp) ?_
              refine AllReadyH.cons rfl (fun K hK => ?_) ?_
              · refine hk_store _ _ rfl _ rfl _ _ _ rfl S _ _ _ _ _ (by first | exact ix0 | exact ix1) rfl rfl rfl ?_
                clear S
                intro w1 S
                simp only [List.set] at S
                refine hK.out _ _ ?_ (fun hHeld => ?_)
                · first | exact ⟨S.at_ ix3, S.at_ ix2⟩ | exact ⟨S.at_ ix4, S.at_ ix3⟩ | exact ⟨S.at_ ix5, S.at_ ix4⟩
                clear hK K
                try simp only [Act.put, List.getElem_toArray, List.getElem_cons_succ, List.getElem_cons_zero, List.setIfInBounds_toArray, List.set_cons_zero, List.set_cons_succ]
                refine wpAnyH_ready (rs := [12]) (by kernel_rfl) (by simp) ?_
                refine AllReadyH.cons rfl (fun K hK => ?_) ?_
                · refine hk_store _ _ rfl _ rfl _ _ _ rfl S _ _ _ _ _ (by first | exact ix0 | exact ix1) rfl rfl rfl ?_
                  clear S
                  intro w1 S
                  simp only [List.set] at S
                  refine hK.out _ _ ?_ (fun hHeld => ?_)
                  · first | exact ⟨S.at_ ix3, S.at_ ix2⟩ | exact ⟨S.at_ ix4, S.at_ ix3⟩ | exact ⟨S.at_ ix5, S.at_ ix4⟩
                  clear hK K
                  try simp only [Act.put, List.getElem_toArray, List.getElem_cons_succ, List.getElem_cons_zero, List.setIfInBounds_toArray, List.set_cons_zero, List.set_cons_succ]
                  refine wpAnyH_take (i := 13) (v := ?_) rfl (by kernel_rfl) (by kernel_rfl) (by kernel_rfl) (fun _ _ _ h => h) (Or.inl ⟨by rfl, ?_⟩) (by assumption) ?_
                  rotate_left
                  · (intro w hSw; (try dsimp only at hSw); go_simp; try with_reducible rfl)
                  try simp only [Act.put, List.getElem_toArray, List.getElem_cons_succ, List.getElem_cons_zero, List.setIfInBounds_toArray, List.set_cons_zero, List.set_cons_succ]
                  refine wpAnyH_done (by kernel_rfl) ?_ _
                  first
                    | exact REST g9 g10 C2 g1 D2 g2 C3 g3 D3 g4 C4 f1 D4 f2 A4 f3 B4 f4 w1 S
                    | exact REST g9 g10 C2 g1 D2 g2 C3 g3 D3 g4 C4 f1 D4 f2 A4 f3 B4 f4 w1 S.swap
                exact AllReadyH.nil
              exact AllReadyH.nil
            exact AllReadyH.nil
          refine AllReadyH.cons rfl (fun K hK => ?_) ?_
          · refine wp_st_alloc 24 rfl _ Try.hk_zero Try.hk_not S ?_
            clear S
            intro g10 w1 S
            refine hK.out _ _ ?_ (fun hHeld => ?_)
            · first | exact ⟨S.at_ ix3, S.at_ ix2⟩ | exact ⟨S.at_ ix4, S.at_ ix3⟩ | exact ⟨S.at_ ix5, S.at_ ix4⟩
            clear hK K
            try simp only [Act.put, List.getElem_toArray, List.getElem_cons_succ, List.getElem_cons_zero, List.setIfInBounds_toArray, List.set_cons_zero, List.set_cons_succ]
            refine wpAnyH_ready (rs := [4]) (by kernel_rfl) (by simp) ?_
            refine AllReadyH.cons rfl (fun K hK => ?_) ?_
            · go_simp
              refine (Pass_some _ _ _ _ _ _ _ _ _ _ _ _ _ _ _ _ _ _ HT.out HY.out HX.out (S.ln mm3) (S.ln mm2) (S.ln mm1) (S.ln mm0) (by omega) (by omega) (by omega) (by omega) Svs.out Sus.out Sys.out Sxs.out).mono ?_
              rintro e w1 ⟨C4, f1, D4, f2, A4, f3, B4, f4, rfl, h1, h2, h3, h4, hb⟩
              replace S := ((((S.call hb).add0 h1).add0 h2).add0 h3).add0 h4
              clear hb h1 h2 h3 h4
              try simp only []
              refine hK.out _ _ ?_ (fun hHeld => ?_)
              · first | exact ⟨S.at_ ix3, S.at_ ix2⟩ | exact ⟨S.at_ ix4, S.at_ ix3⟩ | exact ⟨S.at_ ix5, S.at_ ix4⟩
              clear hK K
              try simp only [Act.put, List.getElem_toArray, List.getElem_cons_succ, List.getElem_cons_zero, List.setIfInBounds_toArray, List.set_cons_zero, List.set_cons_succ]
              refine wpAnyH_take (i := 5) (v := ?_) rfl (by kernel_rfl) (by kernel_rfl) (by kernel_rfl) (fun _ _ _ h => h) (Or.inl ⟨by rfl, ?_⟩) (by assumption) ?_
              rotate_left
              · (intro w hSw; (try dsimp only at hSw); go_simp; try with_reducible rfl)
              try simp only [Act.put, List.getElem_toArray, List.getElem_cons_succ, List.getElem_cons_zero, List.setIfInBounds_toArray, List.set_cons_zero, List.set_cons_succ]
              refine wpAnyH_take (i := 6) (v := ?_) rfl (by kernel_rfl) (by kernel_rfl) (by kernel_rfl) (fun _ _ _ h => h) (Or.inl ⟨by rfl, ?_⟩) (by assumption) ?_
              rotate_left
              · (intro w hSw; (try dsimp only at hSw); go_simp; try with_reducible rfl)
              try simp only [Act.put, List.getElem_toArray, List.getElem_cons_succ, List.getElem_cons_zero, List.setIfInBounds_toArray, List.set_cons_zero, List.set_cons_succ]
              refine wpAnyH_take (i := 7) (v := ?_) rfl (by kernel_rfl) (by kernel_rfl) (by kernel_rfl) (fun _ _ _ h => h) (Or.inl ⟨by rfl, ?_⟩) (by assumption) ?_
              rotate_left
              · (intro w hSw; (try dsimp only at hSw); go_simp; try with_reducible rfl)
              try simp only [Act.put, List.getElem_toArray, List.getElem_cons_succ, List.getElem_cons_zero, List.setIfInBounds_toArray, List.set_cons_zero, List.set_cons_succ]
              refine wpAnyH_take (i := 8) (v := ?_) rfl (by kernel_rfl) (by kernel_rfl) (by kernel_rfl) (fun _ _ _ h => h) (Or.inl ⟨by rfl, ?_⟩) (by assumption) ?_
              rotate_left
              · (intro w hSw; (try dsimp only at hSw); go_simp; try with_reducible rfl)
              try simp only [Act.put, List.getElem_toArray, List.getElem_cons_succ, List.getElem_cons_zero, List.setIfInBounds_toArray, List.set_cons_zero, List.set_cons_succ]
              refine wpAnyH_ready (rs := [11]) (by kernel_rfl) (by simp) ?_
              refine AllReadyH.cons rfl (fun K hK => ?_) ?_
              · refine hk_store _ _ rfl _ rfl _ _ _ rfl S _ _ _ _ _ (by first | exact ix0 | exact ix1) rfl rfl rfl ?_
                clear S
                intro w1 S
                simp only [List.set] at S
                refine hK.out _ _ ?_ (fun hHeld => ?_)
                · first | exact ⟨S.at_ ix3, S.at_ ix2⟩ | exact ⟨S.at_ ix4, S.at_ ix3⟩ | exact ⟨S.at_ ix5, S.at_ ix4⟩
                clear hK K
                try simp only [Act.put, List.getElem_toArray, List.getElem_cons_succ, List.getElem_cons_zero, List.setIfInBounds_toArray, List.set_cons_zero, List.set_cons_succ]
                refine wpAnyH_ready (rs := [12]) (by kernel_rfl) (by simp) ?_
                refine AllReadyH.cons rfl (fun K hK => ?_) ?_
                · refine hk_store _ _ rfl _ rfl _ _ _ rfl S _ _ _ _ _ (by first | exact ix0 | exact ix1) rfl rfl rfl ?_
                  clear S
                  intro w1 S
                  simp only [List.set] at S
                  refine hK.out _ _ ?_ (fun hHeld => ?_)
                  · first | exact ⟨S.at_ ix3, S.at_ ix2⟩ | exact ⟨S.at_ ix4, S.at_ ix3⟩ | exact ⟨S.at_ ix5, S.at_ ix4⟩
                  clear hK K
                  try simp only [Act.put, List.getElem_toArray, List.getElem_cons_succ, List.getElem_cons_zero, List.setIfInBounds_toArray, List.set_cons_zero, List.set_cons_succ]
                  refine wpAnyH_take (i := 13) (v := ?_) rfl (by kernel_rfl) (by kernel_rfl) (by kernel_rfl) (fun _ _ _ h => h) (Or.inl ⟨by rfl, ?_⟩) (by assumption) ?_
                  rotate_left
                  · (intro w hSw; (try dsimp only at hSw); go_simp; try with_reducible rfl)
                  try simp only [Act.put, List.getElem_toArray, List.getElem_cons_succ, List.getElem_cons_zero, List.setIfInBounds_toArray, List.set_cons_zero, List.set_cons_succ]
                  refine wpAnyH_done (by kernel_rfl) ?_ _
                  first
                    | exact REST g9 g10 C2 g1 D2 g2 C3 g3 D3 g4 C4 f1 D4 f2 A4 f3 B4 f4 w1 S
                    | exact REST g9 g10 C2 g1 D2 g2 C3 g3 D3 g4 C4 f1 D4 f2 A4 f3 B4 f4 w1 S.swap
                exact AllReadyH.nil
              exact AllReadyH.nil
            exact AllReadyH.nil
          exact AllReadyH.nil
        refine AllReadyH.cons rfl (fun K hK => ?_) ?_
        · refine wp_st_alloc 24 rfl _ Try.hk_zero Try.hk_not S ?_
          clear S
          intro g10 w1 S
          refine hK.out _ _ ?_ (fun hHeld => ?_)
          · first | exact ⟨S.at_ ix3, S.at_ ix2⟩ | exact ⟨S.at_ ix4, S.at_ ix3⟩ | exact ⟨S.at_ ix5, S.at_ ix4⟩
          clear hK K
          try simp only [Act.put, List.getElem_toArray, List.getElem_cons_succ, List.getElem_cons_zero, List.setIfInBounds_toArray, List.set_cons_zero, List.set_cons_succ]
          refine wpAnyH_ready (rs := [3]) (by kernel_rfl) (by simp) ?_
          refine AllReadyH.cons rfl (fun K hK => ?_) ?_
          · go_simp
            refine (turn_any _ _ _ _ _ _ _ _ _ _ rfl rfl (S.ln mm9) (S.ln mm8) (by omega) (by omega)).mono ?_
            rintro e w1 ⟨C3, g3, D3, g4, rfl, -, -, -, -, h1, h2, hb⟩
            replace S := ((S.call hb).add0 h1).add0 h2
            clear hb h1 h2
            try simp only []
            refine hK.out _ _ ?_ (fun hHeld => ?_)
            · first | exact ⟨S.at_ ix3, S.at_ ix2⟩ | exact ⟨S.at_ ix4, S.at_ ix3⟩ | exact ⟨S.at_ ix5, S.at_ ix4⟩
            clear hK K
            try simp only [Act.put, List.getElem_toArray, List.getElem_cons_succ, List.getElem_cons_zero, List.setIfInBounds_toArray, List.set_cons_zero, List.set_cons_succ]
            refine wpAnyH_ready (rs := [4]) (by kernel_rfl) (by simp) ?_
            refine AllReadyH.cons rfl (fun K hK => ?_) ?_
            · go_simp
              refine (Pass_some _ _ _ _ _ _ _ _ _ _ _ _ _ _ _ _ _ _ HT.out HY.out HX.out (S.ln mm3) (S.ln mm2) (S.ln mm1) (S.ln mm0) (by omega) (by omega) (by omega) (by omega) Svs.out Sus.out Sys.out Sxs.out).mono ?_
              rintro e w1 ⟨C4, f1, D4, f2, A4, f3, B4, f4, rfl, h1, h2, h3, h4, hb⟩
              replace S := ((((S.call hb).add0 h1).add0 h2).add0 h3).add0 h4
              clear hb h1 h2 h3 h4
              try simp only []
              refine hK.out _ _ ?_ (fun hHeld => ?_)
              · first | exact ⟨S.at_ ix3, S.at_ ix2⟩ | exact ⟨S.at_ ix4, S.at_ ix3⟩ | exact ⟨S.at_ ix5, S.at_ ix4⟩
              clear hK K
              try simp only [Act.put, List.getElem_toArray, List.getElem_cons_succ, List.getElem_cons_zero, List.setIfInBounds_toArray, List.set_cons_zero, List.set_cons_succ]
              refine wpAnyH_take (i := 5) (v := ?_) rfl (by kernel_rfl) (by kernel_rfl) (by kernel_rfl) (fun _ _ _ h => h) (Or.inl ⟨by rfl, ?_⟩) (by assumption) ?_
              rotate_left
              · (intro w hSw; (try dsimp only at hSw); go_simp; try with_reducible rfl)
              try simp only [Act.put, List.getElem_toArray, List.getElem_cons_succ, List.getElem_cons_zero, List.setIfInBounds_toArray, List.set_cons_zero, List.set_cons_succ]
              refine wpAnyH_take (i := 6) (v := ?_) rfl (by kernel_rfl) (by kernel_rfl) (by kernel_rfl) (fun _ _ _ h => h) (Or.inl ⟨by rfl, ?_⟩) (by assumption) ?_
              rotate_left
              · (intro w hSw; (try dsimp only at hSw); go_simp; try with_reducible rfl)
              try simp only [Act.put, List.getElem_toArray, List.getElem_cons_succ, List.getElem_cons_zero, List.setIfInBounds_toArray, List.set_cons_zero, List.set_cons_succ]
              refine wpAnyH_take (i := 7) (v := ?_) rfl (by kernel_rfl) (by kernel_rfl) (by kernel_rfl) (fun _ _ _ h => h) (Or.inl ⟨by rfl, ?_⟩) (by assumption) ?_
              rotate_left
              · (intro w hSw; (try dsimp only at hSw); go_simp; try with_reducible rfl)
              try simp only [Act.put, List.getElem_toArray, List.getElem_cons_succ, List.getElem_cons_zero, List.setIfInBounds_toArray, List.set_cons_zero, List.set_cons_succ]
              refine wpAnyH_take (i := 8) (v := ?_) rfl (by kernel_rfl) (by kernel_rfl) (by kernel_rfl) (fun _ _ _ h => h) (Or.inl ⟨by rfl, ?_⟩) (by assumption) ?_
              rotate_left
              · (intro w hSw; (try dsimp only at hSw); go_simp; try with_reducible rfl)
              try simp only [Act.put, List.getElem_toArray, List.getElem_cons_succ, List.getElem_cons_zero, List.setIfInBounds_toArray, List.set_cons_zero, List.set_cons_succ]
              refine wpAnyH_ready (rs := [11]) (by kernel_rfl) (by simp) ?_
              refine AllReadyH.cons rfl (fun K hK => ?_) ?_
              · refine hk_store _ _ rfl _ rfl _ _ _ rfl S _ _ _ _ _ (by first | exact ix0 | exact ix1) rfl rfl rfl ?_
                clear S
                intro w1 S
                simp only [List.set] at S
                refine hK.out _ _ ?_ (fun hHeld => ?_)
                · first | exact ⟨S.at_ ix3, S.at_ ix2⟩ | exact ⟨S.at_ ix4, S.at_ ix3⟩ | exact ⟨S.at_ ix5, S.at_ ix4⟩
                clear hK K
                try simp only [Act.put, List.getElem_toArray, List.getElem_cons_succ, List.getElem_cons_zero, List.setIfInBounds_toArray, List.set_cons_zero, List.set_cons_succ]
                refine wpAnyH_ready (rs := [12]) (by kernel_rfl) (by simp) ?_
                refine AllReadyH.cons rfl (fun K hK => ?_) ?_
                · refine hk_store _ _ rfl _ rfl _ _ _ rfl S _ _ _ _ _ (by first | exact ix0 | exact ix1) rfl rfl rfl ?_
                  clear S
                  intro w1 S
                  simp only [List.set] at S
                  refine hK.out _ _ ?_ (fun hHeld => ?_)
                  · first | exact ⟨S.at_ ix3, S.at_ ix2⟩ | exact ⟨S.at_ ix4, S.at_ ix3⟩ | exact ⟨S.at_ ix5, S.at_ ix4⟩
                  clear hK K
                  try simp only [Act.put, List.getElem_toArray, List.getElem_cons_succ, List.getElem_cons_zero, List.setIfInBounds_toArray, List.set_cons_zero, List.set_cons_succ]
                  refine wpAnyH_take (i := 13) (v := ?_) rfl (by kernel_rfl) (by kernel_rfl) (by kernel_rfl) (fun _ _ _ h => h) (Or.inl ⟨by rfl, ?_⟩) (by assumption) ?_
                  rotate_left
                  · (intro w hSw; (try dsimp only at hSw); go_simp; try with_reducible rfl)
                  try simp only [Act.put, List.getElem_toArray, List.getElem_cons_succ, List.getElem_cons_zero, List.setIfInBounds_toArray, List.set_cons_zero, List.set_cons_succ]
                  refine wpAnyH_done (by kernel_rfl) ?_ _
                  first
                    | exact REST g9 g10 C2 g1 D2 g2 C3 g3 D3 g4 C4 f1 D4 f2 A4 f3 B4 f4 w1 S
                    | exact REST g9 g10 C2 g1 D2 g2 C3 g3 D3 g4 C4 f1 D4 f2 A4 f3 B4 f4 w1 S.swap
                exact AllReadyH.nil
              exact AllReadyH.nil
            exact AllReadyH.nil
          exact AllReadyH.nil
        exact AllReadyH.nil
      refine AllReadyH.cons rfl (fun K hK => ?_) ?_
      · refine wp_st_alloc 24 rfl _ Try.hk_zero Try.hk_not S ?_
        clear S
        intro g10 w1 S
        refine hK.out _ _ ?_ (fun hHeld => ?_)
        · first | exact ⟨S.at_ ix3, S.at_ ix2⟩ | exact ⟨S.at_ ix4, S.at_ ix3⟩ | exact ⟨S.at_ ix5, S.at_ ix4⟩
        clear hK K
        try simp only [Act.put, List.getElem_toArray, List.getElem_cons_succ, List.getElem_cons_zero, List.setIfInBounds_toArray, List.set_cons_zero, List.set_cons_succ]
        refine wpAnyH_ready (rs := [1]) (by kernel_rfl) (by simp) ?_
        refine AllReadyH.cons rfl (fun K hK => ?_) ?_
        · go_simp
          refine (turn_any _ _ _ _ _ _ _ _ _ _ rfl rfl (S.ln mm5) (S.ln mm4) (by omega) (by omega)).mono ?_
          rintro e w1 ⟨C2, g1, D2, g2, rfl, -, -, -, -, h1, h2, hb⟩
          replace S := ((S.call hb).add0 h1).add0 h2
          clear hb h1 h2
          try simp only []
          refine hK.out _ _ ?_ (fun hHeld => ?_)
          · first | exact ⟨S.at_ ix3, S.at_ ix2⟩ | exact ⟨S.at_ ix4, S.at_ ix3⟩ | exact ⟨S.at_ ix5, S.at_ ix4⟩
          clear hK K
          try simp only [Act.put, List.getElem_toArray, List.getElem_cons_succ, List.getElem_cons_zero, List.setIfInBounds_toArray, List.set_cons_zero, List.set_cons_succ]
          refine wpAnyH_ready (rs := [3]) (by kernel_rfl) (by simp) ?_
          refine AllReadyH.cons rfl (fun K hK => ?_) ?_
          · go_simp
            refine (turn_any _ _ _ _ _ _ _ _ _ _ rfl rfl (S.ln mm9) (S.ln mm8) (by omega) (by omega)).mono ?_
            rintro e w1 ⟨C3, g3, D3, g4, rfl, -, -, -, -, h1, h2, hb⟩
            replace S := ((S.call hb).add0 h1).add0 h2
            clear hb h1 h2
            try simp only []
            refine hK.out _ _ ?_ (fun hHeld => ?_)
            · first | exact ⟨S.at_ ix3, S.at_ ix2⟩ | exact ⟨S.at_ ix4, S.at_ ix3⟩ | exact ⟨S.at_ ix5, S.at_ ix4⟩
            clear hK K
            try simp only [Act.put, List.getElem_toArray, List.getElem_cons_succ, List.getElem_cons_zero, List.setIfInBounds_toArray, List.set_cons_zero, List.set_cons_succ]
            refine wpAnyH_ready (rs := [4]) (by kernel_rfl) (by simp) ?_
            refine AllReadyH.cons rfl (fun K hK => ?_) ?_
            · go_simp
              refine (Pass_some _ _ _ _ _ _ _ _ _ _ _ _ _ _ _ _ _ _ HT.out HY.out HX.out (S.ln mm3) (S.ln mm2) (S.ln mm1) (S.ln mm0) (by omega) (by omega) (by omega) (by omega) Svs.out Sus.out Sys.out Sxs.out).mono ?_
              rintro e w1 ⟨C4, f1, D4, f2, A4, f3, B4, f4, rfl, h1, h2, h3, h4, hb⟩
              replace S := ((((S.call hb).add0 h1).add0 h2).add0 h3).add0 h4
              clear hb h1 h2 h3 h4
              try simp only []
              refine hK.out _ _ ?_ (fun hHeld => ?_)
              · first | exact ⟨S.at_ ix3, S.at_ ix2⟩ | exact ⟨S.at_ ix4, S.at_ ix3⟩ | exact ⟨S.at_ ix5, S.at_ ix4⟩
              clear hK K
              try simp only [Act.put, List.getElem_toArray, List.getElem_cons_succ, List.getElem_cons_zero, List.setIfInBounds_toArray, List.set_cons_zero, List.set_cons_succ]
              refine wpAnyH_take (i := 5) (v := ?_) rfl (by kernel_rfl) (by kernel_rfl) (by kernel_rfl) (fun _ _ _ h => h) (Or.inl ⟨by rfl, ?_⟩) (by assumption) ?_
              rotate_left
              · (intro w hSw; (try dsimp only at hSw); go_simp; try with_reducible rfl)
              try simp only [Act.put, List.getElem_toArray, List.getElem_cons_succ, List.getElem_cons_zero, List.setIfInBounds_toArray, List.set_cons_zero, List.set_cons_succ]
              refine wpAnyH_take (i := 6) (v := ?_) rfl (by kernel_rfl) (by kernel_rfl) (by kernel_rfl) (fun _ _ _ h => h) (Or.inl ⟨by rfl, ?_⟩) (by assumption) ?_
              rotate_left
              · (intro w hSw; (try dsimp only at hSw); go_simp; try with_reducible rfl)
              try simp only [Act.put, List.getElem_toArray, List.getElem_cons_succ, List.getElem_cons_zero, List.setIfInBounds_toArray, List.set_cons_zero, List.set_cons_succ]
              refine wpAnyH_take (i := 7) (v := ?_) rfl (by kernel_rfl) (by kernel_rfl) (by kernel_rfl) (fun _ _ _ h => h) (Or.inl ⟨by rfl, ?_⟩) (by assumption) ?_
              rotate_left
              · (intro w hSw; (try dsimp only at hSw); go_simp; try with_reducible rfl)
              try simp only [Act.put, List.getElem_toArray, List.getElem_cons_succ, List.getElem_cons_zero, List.setIfInBounds_toArray, List.set_cons_zero, List.set_cons_succ]
              refine wpAnyH_take (i := 8) (v := ?_) rfl (by kernel_rfl) (by kernel_rfl) (by kernel_rfl) (fun _ _ _ h => h) (Or.inl ⟨by rfl, ?_⟩) (by assumption) ?_
              rotate_left
              · (intro w hSw; (try dsimp only at hSw); go_simp; try with_reducible rfl)
              try simp only [Act.put, List.getElem_toArray, List.getElem_cons_succ, List.getElem_cons_zero, List.setIfInBounds_toArray, List.set_cons_zero, List.set_cons_succ]
              refine wpAnyH_ready (rs := [11]) (by kernel_rfl) (by simp) ?_
              refine AllReadyH.cons rfl (fun K hK => ?_) ?_
              · refine hk_store _ _ rfl _ rfl _ _ _ rfl S _ _ _ _ _ (by first | exact ix0 | exact ix1) rfl rfl rfl ?_
                clear S
                intro w1 S
                simp only [List.set] at S
                refine hK.out _ _ ?_ (fun hHeld => ?_)
                · first | exact ⟨S.at_ ix3, S.at_ ix2⟩ | exact ⟨S.at_ ix4, S.at_ ix3⟩ | exact ⟨S.at_ ix5, S.at_ ix4⟩
                clear hK K
                try simp only [Act.put, List.getElem_toArray, List.getElem_cons_succ, List.getElem_cons_zero, List.setIfInBounds_toArray, List.set_cons_zero, List.set_cons_succ]
                refine wpAnyH_ready (rs := [12]) (by kernel_rfl) (by simp) ?_
                refine AllReadyH.cons rfl (fun K hK => ?_) ?_
                · refine hk_store _ _ rfl _ rfl _ _ _ rfl S _ _ _ _ _ (by first | exact ix0 | exact ix1) rfl rfl rfl ?_
                  clear S
                  intro w1 S
                  simp only [List.set] at S
                  refine hK.out _ _ ?_ (fun hHeld => ?_)
                  · first | exact ⟨S.at_ ix3, S.at_ ix2⟩ | exact ⟨S.at_ ix4, S.at_ ix3⟩ | exact ⟨S.at_ ix5, S.at_ ix4⟩
                  clear hK K
                  try simp only [Act.put, List.getElem_toArray, List.getElem_cons_succ, List.getElem_cons_zero, List.setIfInBounds_toArray, List.set_cons_zero, List.set_cons_succ]
                  refine wpAnyH_take (i := 13) (v := ?_) rfl (by kernel_rfl) (by kernel_rfl) (by kernel_rfl) (fun _ _ _ h => h) (Or.inl ⟨by rfl, ?_⟩) (by assumption) ?_
                  rotate_left
                  · (intro w hSw; (try dsimp only at hSw); go_simp; try with_reducible rfl)
                  try simp only [Act.put, List.getElem_toArray, List.getElem_cons_succ, List.getElem_cons_zero, List.setIfInBounds_toArray, List.set_cons_zero, List.set_cons_succ]
                  refine wpAnyH_done (by kernel_rfl) ?_ _
                  first
                    | exact REST g9 g10 C2 g1 D2 g2 C3 g3 D3 g4 C4 f1 D4 f2 A4 f3 B4 f4 w1 S
                    | exact REST g9 g10 C2 g1 D2 g2 C3 g3 D3 g4 C4 f1 D4 f2 A4 f3 B4 f4 w1 S.swap
                exact AllReadyH.nil
              exact AllReadyH.nil
            exact AllReadyH.nil
          exact AllReadyH.nil
        exact AllReadyH.nil
      exact AllReadyH.nil
    refine AllReadyH.cons rfl (fun K hK => ?_) ?_
    · refine wp_st_alloc 24 rfl _ Try.hk_zero Try.hk_not S ?_
      clear S
      intro g10 w1 S
      refine hK.out _ _ ?_ (fun hHeld => ?_)
      · first | exact ⟨S.at_ ix3, S.at_ ix2⟩ | exact ⟨S.at_ ix4, S.at_ ix3⟩ | exact ⟨S.at_ ix5, S.at_ ix4⟩
      clear hK K
      try simp only [Act.put, List.getElem_toArray, List.getElem_cons_succ, List.getElem_cons_zero, List.setIfInBounds_toArray, List.set_cons_zero, List.set_cons_succ]
      refine wpAnyH_ready (rs := [1, 9]) (by kernel_rfl) (by simp) ?_
      refine AllReadyH.cons rfl (fun K hK => ?_) ?_
      · go_simp
        refine (turn_any _ _ _ _ _ _ _ _ _ _ rfl rfl (S.ln mm5) (S.ln mm4) (by omega) (by omega)).mono ?_
        rintro e w1 ⟨C2, g1, D2, g2, rfl, -, -, -, -, h1, h2, hb⟩
        replace S := ((S.call hb).add0 h1).add0 h2
        clear hb h1 h2
        try simp only []
        refine hK.out _ _ ?_ (fun hHeld => ?_)
        · first | exact ⟨S.at_ ix3, S.at_ ix2⟩ | exact ⟨S.at_ ix4, S.at_ ix3⟩ | exact ⟨S.at_ ix5, S.at_ ix4⟩
        clear hK K
        try simp only [Act.put, List.getElem_toArray, List.getElem_cons_succ, List.getElem_cons_zero, List.setIfInBounds_toArray, List.set_cons_zero, List.set_cons_succ]
        refine wpAnyH_ready (rs := [3, 9]) (by kernel_rfl) (by simp) ?_
        refine AllReadyH.cons rfl (fun K hK => ?_) ?_
        · go_simp
          refine (turn_any _ _ _ _ _ _ _ _ _ _ rfl rfl (S.ln mm9) (S.ln mm8) (by omega) (by omega)).mono ?_
          rintro e w1 ⟨C3, g3, D3, g4, rfl, -, -, -, -, h1, h2, hb⟩
          replace S := ((S.call hb).add0 h1).add0 h2
          clear hb h1 h2
          try simp only []
          refine hK.out _ _ ?_ (fun hHeld => ?_)
          · first | exact ⟨S.at_ ix3, S.at_ ix2⟩ | exact ⟨S.at_ ix4, S.at_ ix3⟩ | exact ⟨S.at_ ix5, S.at_ ix4⟩
          clear hK K
          try simp only [Act.put, List.getElem_toArray, List.getElem_cons_succ, List.getElem_cons_zero, List.setIfInBounds_toArray, List.set_cons_zero, List.set_cons_succ]
          refine wpAnyH_ready (rs := [4, 9]) (by kernel_rfl) (by simp) ?_
          refine AllReadyH.cons rfl (fun K hK => ?_) ?_
          · go_simp
            refine (Pass_some _ _ _ _ _ _ _ _ _ _ _ _ _ _ _ _ _ _ HT.out HY.out HX.out (S.ln mm3) (S.ln mm2) (S.ln mm1) (S.ln mm0) (by omega) (by omega) (by omega) (by omega) Svs.out Sus.out Sys.out Sxs.out).mono ?_
            rintro e w1 ⟨C4, f1, D4, f2, A4, f3, B4, f4, rfl, h1, h2, h3, h4, hb⟩
            replace S := ((((S.call hb).add0 h1).add0 h2).add0 h3).add0 h4
            clear hb h1 h2 h3 h4
            try simp only []
            refine hK.out _ _ ?_ (fun hHeld => ?_)
            · first | exact ⟨S.at_ ix3, S.at_ ix2⟩ | exact ⟨S.at_ ix4, S.at_ ix3⟩ | exact ⟨S.at_ ix5, S.at_ ix4⟩
            clear hK K
            try simp only [Act.put, List.getElem_toArray, List.getElem_cons_succ, List.getElem_cons_zero, List.setIfInBounds_toArray, List.set_cons_zero, List.set_cons_succ]
            refine wpAnyH_take (i := 5) (v := ?_) rfl (by kernel_rfl) (by kernel_rfl) (by kernel_rfl) (fun _ _ _ h => h) (Or.inl ⟨by rfl, ?_⟩) (by assumption) ?_
            rotate_left
            · (intro w hSw; (try dsimp only at hSw); go_simp; try with_reducible rfl)
            try simp only [Act.put, List.getElem_toArray, List.getElem_cons_succ, List.getElem_cons_zero, List.setIfInBounds_toArray, List.set_cons_zero, List.set_cons_succ]
            refine wpAnyH_take (i := 6) (v := ?_) rfl (by kernel_rfl) (by kernel_rfl) (by kernel_rfl) (fun _ _ _ h => h) (Or.inl ⟨by rfl, ?_⟩) (by assumption) ?_
            rotate_left
            · (intro w hSw; (try dsimp only at hSw); go_simp; try with_reducible rfl)
            try simp only [Act.put, List.getElem_toArray, List.getElem_cons_succ, List.getElem_cons_zero, List.setIfInBounds_toArray, List.set_cons_zero, List.set_cons_succ]
            refine wpAnyH_take (i := 7) (v := ?_) rfl (by kernel_rfl) (by kernel_rfl) (by kernel_rfl) (fun _ _ _ h => h) (Or.inl ⟨by rfl, ?_⟩) (by assumption) ?_
            rotate_left
            · (intro w hSw; (try dsimp only at hSw); go_simp; try with_reducible rfl)
            try simp only [Act.put, List.getElem_toArray, List.getElem_cons_succ, List.getElem_cons_zero, List.setIfInBounds_toArray, List.set_cons_zero, List.set_cons_succ]
            refine wpAnyH_take (i := 8) (v := ?_) rfl (by kernel_rfl) (by kernel_rfl) (by kernel_rfl) (fun _ _ _ h => h) (Or.inl ⟨by rfl, ?_⟩) (by assumption) ?_
            rotate_left
            · (intro w hSw; (try dsimp only at hSw); go_simp; try with_reducible rfl)
            try simp only [Act.put, List.getElem_toArray, List.getElem_cons_succ, List.getElem_cons_zero, List.setIfInBounds_toArray, List.set_cons_zero, List.set_cons_succ]
            refine wpAnyH_ready (rs := [9]) (by kernel_rfl) (by simp) ?_
            refine AllReadyH.cons rfl (fun K hK => ?_) ?_
            · refine wp_st_alloc 24 rfl _ Try.hk_zero Try.hk_not S ?_
              clear S
              intro g9 w1 S
              refine hK.out _ _ ?_ (fun hHeld => ?_)
              · first | exact ⟨S.at_ ix3, S.at_ ix2⟩ | exact ⟨S.at_ ix4, S.at_ ix3⟩ | exact ⟨S.at_ ix5, S.at_ ix4⟩
              clear hK K
              try simp only [Act.put, List.getElem_toArray, List.getElem_cons_succ, List.getElem_cons_zero, List.setIfInBounds_toArray, List.set_cons_zero, List.set_cons_succ]
              refine wpAnyH_ready (rs := [11]) (by kernel_rfl) (by simp) ?_
              refine AllReadyH.cons rfl (fun K hK => ?_) ?_
              · refine hk_store _ _ rfl _ rfl _ _ _ rfl S _ _ _ _ _ (by first | exact ix0 | exact ix1) rfl rfl rfl ?_
                clear S
                intro w1 S
                simp only [List.set] at S
                refine hK.out _ _ ?_ (fun hHeld => ?_)
                · first | exact ⟨S.at_ ix3, S.at_ ix2⟩ | exact ⟨S.at_ ix4, S.at_ ix3⟩ | exact ⟨S.at_ ix5, S.at_ ix4⟩
                clear hK K
                try simp only [Act.put, List.getElem_toArray, List.getElem_cons_succ, List.getElem_cons_zero, List.setIfInBounds_toArray, List.set_cons_zero, List.set_cons_succ]
                refine wpAnyH_ready (rs := [12]) (by kernel_rfl) (by simp) ?_
                refine AllReadyH.cons rfl (fun K hK => ?_) ?_
                · refine hk_store _ _ rfl _ rfl _ _ _ rfl S _ _ _ _ _ (by first | exact ix0 | exact ix1) rfl rfl rfl ?_
                  clear S
                  intro w1 S
                  simp only [List.set] at S
                  refine hK.out _ _ ?_ (fun hHeld => ?_)
                  · first | exact ⟨S.at_ ix3, S.at_ ix2⟩ | exact ⟨S.at_ ix4, S.at_ ix3⟩ | exact ⟨S.at_ ix5, S.at_ ix4⟩
                  clear hK K
                  try simp only [Act.put, List.getElem_toArray, List.getElem_cons_succ, List.getElem_cons_zero, List.setIfInBounds_toArray, List.set_cons_zero, List.set_cons_succ]
                  refine wpAnyH_take (i := 13) (v := ?_) rfl (by kernel_rfl) (by kernel_rfl) (by kernel_rfl) (fun _ _ _ h => h) (Or.inl ⟨by rfl, ?_⟩) (by assumption) ?_
                  rotate_left
                  · (intro w hSw; (try dsimp only at hSw); go_simp; try with_reducible rfl)
                  try simp only [Act.put, List.getElem_toArray, List.getElem_cons_succ, List.getElem_cons_zero, List.setIfInBounds_toArray, List.set_cons_zero, List.set_cons_succ]
                  refine wpAnyH_done (by kernel_rfl) ?_ _
                  first
                    | exact REST g9 g10 C2 g1 D2 g2 C3 g3 D3 g4 C4 f1 D4 f2 A4 f3 B4 f4 w1 S
                    | exact REST g9 g10 C2 g1 D2 g2 C3 g3 D3 g4 C4 f1 D4 f2 A4 f3 B4 f4 w1 S.swap
                exact AllReadyH.nil
              exact AllReadyH.nil
            exact AllReadyH.nil
          refine AllReadyH.cons rfl (fun K hK => ?_) ?_
          · refine wp_st_alloc 24 rfl _ Try.hk_zero Try.hk_not S ?_
            clear S
            intro g9 w1 S
            refine hK.out _ _ ?_ (fun hHeld => ?_)
            · first | exact ⟨S.at_ ix3, S.at_ ix2⟩ | exact ⟨S.at_ ix4, S.at_ ix3⟩ | exact ⟨S.at_ ix5, S.at_ ix4⟩
            clear hK K
            try simp only [Act.put, List.getElem_toArray, List.getElem_cons_succ, List.getElem_cons_zero, List.setIfInBounds_toArray, List.set_cons_zero, List.set_cons_succ]
            refine wpAnyH_ready (rs := [4]) (by kernel_rfl) (by simp) ?_
            refine AllReadyH.cons rfl (fun K hK => ?_) ?_
            · go_simp
              refine (Pass_some _ _ _ _ _ _ _ _ _ _ _ _ _ _ _ _ _ _ HT.out HY.out HX.out (S.ln mm3) (S.ln mm2) (S.ln mm1) (S.ln mm0) (by omega) (by omega) (by omega) (by omega) Svs.out Sus.out Sys.out Sxs.out).mono ?_
              rintro e w1 ⟨C4, f1, D4, f2, A4, f3, B4, f4, rfl, h1, h2, h3, h4, hb⟩
              replace S := ((((S.call hb).add0 h1).add0 h2).add0 h3).add0 h4
              clear hb h1 h2 h3 h4
              try simp only []
              refine hK.out _ _ ?_ (fun hHeld => ?_)
              · first | exact ⟨S.at_ ix3, S.at_ ix2⟩ | exact ⟨S.at_ ix4, S.at_ ix3⟩ | exact ⟨S.at_ ix5, S.at_ ix4⟩
              clear hK K
              try simp only [Act.put, List.getElem_toArray, List.getElem_cons_succ, List.getElem_cons_zero, List.setIfInBounds_toArray, List.set_cons_zero, List.set_cons_succ]
              refine wpAnyH_take (i := 5) (v := ?_) rfl (by kernel_rfl) (by kernel_rfl) (by kernel_rfl) (fun _ _ _ h => h) (Or.inl ⟨by rfl, ?_⟩) (by assumption) ?_
              rotate_left
              · (intro w hSw; (try dsimp only at hSw); go_simp; try with_reducible rfl)
              try simp only [Act.put, List.getElem_toArray, List.getElem_cons_succ, List.getElem_cons_zero, List.setIfInBounds_toArray, List.set_cons_zero, List.set_cons_succ]
              refine wpAnyH_take (i := 6) (v := ?_) rfl (by kernel_rfl) (by kernel_rfl) (by kernel_rfl) (fun _ _ _ h => h) (Or.inl ⟨by rfl, ?_⟩) (by assumption) ?_
              rotate_left
              · (intro w hSw; (try dsimp only at hSw); go_simp; try with_reducible rfl)
              try simp only [Act.put, List.getElem_toArray, List.getElem_cons_succ, List.getElem_cons_zero, List.setIfInBounds_toArray, List.set_cons_zero, List.set_cons_succ]
              refine wpAnyH_take (i := 7) (v := ?_) rfl (by kernel_rfl) (by kernel_rfl) (by kernel_rfl) (fun _ _ _ h => h) (Or.inl ⟨by rfl, ?_⟩) (by assumption) ?_
              rotate_left
              · (intro w hSw; (try dsimp only at hSw); go_simp; try with_reducible rfl)
              try simp only [Act.put, List.getElem_toArray, List.getElem_cons_succ, List.getElem_cons_zero, List.setIfInBounds_toArray, List.set_cons_zero, List.set_cons_succ]
              refine wpAnyH_take (i := 8) (v := ?_) rfl (by kernel_rfl) (by kernel_rfl) (by kernel_rfl) (fun _ _ _ h => h) (Or.inl ⟨by rfl, ?_⟩) (by assumption) ?_
              rotate_left
              · (intro w hSw; (try dsimp only at hSw); go_simp; try with_reducible rfl)
              try simp only [Act.put, List.getElem_toArray, List.getElem_cons_succ, List.getElem_cons_zero, List.setIfInBounds_toArray, List.set_cons_zero, List.set_cons_succ]
              refine wpAnyH_ready (rs := [11]) (by kernel_rfl) (by simp) ?_
              refine AllReadyH.cons rfl (fun K hK => ?_) ?_
              · refine hk_store _ _ rfl _ rfl _ _ _ rfl S _ _ _ _ _ (by first | exact ix0 | exact ix1) rfl rfl rfl ?_
                clear S
                intro w1 S
                simp only [List.set] at S
                refine hK.out _ _ ?_ (fun hHeld => ?_)
                · first | exact ⟨S.at_ ix3, S.at_ ix2⟩ | exact ⟨S.at_ ix4, S.at_ ix3⟩ | exact ⟨S.at_ ix5, S.at_ ix4⟩
                clear hK K
                try simp only [Act.put, List.getElem_toArray, List.getElem_cons_succ, List.getElem_cons_zero, List.setIfInBounds_toArray, List.set_cons_zero, List.set_cons_succ]
                refine wpAnyH_ready (rs := [12]) (by kernel_rfl) (by simp) ?_
                refine AllReadyH.cons rfl (fun K hK => ?_) ?_
                · refine hk_store _ _ rfl _ rfl _ _ _ rfl S _ _ _ _ _ (by first | exact ix0 | exact ix1) rfl rfl rfl ?_
                  clear S
                  intro w1 S
                  simp only [List.set] at S
                  refine hK.out _ _ ?_ (fun hHeld => ?_)
                  · first | exact ⟨S.at_ ix3, S.at_ ix2⟩ | exact ⟨S.at_ ix4, S.at_ ix3⟩ | exact ⟨S.at_ ix5, S.at_ ix4⟩
                  clear hK K
                  try simp only [Act.put, List.getElem_toArray, List.getElem_cons_succ, List.getElem_cons_zero, List.setIfInBounds_toArray, List.set_cons_zero, List.set_cons_succ]
                  refine wpAnyH_take (i := 13) (v := ?_) rfl (by kernel_rfl) (by kernel_rfl) (by kernel_rfl) (fun _ _ _ h => h) (Or.inl ⟨by rfl, ?_⟩) (by assumption) ?_
                  rotate_left
                  · (intro w hSw; (try dsimp only at hSw); go_simp; try with_reducible rfl)
                  try simp only [Act.put, List.getElem_toArray, List.getElem_cons_succ, List.getElem_cons_zero, List.setIfInBounds_toArray, List.set_cons_zero, List.set_cons_succ]
                  refine wpAnyH_done (by kernel_rfl) ?_ _
                  first
                    | exact REST g9 g10 C2 g1 D2 g2 C3 g3 D3 g4 C4 f1 D4 f2 A4 f3 B4 f4 w1 S
                    | exact REST g9 g10 C2 g1 D2 g2 C3 g3 D3 g4 C4 f1 D4 f2 A4 f3 B4 f4 w1 S.swap
                exact AllReadyH.nil
              exact AllReadyH.nil
            exact AllReadyH.nil
          exact AllReadyH.nil
        refine AllReadyH.cons rfl (fun K hK => ?_) ?_
        · refine wp_st_alloc 24 rfl _ Try.hk_zero Try.hk_not S ?_
          clear S
          intro g9 w1 S
          refine hK.out _ _ ?_ (fun hHeld => ?_)
          · first | exact ⟨S.at_ ix3, S.at_ ix2⟩ | exact ⟨S.at_ ix4, S.at_ ix3⟩ | exact ⟨S.at_ ix5, S.at_ ix4⟩
          clear hK K
          try simp only [Act.put, List.getElem_toArray, List.getElem_cons_succ, List.getElem_cons_zero, List.setIfInBounds_toArray, List.set_cons_zero, List.set_cons_succ]
          refine wpAnyH_ready (rs := [3]) (by kernel_rfl) (by simp) ?_
          refine AllReadyH.cons rfl (fun K hK => ?_) ?_
          · go_simp
            refine (turn_any _ _ _ _ _ _ _ _ _ _ rfl rfl (S.ln mm9) (S.ln mm8) (by omega) (by omega)).mono ?_
            rintro e w1 ⟨C3, g3, D3, g4, rfl, -, -, -, -, h1, h2, hb⟩
            replace S := ((S.call hb).add0 h1).add0 h2
            clear hb h1 h2
            try simp only []
            refine hK.out _ _ ?_ (fun hHeld => ?_)
            · first | exact ⟨S.at_ ix3, S.at_ ix2⟩ | exact ⟨S.at_ ix4, S.at_ ix3⟩ | exact ⟨S.at_ ix5, S.at_ ix4⟩
            clear hK K
            try simp only [Act.put, List.getElem_toArray, List.getElem_cons_succ, List.getElem_cons_zero, List.setIfInBounds_toArray, List.set_cons_zero, List.set_cons_succ]
            refine wpAnyH_ready (rs := [4]) (by kernel_rfl) (by simp) ?_
            refine AllReadyH.cons rfl (fun K hK => ?_) ?_
            · go_simp
              refine (Pass_some _ _ _ _ _ _ _ _ _ _ _ _ _ _ _ _ _ _ HT.out HY.out HX.out (S.ln mm3) (S.ln mm2) (S.ln mm1) (S.ln mm0) (by omega) (by omega) (by omega) (by omega) Svs.out Sus.out Sys.out Sxs.out).mono ?_
              rintro e w1 ⟨C4, f1, D4, f2, A4, f3, B4, f4, rfl, h1, h2, h3, h4, hb⟩
              replace S := ((((S.call hb).add0 h1).add0 h2).add0 h3).add0 h4
              clear hb h1 h2 h3 h4
              try simp only []
              refine hK.out _ _ ?_ (fun hHeld => ?_)
              · first | exact ⟨S.at_ ix3, S.at_ ix2⟩ | exact ⟨S.at_ ix4, S.at_ ix3⟩ | exact ⟨S.at_ ix5, S.at_ ix4⟩
              clear hK K
              try simp only [Act.put, List.getElem_toArray, List.getElem_cons_succ, List.getElem_cons_zero, List.setIfInBounds_toArray, List.set_cons_zero, List.set_cons_succ]
              refine wpAnyH_take (i := 5) (v := ?_) rfl (by kernel_rfl) (by kernel_rfl) (by kernel_rfl) (fun _ _ _ h => h) (Or.inl ⟨by rfl, ?_⟩) (by assumption) ?_
              rotate_left
              · (intro w hSw; (try dsimp only at hSw); go_simp; try with_reducible rfl)
              try simp only [Act.put, List.getElem_toArray, List.getElem_cons_succ, List.getElem_cons_zero, List.setIfInBounds_toArray, List.set_cons_zero, List.set_cons_succ]
              refine wpAnyH_take (i := 6) (v := ?_) rfl (by kernel_rfl) (by kernel_rfl) (by kernel_rfl) (fun _ _ _ h => h) (Or.inl ⟨by rfl, ?_⟩) (by assumption) ?_
              rotate_left
              · (intro w hSw; (try dsimp only at hSw); go_simp; try with_reducible rfl)
              try simp only [Act.put, List.getElem_toArray, List.getElem_cons_succ, List.getElem_cons_zero, List.setIfInBounds_toArray, List.set_cons_zero, List.set_cons_succ]
              refine wpAnyH_take (i := 7) (v := ?_) rfl (by kernel_rfl) (by kernel_rfl) (by kernel_rfl) (fun _ _ _ h => h) (Or.inl ⟨by rfl, ?_⟩) (by assumption) ?_
              rotate_left
              · (intro w hSw; (try dsimp only at hSw); go_simp; try with_reducible rfl)
              try simp only [Act.put, List.getElem_toArray, List.getElem_cons_succ, List.getElem_cons_zero, List.setIfInBounds_toArray, List.set_cons_zero, List.set_cons_succ]
              refine wpAnyH_take (i := 8) (v := ?_) rfl (by kernel_rfl) (by kernel_rfl) (by kernel_rfl) (fun _ _ _ h => h) (Or.inl ⟨by rfl, ?_⟩) (by assumption) ?_
              rotate_left
              · (intro w hSw; (try dsimp only at hSw); go_simp; try with_reducible rfl)
              try simp only [Act.put, List.getElem_toArray, List.getElem_cons_succ, List.getElem_cons_zero, List.setIfInBounds_toArray, List.set_cons_zero, List.set_cons_succ]
              refine wpAnyH_ready (rs := [11]) (by kernel_rfl) (by simp) ?_
              refine AllReadyH.cons rfl (fun K hK => ?_) ?_
              · refine hk_store _ _ rfl _ rfl _ _ _ rfl S _ _ _ _ _ (by first | exact ix0 | exact ix1) rfl rfl rfl ?_
                clear S
                intro w1 S
                simp only [List.set] at S
                refine hK.out _ _ ?_ (fun hHeld => ?_)
                · first | exact ⟨S.at_ ix3, S.at_ ix2⟩ | exact ⟨S.at_ ix4, S.at_ ix3⟩ | exact ⟨S.at_ ix5, S.at_ ix4⟩
                clear hK K
                try simp only [Act.put, List.getElem_toArray, List.getElem_cons_succ, List.getElem_cons_zero, List.setIfInBounds_toArray, List.set_cons_zero, List.set_cons_succ]
                refine wpAnyH_ready (rs := [12]) (by kernel_rfl) (by simp) ?_
                refine AllReadyH.cons rfl (fun K hK => ?_) ?_
                · refine hk_store _ _ rfl _ rfl _ _ _ rfl S _ _ _ _ _ (by first | exact ix0 | exact ix1) rfl rfl rfl ?_
                  clear S
                  intro w1 S
                  simp only [List.set] at S
                  refine hK.out _ _ ?_ (fun hHeld => ?_)
                  · first | exact ⟨S.at_ ix3, S.at_ ix2⟩ | exact ⟨S.at_ ix4, S.at_ ix3⟩ | exact ⟨S.at_ ix5, S.at_ ix4⟩
                  clear hK K
                  try simp only [Act.put, List.getElem_toArray, List.getElem_cons_succ, List.getElem_cons_zero, List.setIfInBounds_toArray, List.set_cons_zero, List.set_cons_succ]
                  refine wpAnyH_take (i := 13) (v := ?_) rfl (by kernel_rfl) (by kernel_rfl) (by kernel_rfl) (fun _ _ _ h => h) (Or.inl ⟨by rfl, ?_⟩) (by assumption) ?_
                  rotate_left
                  · (intro w hSw; (try dsimp only at hSw); go_simp; try with_reducible rfl)
                  try simp only [Act.put, List.getElem_toArray, List.getElem_cons_succ, List.getElem_cons_zero, List.setIfInBounds_toArray, List.set_cons_zero, List.set_cons_succ]
                  refine wpAnyH_done (by kernel_rfl) ?_ _
                  first
                    | exact REST g9 g10 C2 g1 D2 g2 C3 g3 D3 g4 C4 f1 D4 f2 A4 f3 B4 f4 w1 S
                    | exact REST g9 g10 C2 g1 D2 g2 C3 g3 D3 g4 C4 f1 D4 f2 A4 f3 B4 f4 w1 S.swap
                exact AllReadyH.nil
              exact AllReadyH.nil
            exact AllReadyH.nil
          exact AllReadyH.nil
        exact AllReadyH.nil
      refine AllReadyH.cons rfl (fun K hK => ?_) ?_
      · refine wp_st_alloc 24 rfl _ Try.hk_zero Try.hk_not S ?_
        clear S
        intro g9 w1 S
        refine hK.out _ _ ?_ (fun hHeld => ?_)
        · first | exact ⟨S.at_ ix3, S.at_ ix2⟩ | exact ⟨S.at_ ix4, S.at_ ix3⟩ | exact ⟨S.at_ ix5, S.at_ ix4⟩
        clear hK K
        try simp only [Act.put, List.getElem_toArray, List.getElem_cons_succ, List.getElem_cons_zero, List.setIfInBounds_toArray, List.set_cons_zero, List.set_cons_succ]
        refine wpAnyH_ready (rs := [1]) (by kernel_rfl) (by simp) ?_
        refine AllReadyH.cons rfl (fun K hK => ?_) ?_
        · go_simp
          refine (turn_any _ _ _ _ _ _ _ _ _ _ rfl rfl (S.ln mm5) (S.ln mm4) (by omega) (by omega)).mono ?_
          rintro e w1 ⟨C2, g1, D2, g2, rfl, -, -, -, -, h1, h2, hb⟩
          replace S := ((S.call hb).add0 h1).add0 h2
          clear hb h1 h2
          try simp only []
          refine hK.out _ _ ?_ (fun hHeld => ?_)
          · first | exact ⟨S.at_ ix3, S.at_ ix2⟩ | exact ⟨S.at_ ix4, S.at_ ix3⟩ | exact ⟨S.at_ ix5, S.at_ ix4⟩
          clear hK K
          try simp only [Act.put, List.getElem_toArray, List.getElem_cons_succ, List.getElem_cons_zero, List.setIfInBounds_toArray, List.set_cons_zero, List.set_cons_succ]
          refine wpAnyH_ready (rs := [3]) (by kernel_rfl) (by simp) ?_
          refine AllReadyH.cons rfl (fun K hK => ?_) ?_
          · go_simp
            refine (turn_any _ _ _ _ _ _ _ _ _ _ rfl rfl (S.ln mm9) (S.ln mm8) (by omega) (by omega)).mono ?_
            rintro e w1 ⟨C3, g3, D3, g4, rfl, -, -, -, -, h1, h2, hb⟩
            replace S := ((S.call hb).add0 h1).add0 h2
            clear hb h1 h2
            try simp only []
            refine hK.out _ _ ?_ (fun hHeld => ?_)
            · first | exact ⟨S.at_ ix3, S.at_ ix2⟩ | exact ⟨S.at_ ix4, S.at_ ix3⟩ | exact ⟨S.at_ ix5, S.at_ ix4⟩
            clear hK K
            try simp only [Act.put, List.getElem_toArray, List.getElem_cons_succ, List.getElem_cons_zero, List.setIfInBounds_toArray, List.set_cons_zero, List.set_cons_succ]
            refine wpAnyH_ready (rs := [4]) (by kernel_rfl) (by simp) ?_
            refine AllReadyH.cons rfl (fun K hK => ?_) ?_
            · go_simp
              refine (Pass_some _ _ _ _ _ _ _ _ _ _ _ _ _ _ _ _ _ _ HT.out HY.out HX.out (S.ln mm3) (S.ln mm2) (S.ln mm1) (S.ln mm0) (by omega) (by omega) (by omega) (by omega) Svs.out Sus.out Sys.out Sxs.out).mono ?_
              rintro e w1 ⟨C4, f1, D4, f2, A4, f3, B4, f4, rfl, h1, h2, h3, h4, hb⟩
              replace S := ((((S.call hb).add0 h1).add0 h2).add0 h3).add0 h4
              clear hb h1 h2 h3 h4
              try simp only []
              refine hK.out _ _ ?_ (fun hHeld => ?_)
              · first | exact ⟨S.at_ ix3, S.at_ ix2⟩ | exact ⟨S.at_ ix4, S.at_ ix3⟩ | exact ⟨S.at_ ix5, S.at_ ix4⟩
              clear hK K
              try simp only [Act.put, List.getElem_toArray, List.getElem_cons_succ, List.getElem_cons_zero, List.setIfInBounds_toArray, List.set_cons_zero, List.set_cons_succ]
              refine wpAnyH_take (i := 5) (v := ?_) rfl (by kernel_rfl) (by kernel_rfl) (by kernel_rfl) (fun _ _ _ h => h) (Or.inl ⟨by rfl, ?_⟩) (by assumption) ?_
              rotate_left
              · (intro w hSw; (try dsimp only at hSw); go_simp; try with_reducible rfl)
              try simp only [Act.put, List.getElem_toArray, List.getElem_cons_succ, List.getElem_cons_zero, List.setIfInBounds_toArray, List.set_cons_zero, List.set_cons_succ]
              refine wpAnyH_take (i := 6) (v := ?_) rfl (by kernel_rfl) (by kernel_rfl) (by kernel_rfl) (fun _ _ _ h => h) (Or.inl ⟨by rfl, ?_⟩) (by assumption) ?_
              rotate_left
              · (intro w hSw; (try dsimp only at hSw); go_simp; try with_reducible rfl)
              try simp only [Act.put, List.getElem_toArray, List.getElem_cons_succ, List.getElem_cons_zero, List.setIfInBounds_toArray, List.set_cons_zero, List.set_cons_succ]
              refine wpAnyH_take (i := 7) (v := ?_) rfl (by kernel_rfl) (by kernel_rfl) (by kernel_rfl) (fun _ _ _ h => h) (Or.inl ⟨by rfl, ?_⟩) (by assumption) ?_
              rotate_left
              · (intro w hSw; (try dsimp only at hSw); go_simp; try with_reducible rfl)
              try simp only [Act.put, List.getElem_toArray, List.getElem_cons_succ, List.getElem_cons_zero, List.setIfInBounds_toArray, List.set_cons_zero, List.set_cons_succ]
              refine wpAnyH_take (i := 8) (v := ?_) rfl (by kernel_rfl) (by kernel_rfl) (by kernel_rfl) (fun _ _ _ h => h) (Or.inl ⟨by rfl, ?_⟩) (by assumption) ?_
              rotate_left
              · (intro w hSw; (try dsimp only at hSw); go_simp; try with_reducible rfl)
              try simp only [Act.put, List.getElem_toArray, List.getElem_cons_succ, List.getElem_cons_zero, List.setIfInBounds_toArray, List.set_cons_zero, List.set_cons_succ]
              refine wpAnyH_ready (rs := [11]) (by kernel_rfl) (by simp) ?_
              refine AllReadyH.cons rfl (fun K hK => ?_) ?_
              · refine hk_store _ _ rfl _ rfl _ _ _ rfl S _ _ _ _ _ (by first | exact ix0 | exact ix1) rfl rfl rfl ?_
                clear S
                intro w1 S
                simp only [List.set] at S
                refine hK.out _ _ ?_ (fun hHeld => ?_)
                · first | exact ⟨S.at_ ix3, S.at_ ix2⟩ | exact ⟨S.at_ ix4, S.at_ ix3⟩ | exact ⟨S.at_ ix5, S.at_ ix4⟩
                clear hK K
                try simp only [Act.put, List.getElem_toArray, List.getElem_cons_succ, List.getElem_cons_zero, List.setIfInBounds_toArray, List.set_cons_zero, List.set_cons_succ]
                refine wpAnyH_ready (rs := [12]) (by kernel_rfl) (by simp) ?_
                refine AllReadyH.cons rfl (fun K hK => ?_) ?_
                · refine hk_store _ _ rfl _ rfl _ _ _ rfl S _ _ _ _ _ (by first | exact ix0 | exact ix1) rfl rfl rfl ?_
                  clear S
                  intro w1 S
                  simp only [List.set] at S
                  refine hK.out _ _ ?_ (fun hHeld => ?_)
                  · first | exact ⟨S.at_ ix3, S.at_ ix2⟩ | exact ⟨S.at_ ix4, S.at_ ix3⟩ | exact ⟨S.at_ ix5, S.at_ ix4⟩
                  clear hK K
                  try simp only [Act.put, List.getElem_toArray, List.getElem_cons_succ, List.getElem_cons_zero, List.setIfInBounds_toArray, List.set_cons_zero, List.set_cons_succ]
                  refine wpAnyH_take (i := 13) (v := ?_) rfl (by kernel_rfl) (by kernel_rfl) (by kernel_rfl) (fun _ _ _ h => h) (Or.inl ⟨by rfl, ?_⟩) (by assumption) ?_
                  rotate_left
                  · (intro w hSw; (try dsimp only at hSw); go_simp; try with_reducible rfl)
                  try simp only [Act.put, List.getElem_toArray, List.getElem_cons_succ, List.getElem_cons_zero, List.setIfInBounds_toArray, List.set_cons_zero, List.set_cons_succ]
                  refine wpAnyH_done (by kernel_rfl) ?_ _
                  first
                    | exact REST g9 g10 C2 g1 D2 g2 C3 g3 D3 g4 C4 f1 D4 f2 A4 f3 B4 f4 w1 S
                    | exact REST g9 g10 C2 g1 D2 g2 C3 g3 D3 g4 C4 f1 D4 f2 A4 f3 B4 f4 w1 S.swap
                exact AllReadyH.nil
              exact AllReadyH.nil
            exact AllReadyH.nil
          exact AllReadyH.nil
        exact AllReadyH.nil
      exact AllReadyH.nil
    exact AllReadyH.nil
  case rest =>
    intro g9 g10 C2 g1 D2 g2 C3 g3 D3 g4 C4 f1 D4 f2 A4 f3 B4 f4 w1 S
    go_wp2
    replace S := S.drew
    refine wp_region_held_drew (S := (fun w' => Blk w' g10 24 #[.int .i64 Y, .slice A4 vs.length f3, .slice B4 us.length f4] ∧ Blk w' g9 24 #[.int .i64 X, .slice C4 ys.length f1, .slice D4 xs.length f2] ∧ Blk w' gy 24 #[.int .i64 X, .slice A1 xs.length e3, .slice B1 ys.length e4] ∧ Blk w' gx 24 #[.int .i64 Y, .slice C1 us.length e1, .slice D1 vs.length e2])) (by kernel_rfl) ?_ (fun hHeld => ?_)
    · exact ⟨S.at_ ix0, S.at_ ix1, S.at_ ix2, S.at_ ix3⟩
    refine wpAnyH_take (i := 0) (v := ?_) rfl (by kernel_rfl) (by kernel_rfl) (by kernel_rfl) (fun _ _ _ h => h) (Or.inl ⟨by rfl, ?_⟩) (by assumption) ?_
    rotate_left
    · (intro w hSw; (try dsimp only at hSw); go_simp; try with_reducible rfl)
    try simp only [Act.put, List.getElem_toArray, List.getElem_cons_succ, List.getElem_cons_zero, List.setIfInBounds_toArray, List.set_cons_zero, List.set_cons_succ]
    refine wpAnyH_take (i := 1) (v := ?_) rfl (by kernel_rfl) (by kernel_rfl) (by kernel_rfl) (fun _ _ _ h => h) (Or.inl ⟨by rfl, ?_⟩) (by assumption) ?_
    rotate_left
    · (intro w hSw; (try dsimp only at hSw); go_simp; try with_reducible rfl)
    try simp only [Act.put, List.getElem_toArray, List.getElem_cons_succ, List.getElem_cons_zero, List.setIfInBounds_toArray, List.set_cons_zero, List.set_cons_succ]
    refine wpAnyH_take (i := 2) (v := ?_) rfl (by kernel_rfl) (by kernel_rfl) (by kernel_rfl) (fun _ _ _ h => h) (Or.inl ⟨by rfl, ?_⟩) (by assumption) ?_
    rotate_left
    · (intro w hSw; (try dsimp only at hSw); go_simp; try with_reducible rfl)
    try simp only [Act.put, List.getElem_toArray, List.getElem_cons_succ, List.getElem_cons_zero, List.setIfInBounds_toArray, List.set_cons_zero, List.set_cons_succ]
    refine wpAnyH_take (i := 3) (v := ?_) rfl (by kernel_rfl) (by kernel_rfl) (by kernel_rfl) (fun _ _ _ h => h) (Or.inl ⟨by rfl, ?_⟩) (by assumption) ?_
    rotate_left
    · (intro w hSw; (try dsimp only at hSw); refine hk_take ?_ ?_ ?_ hSw.2.1; rotate_left; exact rfl; exact rfl)
    try simp only [Act.put, List.getElem_toArray, List.getElem_cons_succ, List.getElem_cons_zero, List.setIfInBounds_toArray, List.set_cons_zero, List.set_cons_succ]
    refine wpAnyH_take (i := 4) (v := ?_) rfl (by kernel_rfl) (by kernel_rfl) (by kernel_rfl) (fun _ _ _ h => h) (Or.inl ⟨by rfl, ?_⟩) (by assumption) ?_
    rotate_left
    · (intro w hSw; (try dsimp only at hSw); refine hk_take ?_ ?_ ?_ hSw.2.2.1; rotate_left; exact rfl; exact rfl)
    try simp only [Act.put, List.getElem_toArray, List.getElem_cons_succ, List.getElem_cons_zero, List.setIfInBounds_toArray, List.set_cons_zero, List.set_cons_succ]
    refine wpAnyH_ready (rs := [5]) (by kernel_rfl) (by simp) ?_
    refine AllReadyH.cons rfl (fun K hK => ?_) ?_
    · go_simp
      refine (turn_any _ _ _ _ _ _ _ _ _ _ rfl rfl (S.ln mm9) (S.ln mm8) (by omega) (by omega)).mono ?_
      rintro e w1 ⟨C5, g5, D5, g6, rfl, -, -, -, -, h1, h2, hb⟩
      replace S := ((S.call hb).add0 h1).add0 h2
      clear hb h1 h2
      try simp only []
      refine hK.out _ _ ?_ (fun hHeld => ?_)
      · exact ⟨S.at_ ix0, S.at_ ix1, S.at_ ix2, S.at_ ix3⟩
      clear hK K
      try simp only [Act.put, List.getElem_toArray, List.getElem_cons_succ, List.getElem_cons_zero, List.setIfInBounds_toArray, List.set_cons_zero, List.set_cons_succ]
      refine wpAnyH_ready (rs := [6]) (by kernel_rfl) (by simp) ?_
      refine AllReadyH.cons rfl (fun K hK => ?_) ?_
      · go_simp
        refine (hsame_any _ _ _ _ _ _ _ _ _ _ _ _ _ _ _ _ _ _ _ rfl rfl rfl rfl (S.ln mm5) (S.ln mm4) (S.ln mm1) (S.ln mm0) (by omega) (by omega)).mono ?_
        rintro e w1 ⟨rfl, hb⟩
        rw [hSame_refl]
        replace S := S.call hb
        clear hb
        try simp only []
        refine hK.out _ _ ?_ (fun hHeld => ?_)
        · exact ⟨S.at_ ix0, S.at_ ix1, S.at_ ix2, S.at_ ix3⟩
        clear hK K
        try simp only [Act.put, List.getElem_toArray, List.getElem_cons_succ, List.getElem_cons_zero, List.setIfInBounds_toArray, List.set_cons_zero, List.set_cons_succ]
        refine wpAnyH_take (i := 7) (v := ?_) rfl (by kernel_rfl) (by kernel_rfl) (by kernel_rfl) (fun _ _ _ h => h) (Or.inl ⟨by rfl, ?_⟩) (by assumption) ?_
        rotate_left
        · (intro w hSw; (try dsimp only at hSw); go_simp; try with_reducible rfl)
        try simp only [Act.put, List.getElem_toArray, List.getElem_cons_succ, List.getElem_cons_zero, List.setIfInBounds_toArray, List.set_cons_zero, List.set_cons_succ]
        refine wpAnyH_take (i := 8) (v := ?_) rfl (by kernel_rfl) (by kernel_rfl) (by kernel_rfl) (fun _ _ _ h => h) (Or.inl ⟨by rfl, ?_⟩) (by assumption) ?_
        rotate_left
        · (intro w hSw; (try dsimp only at hSw); refine hk_take ?_ ?_ ?_ hSw.1; rotate_left; exact rfl; exact rfl)
        try simp only [Act.put, List.getElem_toArray, List.getElem_cons_succ, List.getElem_cons_zero, List.setIfInBounds_toArray, List.set_cons_zero, List.set_cons_succ]
        refine wpAnyH_take (i := 9) (v := ?_) rfl (by kernel_rfl) (by kernel_rfl) (by kernel_rfl) (fun _ _ _ h => h) (Or.inl ⟨by rfl, ?_⟩) (by assumption) ?_
        rotate_left
        · (intro w hSw; (try dsimp only at hSw); refine hk_take ?_ ?_ ?_ hSw.2.2.2; rotate_left; exact rfl; exact rfl)
        try simp only [Act.put, List.getElem_toArray, List.getElem_cons_succ, List.getElem_cons_zero, List.setIfInBounds_toArray, List.set_cons_zero, List.set_cons_succ]
        refine wpAnyH_ready (rs := [10]) (by kernel_rfl) (by simp) ?_
        refine AllReadyH.cons rfl (fun K hK => ?_) ?_
        · go_simp
          refine (turn_any _ _ _ _ _ _ _ _ _ _ rfl rfl (S.ln mm13) (S.ln mm12) (by omega) (by omega)).mono ?_
          rintro e w1 ⟨C6, g7, D6, g8, rfl, -, -, -, -, h1, h2, hb⟩
          replace S := ((S.call hb).add0 h1).add0 h2
          clear hb h1 h2
          try simp only []
          refine hK.out _ _ ?_ (fun hHeld => ?_)
          · exact ⟨S.at_ ix0, S.at_ ix1, S.at_ ix2, S.at_ ix3⟩
          clear hK K
          try simp only [Act.put, List.getElem_toArray, List.getElem_cons_succ, List.getElem_cons_zero, List.setIfInBounds_toArray, List.set_cons_zero, List.set_cons_succ]
          refine wpAnyH_ready (rs := [11]) (by kernel_rfl) (by simp) ?_
          refine AllReadyH.cons rfl (fun K hK => ?_) ?_
          · go_simp
            refine (hsame_any _ _ _ _ _ _ _ _ _ _ _ _ _ _ _ _ _ _ _ rfl rfl rfl rfl (S.ln mm5) (S.ln mm4) (S.ln mm1) (S.ln mm0) (by omega) (by omega)).mono ?_
            rintro e w1 ⟨rfl, hb⟩
            rw [hSame_refl]
            replace S := S.call hb
            clear hb
            try simp only []
            refine hK.out _ _ ?_ (fun hHeld => ?_)
            · exact ⟨S.at_ ix0, S.at_ ix1, S.at_ ix2, S.at_ ix3⟩
            clear hK K
            try simp only [Act.put, List.getElem_toArray, List.getElem_cons_succ, List.getElem_cons_zero, List.setIfInBounds_toArray, List.set_cons_zero, List.set_cons_succ]
            refine wpAnyH_take (i := 12) (v := ?_) rfl (by kernel_rfl) (by kernel_rfl) (by kernel_rfl) (fun _ _ _ h => h) (Or.inl ⟨by rfl, ?_⟩) (by assumption) ?_
            rotate_left
            · (intro w hSw; (try dsimp only at hSw); go_simp; try with_reducible rfl)
            try simp only [Act.put, List.getElem_toArray, List.getElem_cons_succ, List.getElem_cons_zero, List.setIfInBounds_toArray, List.set_cons_zero, List.set_cons_succ]
            refine wpAnyH_take (i := 13) (v := ?_) rfl (by kernel_rfl) (by kernel_rfl) (by kernel_rfl) (fun _ _ _ h => h) (Or.inl ⟨by rfl, ?_⟩) (by assumption) ?_
            rotate_left
            · (intro w hSw; (try dsimp only at hSw); go_simp; try with_reducible rfl)
            try simp only [Act.put, List.getElem_toArray, List.getElem_cons_succ, List.getElem_cons_zero, List.setIfInBounds_toArray, List.set_cons_zero, List.set_cons_succ]
            refine wpAnyH_take (i := 14) (v := ?_) rfl (by kernel_rfl) (by kernel_rfl) (by kernel_rfl) (fun _ _ _ h => h) (Or.inl ⟨by rfl, ?_⟩) (by assumption) ?_
            rotate_left
            · (intro w hSw; (try dsimp only at hSw); go_simp; try with_reducible rfl)
            try simp only [Act.put, List.getElem_toArray, List.getElem_cons_succ, List.getElem_cons_zero, List.setIfInBounds_toArray, List.set_cons_zero, List.set_cons_succ]
            refine wpAnyH_done (by kernel_rfl) ?_ _
            go_wp2
            go_ret
            exact ⟨rfl, S.below⟩
          exact AllReadyH.nil
        exact AllReadyH.nil
      exact AllReadyH.nil
    exact AllReadyH.nil
end Go.Proofs.Ytnepgecdnhiokaa
