/- diff.Edits$1: the closure that is called at each pair. -/
import Derived.Test.YtkggedmcdllnaaaEd
namespace Go.Proofs.Ytkggedmcdllnaaa
open Go.RowKit

/-- What lies in memory while diff.Edits goes on: the variables j, i, l, b. -/
abbrev upBl (gj gi gl gb : Nat) (j i : Nat) (v : Value) (B : Option Addr) (m d : Nat) : List Bl :=
  [(gj, 3, #[.int .i64 j]), (gi, 3, #[.int .i64 i]), (gl, 49, #[v]), (gb, 22, #[.slice B m d])]
/-- The closure's end. -/
def UptoPost (w0 : World) (gj gi gl gb : Nat) (ys : List ByteArray) (B : Option Addr) (d : Nat) (l : List EdA) (M : List Mf) (i j p q : Nat) (e : Ending) (w' : World) : Prop :=
  ∃ v' l', e = .returned (.tuple #[]) ∧ eds l' = eds l ++ edStep ys i j p q ∧ Rw w0 w' (upBl gj gi gl gb (q + 1) (p + 1) v' B ys.length d) ((w0.heap.size, News l') :: M) 52 3 v' l'.length (ecs l')
section
variable (w0 w : World) (gj gi gl gb : Nat) (i j : Nat) (v : Value) (l : List EdA) (ys : List ByteArray) (B : Option Addr) (d : Nat) (M : List Mf)
    (R : Rw w0 w (upBl gj gi gl gb j i v B ys.length d) ((w0.heap.size, News l) :: M) 52 3 v l.length (ecs l))
set_option maxHeartbeats 1000000 in
include R in
theorem upto_no (_ : i ≤ 100000) (_ : j ≤ 100000) :
    Calls Try.prog 39 #[.int .i64 i, .int .i64 j, .pointer (some ⟨gi, 0, none⟩), .pointer (some ⟨gj, 0, none⟩), .pointer (some ⟨gl, 0, none⟩), .pointer (some ⟨gb, 0, none⟩)] w (UptoPost w0 gj gi gl gb ys B d l M i j i j) := by
  have c0 := R.sm.c1 ix0
  have c1 := R.sm.c1 ix1
  have f0 := R.sm.free ix0 0
  have f1 := R.sm.free ix1 0
  have n1 := R.sm.ne ix1 ix0 (by decide)
  have n2 := R.sm.ne ix0 ix1 (by decide)
  go_enter Try.func39, Try.ntmps39
  go_wp2
  have R2 := (R.set ix1 0 (.int .i64 ((i : Int) + 1))).set (i := 0) ix0 0 (.int .i64 ((j : Int) + 1))
  have hn : edStep ys i j i j = [] := by unfold edStep; rw [if_neg (by omega)]
  go_end0
  exact ⟨v, l, rfl, by rw [hn, List.append_nil], R2⟩
set_option maxHeartbeats 2000000 in
include R in
theorem upto_yes (p q : Nat) (hpq : i < p ∨ j < q) (_ : i ≤ p) (h2 : j ≤ q) (h3 : q ≤ ys.length) (h4 : ys.length ≤ d) (_ : d ≤ 9223372036854775807) (_ : p ≤ 100000) (_ : ys.length ≤ 100000) (hl : l.length ≤ 1000000) (lo : Nat) (hB : (lo, LnX B ys) ∈ M) :
    Calls Try.prog 39 #[.int .i64 p, .int .i64 q, .pointer (some ⟨gi, 0, none⟩), .pointer (some ⟨gj, 0, none⟩), .pointer (some ⟨gl, 0, none⟩), .pointer (some ⟨gb, 0, none⟩)] w (UptoPost w0 gj gi gl gb ys B d l M i j p q) := by
  have c0 := R.sm.c1 ix0
  have c1 := R.sm.c1 ix1
  have c2 := R.sm.c1 ix2
  have c3 := R.sm.c1 ix3
  have n1 := R.sm.ne ix1 ix0 (by decide)
  have n2 := R.sm.ne ix0 ix1 (by decide)
  have b1 : (0 : Int) ≤ (j : Int) := by omega
  have b2 : (j : Int) ≤ (q : Int) := by omega
  have b3 : (q : Int) ≤ (d : Int) := by omega
  have hcut := (R.sm.ln (.tail _ hB)).take h3
  have hcut2 := hcut.cut (k := j) (c := d) (by rw [List.length_take]; omega) (by rw [List.length_take]; omega)
  obtain ⟨S1, g1⟩ : ∃ S, (if d = j then B else B.map (fun x => x.add j)) = S := ⟨_, rfl⟩
  rw [g1] at hcut2
  have hlen : ((ys.take q).drop j).length = q - j := by rw [List.length_drop, List.length_take]; omega
  obtain ⟨xs, hxs⟩ : ∃ xs, (ys.take q).drop j = xs := ⟨_, rfl⟩
  rw [hxs] at hcut2 hlen
  have HC := Kp.mk hcut2
  have HL := Kp.mk hlen
  have HX := Kp.mk hxs
  have v1 : IntKind.i64.wrap ((p : Int) - (i : Int)) = (p : Int) - (i : Int) := IntWalk.i64_in _ (by omega)
  have hcl := cloneS_any xs S1 (d - j) w.drew HC.out.drew (by rw [HL.out]; omega)
  rw [HL.out] at hcl
  have HCL := Kp.mk hcl
  have n3 := R.sm.ne ix2 ix0 (by decide)
  have n4 := R.sm.ne ix2 ix1 (by decide)
  have n5 := R.sm.ne ix2 ix3 (by decide)
  have n6 := R.sm.ne ix0 ix2 (by decide)
  have n7 := R.sm.ne ix1 ix2 (by decide)
  have n8 := R.sm.ne ix3 ix2 (by decide)
  clear hcut hcut2 hlen hcl hxs
  have HP := Kp.mk hpq
  have hpq2 : i < p ∨ (¬ i < p ∧ j < q) := by omega
  clear hpq
  rcases hpq2 with hp | ⟨hnp, hp⟩
  all_goals
    go_enter Try.func39, Try.ntmps39
    go_wp2
    refine wp_region_held_drew (S := (fun w' => w'.cell? ⟨gj, 0, none⟩ = some (.int .i64 j) ∧ w'.cell? ⟨gi, 0, none⟩ = some (.int .i64 i) ∧ w'.cell? ⟨gb, 0, none⟩ = some (.slice B ys.length d))) (by kernel_rfl) ?_ (fun hHeld => ?_)
    · exact ⟨by assumption, by assumption, by assumption⟩
    refine wpAnyH_take (i := 1) (v := ?_) rfl (by kernel_rfl) (by kernel_rfl) (by kernel_rfl) (fun _ _ _ h => h) (Or.inl ⟨by rfl, ?_⟩) (by assumption) ?_
    rotate_left
    · (intro w hSw; (try dsimp only at hSw); go_simp; try with_reducible rfl)
    try simp only [Act.put, List.getElem_toArray, List.getElem_cons_succ, List.getElem_cons_zero, List.setIfInBounds_toArray, List.set_cons_zero, List.set_cons_succ]
    refine wpAnyH_take (i := 2) (v := ?_) rfl (by kernel_rfl) (by kernel_rfl) (by kernel_rfl) (fun _ _ _ h => h) (Or.inl ⟨by rfl, ?_⟩) (by assumption) ?_
    rotate_left
    · (intro w hSw; (try dsimp only at hSw); go_simp; try with_reducible rfl)
    try simp only [Act.put, List.getElem_toArray, List.getElem_cons_succ, List.getElem_cons_zero, List.setIfInBounds_toArray, List.set_cons_zero, List.set_cons_succ]
    refine wpAnyH_take (i := 3) (v := ?_) rfl (by kernel_rfl) (by kernel_rfl) (by kernel_rfl) (fun _ _ _ h => h) (Or.inl ⟨by rfl, ?_⟩) (by assumption) ?_
    rotate_left
    · (intro w hSw; (try dsimp only at hSw); go_simp; try with_reducible rfl)
    try simp only [Act.put, List.getElem_toArray, List.getElem_cons_succ, List.getElem_cons_zero, List.setIfInBounds_toArray, List.set_cons_zero, List.set_cons_succ]
    refine wpAnyH_take (i := 4) (v := ?_) rfl (by kernel_rfl) (by kernel_rfl) (by kernel_rfl) (fun _ _ _ h => h) (Or.inl ⟨by rfl, ?_⟩) (by assumption) ?_
    rotate_left
    · (intro w hSw; (try dsimp only at hSw); go_simp; try with_reducible rfl)
    try simp only [Act.put, List.getElem_toArray, List.getElem_cons_succ, List.getElem_cons_zero, List.setIfInBounds_toArray, List.set_cons_zero, List.set_cons_succ]
    refine wpAnyH_take (i := 5) (v := ?_) rfl (by kernel_rfl) (by kernel_rfl) (by kernel_rfl) (fun _ _ _ h => h) (Or.inl ⟨by rfl, ?_⟩) (by assumption) ?_
    rotate_left
    · (intro w hSw; (try dsimp only at hSw); go_simp; try with_reducible rfl)
    try simp only [Act.put, List.getElem_toArray, List.getElem_cons_succ, List.getElem_cons_zero, List.setIfInBounds_toArray, List.set_cons_zero, List.set_cons_succ]
    refine wpAnyH_take (i := 6) (v := ?_) rfl (by kernel_rfl) (by kernel_rfl) (by kernel_rfl) (fun _ _ _ h => h) (Or.inl ⟨by rfl, ?_⟩) (by assumption) ?_
    rotate_left
    · (intro w hSw; (try dsimp only at hSw); go_simp; try with_reducible rfl)
    try simp only [Act.put, List.getElem_toArray, List.getElem_cons_succ, List.getElem_cons_zero, List.setIfInBounds_toArray, List.set_cons_zero, List.set_cons_succ]
    refine wpAnyH_take (i := 7) (v := ?_) rfl (by kernel_rfl) (by kernel_rfl) (by kernel_rfl) (fun _ _ _ h => h) (Or.inl ⟨by rfl, ?_⟩) (by assumption) ?_
    rotate_left
    · (intro w hSw; (try dsimp only at hSw); go_simp; try with_reducible rfl)
    try simp only [Act.put, List.getElem_toArray, List.getElem_cons_succ, List.getElem_cons_zero, List.setIfInBounds_toArray, List.set_cons_zero, List.set_cons_succ]
    refine wpAnyH_take (i := 8) (v := ?_) rfl (by kernel_rfl) (by kernel_rfl) (by kernel_rfl) (fun _ _ _ h => h) (Or.inl ⟨by rfl, ?_⟩) (by assumption) ?_
    rotate_left
    · (intro w hSw; (try dsimp only at hSw); go_simp; try with_reducible rfl)
    try simp only [Act.put, List.getElem_toArray, List.getElem_cons_succ, List.getElem_cons_zero, List.setIfInBounds_toArray, List.set_cons_zero, List.set_cons_succ]
    refine wpAnyH_ready (rs := [0, 9]) (by kernel_rfl) (by simp) ?_
    refine AllReadyH.cons rfl (fun K hK => ?_) ?_
    · go_simp
      refine hK.out _ _ ?_ (fun hHeld => ?_)
      · first | exact ⟨by assumption, by assumption, by assumption⟩ | go_keep
      clear hK K
      try simp only [Act.put, List.getElem_toArray, List.getElem_cons_succ, List.getElem_cons_zero, List.setIfInBounds_toArray, List.set_cons_zero, List.set_cons_succ]
      refine wpAnyH_ready (rs := [9]) (by kernel_rfl) (by simp) ?_
      refine AllReadyH.cons rfl (fun K hK => ?_) ?_
      · go_simp
        refine HCL.out.mono ?_
        rintro e w3 ⟨v3, rfl, hown, hb3⟩
        rw [← HL.out] at hown
        obtain ⟨A3, c3', rfl, -, -, hA3⟩ := Frs.own_ln hown (by rw [HL.out]; omega)
        clear hown
        have R3 := R.drew.made hb3 hA3
        clear hA3 hb3
        have k0 := R3.sm.c1 ix0
        have k1 := R3.sm.c1 ix1
        have k2 := R3.sm.c1 ix2
        have k3 := R3.sm.c1 ix3
        have m0 := World.new_ne w3 _ k0
        have m1 := World.new_ne w3 _ k1
        have m2 := World.new_ne w3 _ k2
        have ka : ∀ o, (w3.alloc o).cell? ⟨gl, 0, none⟩ = some v := fun o => (World.cell?_alloc_some w3 _ o (by rw [k2]; rfl)).trans k2
        have m3 := World.new_ne w3 _ k3
        simp only []
        refine hK.out _ _ ?_ (fun hHeld => ?_)
        · first | exact ⟨by assumption, by assumption, by assumption⟩ | go_keep
        clear hK K
        try simp only [Act.put, List.getElem_toArray, List.getElem_cons_succ, List.getElem_cons_zero, List.setIfInBounds_toArray, List.set_cons_zero, List.set_cons_succ]
        refine wpAnyH_take (i := 10) (v := ?_) rfl (by kernel_rfl) (by kernel_rfl) (by kernel_rfl) (fun _ _ _ h => h) (Or.inl ⟨by rfl, ?_⟩) (by assumption) ?_
        rotate_left
        · (intro w hSw; (try dsimp only at hSw); go_simp; try with_reducible rfl)
        try simp only [Act.put, List.getElem_toArray, List.getElem_cons_succ, List.getElem_cons_zero, List.setIfInBounds_toArray, List.set_cons_zero, List.set_cons_succ]
        refine wpAnyH_ready (rs := [11]) (by kernel_rfl) (by simp) ?_
        refine AllReadyH.cons rfl (fun K hK => ?_) ?_
        · go_simp
          refine hK.out _ _ ?_ (fun hHeld => ?_)
          · first | exact ⟨by assumption, by assumption, by assumption⟩ | go_keep
          clear hK K
          try simp only [Act.put, List.getElem_toArray, List.getElem_cons_succ, List.getElem_cons_zero, List.setIfInBounds_toArray, List.set_cons_zero, List.set_cons_succ]
          refine wpAnyH_ready (rs := [12]) (by kernel_rfl) (by simp) ?_
          refine AllReadyH.cons rfl (fun K hK => ?_) ?_
          · refine step_ed_append rfl _ _ _ (by rfl) Try.underlying49 v (by rfl) l (R3.call ((Below.refl _ w3).alloc (Nat.le_refl _) _)) ⟨w3.heap.size, 0, none⟩ 1 (by rfl) ((i : Int), (p : Int) - (i : Int), A3, c3', xs) (by exact cells3_new _ _ _ _ _) hl ?_
            intro v4 w4 R4
            rw [show (l ++ [((i : Int), (p : Int) - (i : Int), A3, c3', xs)]).length = l.length + 1 from by simp] at R4
            obtain ⟨A4, c4, rfl, -, -, -⟩ := Frs.of_own R4.own (by rw [ecs_length]; simp; omega)
            have d0 := R4.sm.c1 ix0
            have d1 := R4.sm.c1 ix1
            have d2 := R4.sm.c1 ix2
            have d3 := R4.sm.c1 ix3
            have f2 := R4.sm.free ix2 0
            refine hK.out _ _ ?_ (fun hHeld => ?_)
            · first | exact ⟨by assumption, by assumption, by assumption⟩ | go_keep
            clear hK K
            try simp only [Act.put, List.getElem_toArray, List.getElem_cons_succ, List.getElem_cons_zero, List.setIfInBounds_toArray, List.set_cons_zero, List.set_cons_succ]
            refine wpAnyH_ready (rs := [13]) (by kernel_rfl) (by simp) ?_
            refine AllReadyH.cons rfl (fun K hK => ?_) ?_
            · go_simp
              refine hK.out _ _ ?_ (fun hHeld => ?_)
              · first | exact ⟨by assumption, by assumption, by assumption⟩ | go_keep
              clear hK K
              try simp only [Act.put, List.getElem_toArray, List.getElem_cons_succ, List.getElem_cons_zero, List.setIfInBounds_toArray, List.set_cons_zero, List.set_cons_succ]
              refine wpAnyH_done (by kernel_rfl) ?_ _
              have R5 := (R4.set ix2 0 (.slice A4 (l.length + 1) c4)).facts fun L' S => S.join (news_snoc l ((i : Int), (p : Int) - (i : Int), A3, c3', xs))
              obtain ⟨w5, hw5⟩ : ∃ w5, w4.setCell ⟨gl, 0, none⟩ (.slice A4 (l.length + 1) c4) = w5 := ⟨_, rfl⟩
              rw [hw5] at R5 ⊢
              have R6 := (R5.set (i := 1) ix1 0 (.int .i64 ((p : Int) + 1))).set (i := 0) ix0 0 (.int .i64 ((q : Int) + 1))
              have t0 := R5.sm.c1 ix0
              have t1 := R5.sm.c1 ix1
              have u0 := R5.sm.free ix0 0
              have u1 := R5.sm.free ix1 0
              clear c0 c1 c2 c3 k0 k1 k2 k3 ka m0 m1 m2 m3 d0 d1 d2 d3 f2 hw5 R4 R3
              go_wp2
              go_end0
              refine ⟨.slice A4 (l.length + 1) c4, l ++ [((i : Int), (p : Int) - (i : Int), A3, c3', xs)], rfl, ?_, ?_⟩
              · rw [eds_snoc, edStep, if_pos HP.out, ← HX.out, List.drop_take]
              · rw [List.length_append, List.length_singleton]
                exact R6
            exact AllReadyH.nil
          exact AllReadyH.nil
        exact AllReadyH.nil
      exact AllReadyH.nil
    refine AllReadyH.cons rfl (fun K hK => ?_) ?_
    · go_simp
      refine HCL.out.mono ?_
      rintro e w3 ⟨v3, rfl, hown, hb3⟩
      rw [← HL.out] at hown
      obtain ⟨A3, c3', rfl, -, -, hA3⟩ := Frs.own_ln hown (by rw [HL.out]; omega)
      clear hown
      have R3 := R.drew.made hb3 hA3
      clear hA3 hb3
      have k0 := R3.sm.c1 ix0
      have k1 := R3.sm.c1 ix1
      have k2 := R3.sm.c1 ix2
      have k3 := R3.sm.c1 ix3
      have m0 := World.new_ne w3 _ k0
      have m1 := World.new_ne w3 _ k1
      have m2 := World.new_ne w3 _ k2
      have ka : ∀ o, (w3.alloc o).cell? ⟨gl, 0, none⟩ = some v := fun o => (World.cell?_alloc_some w3 _ o (by rw [k2]; rfl)).trans k2
      have m3 := World.new_ne w3 _ k3
      simp only []
      refine hK.out _ _ ?_ (fun hHeld => ?_)
      · first | exact ⟨by assumption, by assumption, by assumption⟩ | go_keep
      clear hK K
      try simp only [Act.put, List.getElem_toArray, List.getElem_cons_succ, List.getElem_cons_zero, List.setIfInBounds_toArray, List.set_cons_zero, List.set_cons_succ]
      refine wpAnyH_take (i := 10) (v := ?_) rfl (by kernel_rfl) (by kernel_rfl) (by kernel_rfl) (fun _ _ _ h => h) (Or.inl ⟨by rfl, ?_⟩) (by assumption) ?_
      rotate_left
      · (intro w hSw; (try dsimp only at hSw); go_simp; try with_reducible rfl)
      try simp only [Act.put, List.getElem_toArray, List.getElem_cons_succ, List.getElem_cons_zero, List.setIfInBounds_toArray, List.set_cons_zero, List.set_cons_succ]
      refine wpAnyH_ready (rs := [0, 11]) (by kernel_rfl) (by simp) ?_
      refine AllReadyH.cons rfl (fun K hK => ?_) ?_
      · go_simp
        refine hK.out _ _ ?_ (fun hHeld => ?_)
        · first | exact ⟨by assumption, by assumption, by assumption⟩ | go_keep
        clear hK K
        try simp only [Act.put, List.getElem_toArray, List.getElem_cons_succ, List.getElem_cons_zero, List.setIfInBounds_toArray, List.set_cons_zero, List.set_cons_succ]
        refine wpAnyH_ready (rs := [11]) (by kernel_rfl) (by simp) ?_
        refine AllReadyH.cons rfl (fun K hK => ?_) ?_
        · go_simp
          refine hK.out _ _ ?_ (fun hHeld => ?_)
          · first | exact ⟨by assumption, by assumption, by assumption⟩ | go_keep
          clear hK K
          try simp only [Act.put, List.getElem_toArray, List.getElem_cons_succ, List.getElem_cons_zero, List.setIfInBounds_toArray, List.set_cons_zero, List.set_cons_succ]
          refine wpAnyH_ready (rs := [12]) (by kernel_rfl) (by simp) ?_
          refine AllReadyH.cons rfl (fun K hK => ?_) ?_
          · refine step_ed_append rfl _ _ _ (by rfl) Try.underlying49 v (by rfl) l (R3.call ((Below.refl _ w3).alloc (Nat.le_refl _) _)) ⟨w3.heap.size, 0, none⟩ 1 (by rfl) ((i : Int), (p : Int) - (i : Int), A3, c3', xs) (by exact cells3_new _ _ _ _ _) hl ?_
            intro v4 w4 R4
            rw [show (l ++ [((i : Int), (p : Int) - (i : Int), A3, c3', xs)]).length = l.length + 1 from by simp] at R4
            obtain ⟨A4, c4, rfl, -, -, -⟩ := Frs.of_own R4.own (by rw [ecs_length]; simp; omega)
            have d0 := R4.sm.c1 ix0
            have d1 := R4.sm.c1 ix1
            have d2 := R4.sm.c1 ix2
            have d3 := R4.sm.c1 ix3
            have f2 := R4.sm.free ix2 0
            refine hK.out _ _ ?_ (fun hHeld => ?_)
            · first | exact ⟨by assumption, by assumption, by assumption⟩ | go_keep
            clear hK K
            try simp only [Act.put, List.getElem_toArray, List.getElem_cons_succ, List.getElem_cons_zero, List.setIfInBounds_toArray, List.set_cons_zero, List.set_cons_succ]
            refine wpAnyH_ready (rs := [13]) (by kernel_rfl) (by simp) ?_
            refine AllReadyH.cons rfl (fun K hK => ?_) ?_
            · go_simp
              refine hK.out _ _ ?_ (fun hHeld => ?_)
              · first | exact ⟨by assumption, by assumption, by assumption⟩ | go_keep
              clear hK K
              try simp only [Act.put, List.getElem_toArray, List.getElem_cons_succ, List.getElem_cons_zero, List.setIfInBounds_toArray, List.set_cons_zero, List.set_cons_succ]
              refine wpAnyH_done (by kernel_rfl) ?_ _
              have R5 := (R4.set ix2 0 (.slice A4 (l.length + 1) c4)).facts fun L' S => S.join (news_snoc l ((i : Int), (p : Int) - (i : Int), A3, c3', xs))
              obtain ⟨w5, hw5⟩ : ∃ w5, w4.setCell ⟨gl, 0, none⟩ (.slice A4 (l.length + 1) c4) = w5 := ⟨_, rfl⟩
              rw [hw5] at R5 ⊢
              have R6 := (R5.set (i := 1) ix1 0 (.int .i64 ((p : Int) + 1))).set (i := 0) ix0 0 (.int .i64 ((q : Int) + 1))
              have t0 := R5.sm.c1 ix0
              have t1 := R5.sm.c1 ix1
              have u0 := R5.sm.free ix0 0
              have u1 := R5.sm.free ix1 0
              clear c0 c1 c2 c3 k0 k1 k2 k3 ka m0 m1 m2 m3 d0 d1 d2 d3 f2 hw5 R4 R3
              go_wp2
              go_end0
              refine ⟨.slice A4 (l.length + 1) c4, l ++ [((i : Int), (p : Int) - (i : Int), A3, c3', xs)], rfl, ?_, ?_⟩
              · rw [eds_snoc, edStep, if_pos HP.out, ← HX.out, List.drop_take]
              · rw [List.length_append, List.length_singleton]
                exact R6
            exact AllReadyH.nil
          exact AllReadyH.nil
        exact AllReadyH.nil
      refine AllReadyH.cons rfl (fun K hK => ?_) ?_
      · go_simp
        refine hK.out _ _ ?_ (fun hHeld => ?_)
        · first | exact ⟨by assumption, by assumption, by assumption⟩ | go_keep
        clear hK K
        try simp only [Act.put, List.getElem_toArray, List.getElem_cons_succ, List.getElem_cons_zero, List.setIfInBounds_toArray, List.set_cons_zero, List.set_cons_succ]
        refine wpAnyH_ready (rs := [0]) (by kernel_rfl) (by simp) ?_
        refine AllReadyH.cons rfl (fun K hK => ?_) ?_
        · go_simp
          refine hK.out _ _ ?_ (fun hHeld => ?_)
          · first | exact ⟨by assumption, by assumption, by assumption⟩ | go_keep
          clear hK K
          try simp only [Act.put, List.getElem_toArray, List.getElem_cons_succ, List.getElem_cons_zero, List.setIfInBounds_toArray, List.set_cons_zero, List.set_cons_succ]
          refine wpAnyH_ready (rs := [12]) (by kernel_rfl) (by simp) ?_
          refine AllReadyH.cons rfl (fun K hK => ?_) ?_
          · refine step_ed_append rfl _ _ _ (by rfl) Try.underlying49 v (by rfl) l (R3.call ((Below.refl _ w3).alloc (Nat.le_refl _) _)) ⟨w3.heap.size, 0, none⟩ 1 (by rfl) ((i : Int), (p : Int) - (i : Int), A3, c3', xs) (by exact cells3_new _ _ _ _ _) hl ?_
            intro v4 w4 R4
            rw [show (l ++ [((i : Int), (p : Int) - (i : Int), A3, c3', xs)]).length = l.length + 1 from by simp] at R4
            obtain ⟨A4, c4, rfl, -, -, -⟩ := Frs.of_own R4.own (by rw [ecs_length]; simp; omega)
            have d0 := R4.sm.c1 ix0
            have d1 := R4.sm.c1 ix1
            have d2 := R4.sm.c1 ix2
            have d3 := R4.sm.c1 ix3
            have f2 := R4.sm.free ix2 0
            refine hK.out _ _ ?_ (fun hHeld => ?_)
            · first | exact ⟨by assumption, by assumption, by assumption⟩ | go_keep
            clear hK K
            try simp only [Act.put, List.getElem_toArray, List.getElem_cons_succ, List.getElem_cons_zero, List.setIfInBounds_toArray, List.set_cons_zero, List.set_cons_succ]
            refine wpAnyH_ready (rs := [13]) (by kernel_rfl) (by simp) ?_
            refine AllReadyH.cons rfl (fun K hK => ?_) ?_
            · go_simp
              refine hK.out _ _ ?_ (fun hHeld => ?_)
              · first | exact ⟨by assumption, by assumption, by assumption⟩ | go_keep
              clear hK K
              try simp only [Act.put, List.getElem_toArray, List.getElem_cons_succ, List.getElem_cons_zero, List.setIfInBounds_toArray, List.set_cons_zero, List.set_cons_succ]
              refine wpAnyH_done (by kernel_rfl) ?_ _
              have R5 := (R4.set ix2 0 (.slice A4 (l.length + 1) c4)).facts fun L' S => S.join (news_snoc l ((i : Int), (p : Int) - (i : Int), A3, c3', xs))
              obtain ⟨w5, hw5⟩ : ∃ w5, w4.setCell ⟨gl, 0, none⟩ (.slice A4 (l.length + 1) c4) = w5 := ⟨_, rfl⟩
              rw [hw5] at R5 ⊢
              have R6 := (R5.set (i := 1) ix1 0 (.int .i64 ((p : Int) + 1))).set (i := 0) ix0 0 (.int .i64 ((q : Int) + 1))
              have t0 := R5.sm.c1 ix0
              have t1 := R5.sm.c1 ix1
              have u0 := R5.sm.free ix0 0
              have u1 := R5.sm.free ix1 0
              clear c0 c1 c2 c3 k0 k1 k2 k3 ka m0 m1 m2 m3 d0 d1 d2 d3 f2 hw5 R4 R3
              go_wp2
              go_end0
              refine ⟨.slice A4 (l.length + 1) c4, l ++ [((i : Int), (p : Int) - (i : Int), A3, c3', xs)], rfl, ?_, ?_⟩
              · rw [eds_snoc, edStep, if_pos HP.out, ← HX.out, List.drop_take]
              · rw [List.length_append, List.length_singleton]
                exact R6
            exact AllReadyH.nil
          exact AllReadyH.nil
        exact AllReadyH.nil
      exact AllReadyH.nil
    exact AllReadyH.nil
end
end Go.Proofs.Ytkggedmcdllnaaa
