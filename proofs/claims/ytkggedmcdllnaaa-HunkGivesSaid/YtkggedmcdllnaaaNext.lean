/- (*hunk.walk).next: an edit as a hunk. -/
import Derived.Test.YtkggedmcdllnaaaHk
import Derived.Test.YtkggedmcdllnaaaHkSt
import Derived.Test.YtkggedmcdllnaaaHl
namespace Go.Proofs.Ytkggedmcdllnaaa
open Go.RowKit

theorem Sm.all {w0 w : World} {L : List Bl} {M : List Mf} (S : Sm w0 w L M) : ∀ P ∈ M, P.2 w := fun P hP => by obtain ⟨_, _, _, k⟩ := S.mem P hP; exact k
section
variable {w0 w w' : World} {L : List Bl} {M : List Mf} {ops : Array Oper} {rest : List Oper} {o : Oper} {a : Act} {Q : Exit → Act → World → Prop}
theorem wpList_sh_load (hgd : o.guard = none) (x : Operand) (ho : o.op = .load 24 x) (g : Nat) (hx : a.eval x = .pointer (some ⟨g, 0, none⟩)) (S : Sm w0 w L M) (i : Nat) (T : TypeId) (v0 v1 v2 : Value) (hi : L[i]? = some (g, T, #[v0, v1, v2]))
    (h : wpList Try.prog ops Q rest (a.put o.dst (.agg #[v0, v1, v2])) w) : wpList Try.prog ops Q (o :: rest) a w :=
  wpList_sm_load hgd _ x ho g hx S i T _ hi _ Try.underlying24 rfl Try.hk_size h
theorem wpList_sh_store (hgd : o.guard = none) (x y : Operand) (ho : o.op = .store 24 x y) (g : Nat) (hx : a.eval x = .pointer (some ⟨g, 0, none⟩)) (v0 v1 v2 : Value) (hy : a.eval y = .agg #[v0, v1, v2]) (S : Sm w0 w L M) (i : Nat) (T : TypeId) (u0 u1 u2 : Value) (hi : L[i]? = some (g, T, #[u0, u1, u2]))
    (h0 : v0.oneCell' = true) (h1 : v1.oneCell' = true) (h2 : v2.oneCell' = true)
    (h : ∀ w', Sm w0 w' (L.set i (g, T, #[v0, v1, v2])) M → wpList Try.prog ops Q rest (a.put o.dst undef) w') : wpList Try.prog ops Q (o :: rest) a w :=
  wpList_sm_store hgd _ x y ho g hx S i T _ #[v0, v1, v2] hi (by rw [hy]; rfl) Try.hk_size rfl (by simp [h0, h1, h2]) h
end
set_option linter.unusedSimpArgs false in
set_option maxRecDepth 100000 in
set_option maxHeartbeats 4000000 in
theorem next_any (w0 w : World) (gw : Nat) (A : Option Addr) (xs : List ByteArray) (c : Nat) (b : Int) (L' : List Bl) (M : List Mf)
    (S : Sm w0 w ((gw, 48, #[.slice A xs.length c, .int .i64 b]) :: L') M) (lo : Nat) (hA0 : (lo, LnX A xs) ∈ M) (p m : Nat) (xa : Option Addr) (xc : Nat) (us : List ByteArray)
    (hU : ∀ W, (∀ P ∈ M, P.2 W) → LnX xa us W) (h1 : p + m ≤ xs.length) (h2 : xs.length ≤ c) (h3 : c ≤ 9223372036854775807) (h4 : xs.length ≤ 100000) (h5 : us.length ≤ 100000) (h6 : -1000000000000 ≤ b) (h7 : b ≤ 1000000000000) :
    Calls Try.prog 30 #[.pointer (some ⟨gw, 0, none⟩), .agg #[.int .i64 p, .int .i64 m, .slice xa us.length xc]] w fun e w' => ∃ A1 c1 A2 c2, e = .returned (.agg #[.int .i64 ((p : Int) + b), .slice A1 m c1, .slice A2 us.length c2]) ∧
      Sm w0 w' ((gw, 48, #[.slice A xs.length c, .int .i64 (b + ((us.length : Int) - (m : Int)))]) :: L') ((w0.heap.size, LnX A2 us) :: (w0.heap.size, LnX A1 ((xs.take (p + m)).drop p)) :: M) := by
  obtain ⟨S1, g1⟩ : ∃ S, (if c = p then A else A.map (fun x => x.add p)) = S := ⟨_, rfl⟩
  obtain ⟨zs, hzs⟩ : ∃ zs, (xs.take (p + m)).drop p = zs := ⟨_, rfl⟩
  have hlen : zs.length = m := by rw [← hzs, List.length_drop, List.length_take]; omega
  have hsl : ∀ W, LnX A xs W → SlS W.heap.size W S1 zs := fun W hW => by
    have h1 := ((hW.ln).take h1).cut (k := p) (c := c) (by rw [List.length_take]; omega) (by rw [List.length_take]; omega)
    rw [g1, hzs] at h1
    exact h1
  have HSL := Kp.mk hsl
  have HL := Kp.mk hlen
  have HU := Kp.mk hU
  have hsi : (Try.prog.info? 3).map (·.size) = some 1 := by kernel_rfl
  have HSI := Kp.mk hsi
  rw [hzs]
  have q1 : ((p : Int) + (m : Int)).toNat = p + m := by omega
  have b3 : (0 : Int) ≤ (p : Int) := by omega
  have b4 : (p : Int) ≤ (p : Int) + (m : Int) := by omega
  have b5 : (p : Int) + (m : Int) ≤ (c : Int) := by omega
  have v1 : IntKind.i64.wrap ((p : Int) + (m : Int)) = (p : Int) + (m : Int) := IntWalk.i64_in _ (by omega)
  have v2 : IntKind.i64.wrap ((p : Int) + b) = (p : Int) + b := IntWalk.i64_in _ (by omega)
  have v3 : IntKind.i64.wrap ((us.length : Int) - (m : Int)) = (us.length : Int) - (m : Int) := IntWalk.i64_in _ (by omega)
  have v4 : IntKind.i64.wrap (b + ((us.length : Int) - (m : Int))) = b + ((us.length : Int) - (m : Int)) := IntWalk.i64_in _ (by omega)
  clear hzs hlen hsl hU hsi
  go_enter Try.func30, Try.ntmps30
  go_wp2_with (first
    | (with_reducible show wpList _ _ _ ({ dst := _, op := .box _ _, type := _, pos := _, after := _, guard := none } :: _) _ _; refine wpList_sm_box rfl _ _ rfl #[.int .i64 p, .int .i64 m, .slice xa us.length xc] rfl S ?_; clear S; intro gx w1 S)
    | (with_reducible show wpList _ _ _ ({ dst := _, op := .alloc _, type := _, pos := _, after := _, guard := none } :: _) _ _; refine wpList_sm_alloc rfl _ rfl _ Try.hk_zero #[.int .i64 0, .slice none 0 0, .slice none 0 0] rfl S ?_; clear S; intro gr w2 S))
  have c0 : w2.cell? ⟨gx, 0, none⟩ = some (.int .i64 p) := S.cell ix1 0
  have c1 : w2.cell? ⟨gx, 1, none⟩ = some (.int .i64 m) := S.cell ix1 1
  have c2 : w2.cell? ⟨gx, 2, none⟩ = some (.slice xa us.length xc) := S.cell ix1 2
  have k0 : w2.cell? ⟨gw, 0, none⟩ = some (.slice A xs.length c) := S.cell ix2 0
  have k1 : w2.cell? ⟨gw, 1, none⟩ = some (.int .i64 b) := S.cell ix2 1
  replace S := S.drew
  refine wp_region_held_drew (S := (fun w' => w'.cell? ⟨gx, 0, none⟩ = some (.int .i64 p) ∧ w'.cell? ⟨gx, 1, none⟩ = some (.int .i64 m) ∧ w'.cell? ⟨gx, 2, none⟩ = some (.slice xa us.length xc) ∧ w'.cell? ⟨gw, 0, none⟩ = some (.slice A xs.length c) ∧ w'.cell? ⟨gw, 1, none⟩ = some (.int .i64 b))) (by kernel_rfl) ?_ (fun hHeld => ?_)
  · exact ⟨c0, c1, c2, k0, k1⟩
  refine wpAnyH_take (i := 0) (v := ?_) rfl (by kernel_rfl) (by kernel_rfl) (by kernel_rfl) (fun _ _ _ h => h) (Or.inl ⟨by rfl, ?_⟩) (by assumption) ?_
  rotate_left
  · (intro w hSw; (try dsimp only at hSw); go_simp; try with_reducible rfl)
  try simp only [Act.put, List.getElem_toArray, List.getElem_cons_succ, List.getElem_cons_zero, List.setIfInBounds_toArray, List.set_cons_zero, List.set_cons_succ]
  refine wpAnyH_take (i := 1) (v := ?_) rfl (by kernel_rfl) (by kernel_rfl) (by kernel_rfl) (fun _ _ _ h => h) (Or.inl ⟨by rfl, ?_⟩) (by assumption) ?_
  rotate_left
  · (intro w hSw; (try dsimp only at hSw); go_simp; try with_reducible rfl)
  try simp only [Act.put, List.getElem_toArray, List.getElem_cons_succ, List.getElem_cons_zero, List.setIfInBounds_toArray, List.set_cons_zero, List.set_cons_succ]
  refine wpAnyH_take (i := 2) (v := ?_) rfl (by kernel_rfl) (by kernel_rfl) (by kernel_rfl) (fun _ _ _ h => h) (Or.inl ⟨by rfl, ?_⟩) (by assumption) ?_
  rotate_left
  · (intro w hSw; (try dsimp only at hSw); go_simp; try with_reducible rfl)
  try simp only [Act.put, List.getElem_toArray, List.getElem_cons_succ, List.getElem_cons_zero, List.setIfInBounds_toArray, List.set_cons_zero, List.set_cons_succ]
  refine wpAnyH_take (i := 3) (v := ?_) rfl (by kernel_rfl) (by kernel_rfl) (by kernel_rfl) (fun _ _ _ h => h) (Or.inl ⟨by rfl, ?_⟩) (by assumption) ?_
  rotate_left
  · (intro w hSw; (try dsimp only at hSw); go_simp; try with_reducible rfl)
  try simp only [Act.put, List.getElem_toArray, List.getElem_cons_succ, List.getElem_cons_zero, List.setIfInBounds_toArray, List.set_cons_zero, List.set_cons_succ]
  refine wpAnyH_take (i := 4) (v := ?_) rfl (by kernel_rfl) (by kernel_rfl) (by kernel_rfl) (fun _ _ _ h => h) (Or.inl ⟨by rfl, ?_⟩) (by assumption) ?_
  rotate_left
  · (intro w hSw; (try dsimp only at hSw); go_simp; try with_reducible rfl)
  try simp only [Act.put, List.getElem_toArray, List.getElem_cons_succ, List.getElem_cons_zero, List.setIfInBounds_toArray, List.set_cons_zero, List.set_cons_succ]
  refine wpAnyH_take (i := 5) (v := ?_) rfl (by kernel_rfl) (by kernel_rfl) (by kernel_rfl) (fun _ _ _ h => h) (Or.inl ⟨by rfl, ?_⟩) (by assumption) ?_
  rotate_left
  · (intro w hSw; (try dsimp only at hSw); go_simp; try with_reducible rfl)
  try simp only [Act.put, List.getElem_toArray, List.getElem_cons_succ, List.getElem_cons_zero, List.setIfInBounds_toArray, List.set_cons_zero, List.set_cons_succ]
  refine wpAnyH_take (i := 6) (v := ?_) rfl (by kernel_rfl) (by kernel_rfl) (by kernel_rfl) (fun _ _ _ h => h) (Or.inl ⟨by rfl, ?_⟩) (by assumption) ?_
  rotate_left
  · (intro w hSw; (try dsimp only at hSw); go_simp; try with_reducible rfl)
  try simp only [Act.put, List.getElem_toArray, List.getElem_cons_succ, List.getElem_cons_zero, List.setIfInBounds_toArray, List.set_cons_zero, List.set_cons_succ]
  refine wpAnyH_take (i := 7) (v := ?_) rfl (by kernel_rfl) (by kernel_rfl) (by kernel_rfl) (fun _ _ _ h => h) (Or.inl ⟨by rfl, ?_⟩) (by assumption) ?_
  rotate_left
  · (intro w hSw; (try dsimp only at hSw); go_simp; try with_reducible rfl)
  try simp only [Act.put, List.getElem_toArray, List.getElem_cons_succ, List.getElem_cons_zero, List.setIfInBounds_toArray, List.set_cons_zero, List.set_cons_succ]
  refine wpAnyH_take (i := 8) (v := ?_) rfl (by kernel_rfl) (by kernel_rfl) (by kernel_rfl) (fun _ _ _ h => h) (Or.inl ⟨by rfl, ?_⟩) (by assumption) ?_
  rotate_left
  · (intro w hSw; (try dsimp only at hSw); go_simp; try with_reducible rfl)
  try simp only [Act.put, List.getElem_toArray, List.getElem_cons_succ, List.getElem_cons_zero, List.setIfInBounds_toArray, List.set_cons_zero, List.set_cons_succ]
  refine wpAnyH_take (i := 9) (v := ?_) rfl (by kernel_rfl) (by kernel_rfl) (by kernel_rfl) (fun _ _ _ h => h) (Or.inl ⟨by rfl, ?_⟩) (by assumption) ?_
  rotate_left
  · (intro w hSw; (try dsimp only at hSw); go_simp; try with_reducible rfl)
  try simp only [Act.put, List.getElem_toArray, List.getElem_cons_succ, List.getElem_cons_zero, List.setIfInBounds_toArray, List.set_cons_zero, List.set_cons_succ]
  refine wpAnyH_take (i := 10) (v := ?_) rfl (by kernel_rfl) (by kernel_rfl) (by kernel_rfl) (fun _ _ _ h => h) (Or.inl ⟨by rfl, ?_⟩) (by assumption) ?_
  rotate_left
  · (intro w hSw; (try dsimp only at hSw); go_simp; try with_reducible rfl)
  try simp only [Act.put, List.getElem_toArray, List.getElem_cons_succ, List.getElem_cons_zero, List.setIfInBounds_toArray, List.set_cons_zero, List.set_cons_succ]
  refine wpAnyH_take (i := 11) (v := ?_) rfl (by kernel_rfl) (by kernel_rfl) (by kernel_rfl) (fun _ _ _ h => h) (Or.inl ⟨by rfl, ?_⟩) (by assumption) ?_
  rotate_left
  · (intro w hSw; (try dsimp only at hSw); go_simp; try with_reducible rfl)
  try simp only [Act.put, List.getElem_toArray, List.getElem_cons_succ, List.getElem_cons_zero, List.setIfInBounds_toArray, List.set_cons_zero, List.set_cons_succ]
  refine wpAnyH_take (i := 12) (v := ?_) rfl (by kernel_rfl) (by kernel_rfl) (by kernel_rfl) (fun _ _ _ h => h) (Or.inl ⟨by rfl, ?_⟩) (by assumption) ?_
  rotate_left
  · (intro w hSw; (try dsimp only at hSw); go_simp; try with_reducible rfl)
  try simp only [Act.put, List.getElem_toArray, List.getElem_cons_succ, List.getElem_cons_zero, List.setIfInBounds_toArray, List.set_cons_zero, List.set_cons_succ]
  refine wpAnyH_take (i := 13) (v := ?_) rfl (by kernel_rfl) (by kernel_rfl) (by kernel_rfl) (fun _ _ _ h => h) (Or.inl ⟨by rfl, ?_⟩) (by assumption) ?_
  rotate_left
  · (intro w hSw; (try dsimp only at hSw); go_simp; try with_reducible rfl)
  try simp only [Act.put, List.getElem_toArray, List.getElem_cons_succ, List.getElem_cons_zero, List.setIfInBounds_toArray, List.set_cons_zero, List.set_cons_succ]
  refine wpAnyH_take (i := 14) (v := ?_) rfl (by kernel_rfl) (by kernel_rfl) (by kernel_rfl) (fun _ _ _ h => h) (Or.inl ⟨by rfl, ?_⟩) (by assumption) ?_
  rotate_left
  · (intro w hSw; (try dsimp only at hSw); go_simp; try with_reducible rfl)
  try simp only [Act.put, List.getElem_toArray, List.getElem_cons_succ, List.getElem_cons_zero, List.setIfInBounds_toArray, List.set_cons_zero, List.set_cons_succ]
  refine wpAnyH_take (i := 15) (v := ?_) rfl (by kernel_rfl) (by kernel_rfl) (by kernel_rfl) (fun _ _ _ h => h) (Or.inl ⟨by rfl, ?_⟩) (by assumption) ?_
  rotate_left
  · (intro w hSw; (try dsimp only at hSw); go_simp; try with_reducible rfl)
  try simp only [Act.put, List.getElem_toArray, List.getElem_cons_succ, List.getElem_cons_zero, List.setIfInBounds_toArray, List.set_cons_zero, List.set_cons_succ]
  refine wpAnyH_take (i := 16) (v := ?_) rfl (by kernel_rfl) (by kernel_rfl) (by kernel_rfl) (fun _ _ _ h => h) (Or.inl ⟨by rfl, ?_⟩) (by assumption) ?_
  rotate_left
  · (intro w hSw; (try dsimp only at hSw); go_simp; try with_reducible rfl)
  try simp only [Act.put, List.getElem_toArray, List.getElem_cons_succ, List.getElem_cons_zero, List.setIfInBounds_toArray, List.set_cons_zero, List.set_cons_succ]
  refine wpAnyH_take (i := 17) (v := ?_) rfl (by kernel_rfl) (by kernel_rfl) (by kernel_rfl) (fun _ _ _ h => h) (Or.inl ⟨by rfl, ?_⟩) (by assumption) ?_
  rotate_left
  · (intro w hSw; (try dsimp only at hSw); go_simp; try with_reducible rfl)
  try simp only [Act.put, List.getElem_toArray, List.getElem_cons_succ, List.getElem_cons_zero, List.setIfInBounds_toArray, List.set_cons_zero, List.set_cons_succ]
  refine wpAnyH_take (i := 18) (v := ?_) rfl (by kernel_rfl) (by kernel_rfl) (by kernel_rfl) (fun _ _ _ h => h) (Or.inl ⟨by rfl, ?_⟩) (by assumption) ?_
  rotate_left
  · (intro w hSw; (try dsimp only at hSw); go_simp; try with_reducible rfl)
  try simp only [Act.put, List.getElem_toArray, List.getElem_cons_succ, List.getElem_cons_zero, List.setIfInBounds_toArray, List.set_cons_zero, List.set_cons_succ]
  refine wpAnyH_take (i := 20) (v := ?_) rfl (by kernel_rfl) (by kernel_rfl) (by kernel_rfl) (fun _ _ _ h => h) (Or.inl ⟨by rfl, ?_⟩) (by assumption) ?_
  rotate_left
  · (intro w hSw; (try dsimp only at hSw); go_simp; try with_reducible rfl)
  try simp only [Act.put, List.getElem_toArray, List.getElem_cons_succ, List.getElem_cons_zero, List.setIfInBounds_toArray, List.set_cons_zero, List.set_cons_succ]
  refine wpAnyH_take (i := 21) (v := ?_) rfl (by kernel_rfl) (by kernel_rfl) (by kernel_rfl) (fun _ _ _ h => h) (Or.inl ⟨by rfl, ?_⟩) (by assumption) ?_
  rotate_left
  · (intro w hSw; (try dsimp only at hSw); go_simp; try with_reducible rfl)
  try simp only [Act.put, List.getElem_toArray, List.getElem_cons_succ, List.getElem_cons_zero, List.setIfInBounds_toArray, List.set_cons_zero, List.set_cons_succ]
  refine wpAnyH_ready (rs := [19, 24]) (by kernel_rfl) (by simp) ?_
  refine AllReadyH.cons rfl (fun K hK => ?_) ?_
  · go_simp
    refine (cloneS_at zs S1 _ _ _ HL.out.symm (HSL.out _ (S.get hA0)) (by rw [HL.out]; omega)).mono ?_
    rintro e wA ⟨A1, c1', rfl, -, -, hF, hb⟩
    replace S := S.made hb hF
    clear hF hb
    replace c0 : wA.cell? ⟨gx, 0, none⟩ = some (.int .i64 p) := by first | exact S.cell ix1 0 | exact S.cell ix2 0
    replace c1 : wA.cell? ⟨gx, 1, none⟩ = some (.int .i64 m) := by first | exact S.cell ix1 1 | exact S.cell ix2 1
    replace c2 : wA.cell? ⟨gx, 2, none⟩ = some (.slice xa us.length xc) := by first | exact S.cell ix1 2 | exact S.cell ix2 2
    replace k0 : wA.cell? ⟨gw, 0, none⟩ = some (.slice A xs.length c) := by first | exact S.cell ix2 0 | exact S.cell ix3 0
    replace k1 : wA.cell? ⟨gw, 1, none⟩ = some (.int .i64 b) := by first | exact S.cell ix2 1 | exact S.cell ix3 1
    try simp only []
    refine hK.out _ _ ?_ (fun hHeld => ?_)
    · exact ⟨c0, c1, c2, k0, k1⟩
    clear hK K
    try simp only [Act.put, List.getElem_toArray, List.getElem_cons_succ, List.getElem_cons_zero, List.setIfInBounds_toArray, List.set_cons_zero, List.set_cons_succ]
    refine wpAnyH_ready (rs := [22, 24]) (by kernel_rfl) (by simp) ?_
    refine AllReadyH.cons rfl (fun K hK => ?_) ?_
    · go_simp
      refine (cloneS_at us xa _ _ _ rfl (HU.out _ (fun P hP => S.all _ (.tail _ hP))).ln h5).mono ?_
      rintro e wB ⟨A2, c2', rfl, -, -, hF, hb⟩
      replace S := S.made hb hF
      clear hF hb
      replace c0 : wB.cell? ⟨gx, 0, none⟩ = some (.int .i64 p) := by first | exact S.cell ix1 0 | exact S.cell ix2 0
      replace c1 : wB.cell? ⟨gx, 1, none⟩ = some (.int .i64 m) := by first | exact S.cell ix1 1 | exact S.cell ix2 1
      replace c2 : wB.cell? ⟨gx, 2, none⟩ = some (.slice xa us.length xc) := by first | exact S.cell ix1 2 | exact S.cell ix2 2
      replace k0 : wB.cell? ⟨gw, 0, none⟩ = some (.slice A xs.length c) := by first | exact S.cell ix2 0 | exact S.cell ix3 0
      replace k1 : wB.cell? ⟨gw, 1, none⟩ = some (.int .i64 b) := by first | exact S.cell ix2 1 | exact S.cell ix3 1
      try simp only []
      refine hK.out _ _ ?_ (fun hHeld => ?_)
      · exact ⟨c0, c1, c2, k0, k1⟩
      clear hK K
      try simp only [Act.put, List.getElem_toArray, List.getElem_cons_succ, List.getElem_cons_zero, List.setIfInBounds_toArray, List.set_cons_zero, List.set_cons_succ]
      refine wpAnyH_take (i := 23) (v := ?_) rfl (by kernel_rfl) (by kernel_rfl) (by kernel_rfl) (fun _ _ _ h => h) (Or.inl ⟨by rfl, ?_⟩) (by assumption) ?_
      rotate_left
      · (intro w hSw; (try dsimp only at hSw); go_simp; try with_reducible rfl)
      try simp only [Act.put, List.getElem_toArray, List.getElem_cons_succ, List.getElem_cons_zero, List.setIfInBounds_toArray, List.set_cons_zero, List.set_cons_succ]
      refine wpAnyH_ready (rs := [24]) (by kernel_rfl) (by simp) ?_
      refine AllReadyH.cons rfl (fun K hK => ?_) ?_
      · refine step_plain rfl (wp_sm_alloc 24 (by rfl) _ Try.hk_zero #[.int .i64 0, .slice none 0 0, .slice none 0 0] rfl S ?_)
        clear S
        intro gh wC S
        replace c0 : wC.cell? ⟨gx, 0, none⟩ = some (.int .i64 p) := by first | exact S.cell ix1 0 | exact S.cell ix2 0
        replace c1 : wC.cell? ⟨gx, 1, none⟩ = some (.int .i64 m) := by first | exact S.cell ix1 1 | exact S.cell ix2 1
        replace c2 : wC.cell? ⟨gx, 2, none⟩ = some (.slice xa us.length xc) := by first | exact S.cell ix1 2 | exact S.cell ix2 2
        replace k0 : wC.cell? ⟨gw, 0, none⟩ = some (.slice A xs.length c) := by first | exact S.cell ix2 0 | exact S.cell ix3 0
        replace k1 : wC.cell? ⟨gw, 1, none⟩ = some (.int .i64 b) := by first | exact S.cell ix2 1 | exact S.cell ix3 1
        refine hK.out _ _ ?_ (fun hHeld => ?_)
        · exact ⟨c0, c1, c2, k0, k1⟩
        clear hK K
        try simp only [Act.put, List.getElem_toArray, List.getElem_cons_succ, List.getElem_cons_zero, List.setIfInBounds_toArray, List.set_cons_zero, List.set_cons_succ]
        refine wpAnyH_ready (rs := [25]) (by kernel_rfl) (by simp) ?_
        refine AllReadyH.cons rfl (fun K hK => ?_) ?_
        · refine step_plain rfl (wp_sm_store 24 _ _ (by rfl) gh (by rfl) S 0 _ _ #[.int .i64 ((p : Int) + b), .slice A1 m c1', .slice A2 us.length c2'] ix0 (by rfl) Try.hk_size rfl (hk_one _ _ _ _ _ _ _) ?_)
          clear S
          intro wD S
          simp only [List.set_cons_zero] at S
          replace c0 : wD.cell? ⟨gx, 0, none⟩ = some (.int .i64 p) := by first | exact S.cell ix1 0 | exact S.cell ix2 0
          replace c1 : wD.cell? ⟨gx, 1, none⟩ = some (.int .i64 m) := by first | exact S.cell ix1 1 | exact S.cell ix2 1
          replace c2 : wD.cell? ⟨gx, 2, none⟩ = some (.slice xa us.length xc) := by first | exact S.cell ix1 2 | exact S.cell ix2 2
          replace k0 : wD.cell? ⟨gw, 0, none⟩ = some (.slice A xs.length c) := by first | exact S.cell ix2 0 | exact S.cell ix3 0
          replace k1 : wD.cell? ⟨gw, 1, none⟩ = some (.int .i64 b) := by first | exact S.cell ix2 1 | exact S.cell ix3 1
          refine hK.out _ _ ?_ (fun hHeld => ?_)
          · exact ⟨c0, c1, c2, k0, k1⟩
          clear hK K
          try simp only [Act.put, List.getElem_toArray, List.getElem_cons_succ, List.getElem_cons_zero, List.setIfInBounds_toArray, List.set_cons_zero, List.set_cons_succ]
          refine wpAnyH_done (by kernel_rfl) ?_ _
          have f1 := S.free ix3 1
          go_wp2
          go_region
          have S5 := (S.set ix3 1 (.int .i64 (b + ((us.length : Int) - (m : Int))))).drew
          simp only [List.set_cons_zero, List.set_cons_succ, List.setIfInBounds_toArray] at S5
          clear c0 c1 c2 k0 k1 f1 S
          go_wp2_with (first
            | (with_reducible show wpList _ _ _ ({ dst := _, op := .load 24 _, type := _, pos := _, after := _, guard := none } :: _) _ _; refine wpList_sh_load rfl _ rfl _ rfl S5 _ _ _ _ _ ix0 ?_)
            | (with_reducible show wpList _ _ _ ({ dst := _, op := .store 24 _ _, type := _, pos := _, after := _, guard := none } :: _) _ _; refine wpList_sh_store rfl _ _ rfl _ rfl _ _ _ rfl S5 _ _ _ _ _ ix1 rfl rfl rfl ?_; clear S5; intro w9 S6; simp only [List.set_cons_zero, List.set_cons_succ] at S6))
          refine bodyPost_ret (results_h1 rfl _ _ gr _ _ _ rfl (HkAt.of_blk (S6.at_ ix1))) rfl ?_
          exact ⟨A1, c1', A2, c2', rfl, S6.drop 3⟩
        exact AllReadyH.nil
      exact AllReadyH.nil
    refine AllReadyH.cons rfl (fun K hK => ?_) ?_
    · refine step_plain rfl (wp_sm_alloc 24 (by rfl) _ Try.hk_zero #[.int .i64 0, .slice none 0 0, .slice none 0 0] rfl S ?_)
      clear S
      intro gh wC S
      replace c0 : wC.cell? ⟨gx, 0, none⟩ = some (.int .i64 p) := by first | exact S.cell ix1 0 | exact S.cell ix2 0
      replace c1 : wC.cell? ⟨gx, 1, none⟩ = some (.int .i64 m) := by first | exact S.cell ix1 1 | exact S.cell ix2 1
      replace c2 : wC.cell? ⟨gx, 2, none⟩ = some (.slice xa us.length xc) := by first | exact S.cell ix1 2 | exact S.cell ix2 2
      replace k0 : wC.cell? ⟨gw, 0, none⟩ = some (.slice A xs.length c) := by first | exact S.cell ix2 0 | exact S.cell ix3 0
      replace k1 : wC.cell? ⟨gw, 1, none⟩ = some (.int .i64 b) := by first | exact S.cell ix2 1 | exact S.cell ix3 1
      refine hK.out _ _ ?_ (fun hHeld => ?_)
      · exact ⟨c0, c1, c2, k0, k1⟩
      clear hK K
      try simp only [Act.put, List.getElem_toArray, List.getElem_cons_succ, List.getElem_cons_zero, List.setIfInBounds_toArray, List.set_cons_zero, List.set_cons_succ]
      refine wpAnyH_ready (rs := [22]) (by kernel_rfl) (by simp) ?_
      refine AllReadyH.cons rfl (fun K hK => ?_) ?_
      · go_simp
        refine (cloneS_at us xa _ _ _ rfl (HU.out _ (fun P hP => S.all _ (.tail _ hP))).ln h5).mono ?_
        rintro e wB ⟨A2, c2', rfl, -, -, hF, hb⟩
        replace S := S.made hb hF
        clear hF hb
        replace c0 : wB.cell? ⟨gx, 0, none⟩ = some (.int .i64 p) := by first | exact S.cell ix1 0 | exact S.cell ix2 0
        replace c1 : wB.cell? ⟨gx, 1, none⟩ = some (.int .i64 m) := by first | exact S.cell ix1 1 | exact S.cell ix2 1
        replace c2 : wB.cell? ⟨gx, 2, none⟩ = some (.slice xa us.length xc) := by first | exact S.cell ix1 2 | exact S.cell ix2 2
        replace k0 : wB.cell? ⟨gw, 0, none⟩ = some (.slice A xs.length c) := by first | exact S.cell ix2 0 | exact S.cell ix3 0
        replace k1 : wB.cell? ⟨gw, 1, none⟩ = some (.int .i64 b) := by first | exact S.cell ix2 1 | exact S.cell ix3 1
        try simp only []
        refine hK.out _ _ ?_ (fun hHeld => ?_)
        · exact ⟨c0, c1, c2, k0, k1⟩
        clear hK K
        try simp only [Act.put, List.getElem_toArray, List.getElem_cons_succ, List.getElem_cons_zero, List.setIfInBounds_toArray, List.set_cons_zero, List.set_cons_succ]
        refine wpAnyH_take (i := 23) (v := ?_) rfl (by kernel_rfl) (by kernel_rfl) (by kernel_rfl) (fun _ _ _ h => h) (Or.inl ⟨by rfl, ?_⟩) (by assumption) ?_
        rotate_left
        · (intro w hSw; (try dsimp only at hSw); go_simp; try with_reducible rfl)
        try simp only [Act.put, List.getElem_toArray, List.getElem_cons_succ, List.getElem_cons_zero, List.setIfInBounds_toArray, List.set_cons_zero, List.set_cons_succ]
        refine wpAnyH_ready (rs := [25]) (by kernel_rfl) (by simp) ?_
        refine AllReadyH.cons rfl (fun K hK => ?_) ?_
        · refine step_plain rfl (wp_sm_store 24 _ _ (by rfl) gh (by rfl) S 0 _ _ #[.int .i64 ((p : Int) + b), .slice A1 m c1', .slice A2 us.length c2'] ix0 (by rfl) Try.hk_size rfl (hk_one _ _ _ _ _ _ _) ?_)
          clear S
          intro wD S
          simp only [List.set_cons_zero] at S
          replace c0 : wD.cell? ⟨gx, 0, none⟩ = some (.int .i64 p) := by first | exact S.cell ix1 0 | exact S.cell ix2 0
          replace c1 : wD.cell? ⟨gx, 1, none⟩ = some (.int .i64 m) := by first | exact S.cell ix1 1 | exact S.cell ix2 1
          replace c2 : wD.cell? ⟨gx, 2, none⟩ = some (.slice xa us.length xc) := by first | exact S.cell ix1 2 | exact S.cell ix2 2
          replace k0 : wD.cell? ⟨gw, 0, none⟩ = some (.slice A xs.length c) := by first | exact S.cell ix2 0 | exact S.cell ix3 0
          replace k1 : wD.cell? ⟨gw, 1, none⟩ = some (.int .i64 b) := by first | exact S.cell ix2 1 | exact S.cell ix3 1
          refine hK.out _ _ ?_ (fun hHeld => ?_)
          · exact ⟨c0, c1, c2, k0, k1⟩
          clear hK K
          try simp only [Act.put, List.getElem_toArray, List.getElem_cons_succ, List.getElem_cons_zero, List.setIfInBounds_toArray, List.set_cons_zero, List.set_cons_succ]
          refine wpAnyH_done (by kernel_rfl) ?_ _
          have f1 := S.free ix3 1
          go_wp2
          go_region
          have S5 := (S.set ix3 1 (.int .i64 (b + ((us.length : Int) - (m : Int))))).drew
          simp only [List.set_cons_zero, List.set_cons_succ, List.setIfInBounds_toArray] at S5
          clear c0 c1 c2 k0 k1 f1 S
          go_wp2_with (first
            | (with_reducible show wpList _ _ _ ({ dst := _, op := .load 24 _, type := _, pos := _, after := _, guard := none } :: _) _ _; refine wpList_sh_load rfl _ rfl _ rfl S5 _ _ _ _ _ ix0 ?_)
            | (with_reducible show wpList _ _ _ ({ dst := _, op := .store 24 _ _, type := _, pos := _, after := _, guard := none } :: _) _ _; refine wpList_sh_store rfl _ _ rfl _ rfl _ _ _ rfl S5 _ _ _ _ _ ix1 rfl rfl rfl ?_; clear S5; intro w9 S6; simp only [List.set_cons_zero, List.set_cons_succ] at S6))
          refine bodyPost_ret (results_h1 rfl _ _ gr _ _ _ rfl (HkAt.of_blk (S6.at_ ix1))) rfl ?_
          exact ⟨A1, c1', A2, c2', rfl, S6.drop 3⟩
        exact AllReadyH.nil
      exact AllReadyH.nil
    exact AllReadyH.nil
  refine AllReadyH.cons rfl (fun K hK => ?_) ?_
  · refine step_plain rfl (wp_sm_alloc 24 (by rfl) _ Try.hk_zero #[.int .i64 0, .slice none 0 0, .slice none 0 0] rfl S ?_)
    clear S
    intro gh wC S
    replace c0 : wC.cell? ⟨gx, 0, none⟩ = some (.int .i64 p) := by first | exact S.cell ix1 0 | exact S.cell ix2 0
    replace c1 : wC.cell? ⟨gx, 1, none⟩ = some (.int .i64 m) := by first | exact S.cell ix1 1 | exact S.cell ix2 1
    replace c2 : wC.cell? ⟨gx, 2, none⟩ = some (.slice xa us.length xc) := by first | exact S.cell ix1 2 | exact S.cell ix2 2
    replace k0 : wC.cell? ⟨gw, 0, none⟩ = some (.slice A xs.length c) := by first | exact S.cell ix2 0 | exact S.cell ix3 0
    replace k1 : wC.cell? ⟨gw, 1, none⟩ = some (.int .i64 b) := by first | exact S.cell ix2 1 | exact S.cell ix3 1
    refine hK.out _ _ ?_ (fun hHeld => ?_)
    · exact ⟨c0, c1, c2, k0, k1⟩
    clear hK K
    try simp only [Act.put, List.getElem_toArray, List.getElem_cons_succ, List.getElem_cons_zero, List.setIfInBounds_toArray, List.set_cons_zero, List.set_cons_succ]
    refine wpAnyH_ready (rs := [19]) (by kernel_rfl) (by simp) ?_
    refine AllReadyH.cons rfl (fun K hK => ?_) ?_
    · go_simp
      refine (cloneS_at zs S1 _ _ _ HL.out.symm (HSL.out _ (S.get hA0)) (by rw [HL.out]; omega)).mono ?_
      rintro e wA ⟨A1, c1', rfl, -, -, hF, hb⟩
      replace S := S.made hb hF
      clear hF hb
      replace c0 : wA.cell? ⟨gx, 0, none⟩ = some (.int .i64 p) := by first | exact S.cell ix1 0 | exact S.cell ix2 0
      replace c1 : wA.cell? ⟨gx, 1, none⟩ = some (.int .i64 m) := by first | exact S.cell ix1 1 | exact S.cell ix2 1
      replace c2 : wA.cell? ⟨gx, 2, none⟩ = some (.slice xa us.length xc) := by first | exact S.cell ix1 2 | exact S.cell ix2 2
      replace k0 : wA.cell? ⟨gw, 0, none⟩ = some (.slice A xs.length c) := by first | exact S.cell ix2 0 | exact S.cell ix3 0
      replace k1 : wA.cell? ⟨gw, 1, none⟩ = some (.int .i64 b) := by first | exact S.cell ix2 1 | exact S.cell ix3 1
      try simp only []
      refine hK.out _ _ ?_ (fun hHeld => ?_)
      · exact ⟨c0, c1, c2, k0, k1⟩
      clear hK K
      try simp only [Act.put, List.getElem_toArray, List.getElem_cons_succ, List.getElem_cons_zero, List.setIfInBounds_toArray, List.set_cons_zero, List.set_cons_succ]
      refine wpAnyH_ready (rs := [22]) (by kernel_rfl) (by simp) ?_
      refine AllReadyH.cons rfl (fun K hK => ?_) ?_
      · go_simp
        refine (cloneS_at us xa _ _ _ rfl (HU.out _ (fun P hP => S.all _ (.tail _ hP))).ln h5).mono ?_
        rintro e wB ⟨A2, c2', rfl, -, -, hF, hb⟩
        replace S := S.made hb hF
        clear hF hb
        replace c0 : wB.cell? ⟨gx, 0, none⟩ = some (.int .i64 p) := by first | exact S.cell ix1 0 | exact S.cell ix2 0
        replace c1 : wB.cell? ⟨gx, 1, none⟩ = some (.int .i64 m) := by first | exact S.cell ix1 1 | exact S.cell ix2 1
        replace c2 : wB.cell? ⟨gx, 2, none⟩ = some (.slice xa us.length xc) := by first | exact S.cell ix1 2 | exact S.cell ix2 2
        replace k0 : wB.cell? ⟨gw, 0, none⟩ = some (.slice A xs.length c) := by first | exact S.cell ix2 0 | exact S.cell ix3 0
        replace k1 : wB.cell? ⟨gw, 1, none⟩ = some (.int .i64 b) := by first | exact S.cell ix2 1 | exact S.cell ix3 1
        try simp only []
        refine hK.out _ _ ?_ (fun hHeld => ?_)
        · exact ⟨c0, c1, c2, k0, k1⟩
        clear hK K
        try simp only [Act.put, List.getElem_toArray, List.getElem_cons_succ, List.getElem_cons_zero, List.setIfInBounds_toArray, List.set_cons_zero, List.set_cons_succ]
        refine wpAnyH_take (i := 23) (v := ?_) rfl (by kernel_rfl) (by kernel_rfl) (by kernel_rfl) (fun _ _ _ h => h) (Or.inl ⟨by rfl, ?_⟩) (by assumption) ?_
        rotate_left
        · (intro w hSw; (try dsimp only at hSw); go_simp; try with_reducible rfl)
        try simp only [Act.put, List.getElem_toArray, List.getElem_cons_succ, List.getElem_cons_zero, List.setIfInBounds_toArray, List.set_cons_zero, List.set_cons_succ]
        refine wpAnyH_ready (rs := [25]) (by kernel_rfl) (by simp) ?_
        refine AllReadyH.cons rfl (fun K hK => ?_) ?_
        · refine step_plain rfl (wp_sm_store 24 _ _ (by rfl) gh (by rfl) S 0 _ _ #[.int .i64 ((p : Int) + b), .slice A1 m c1', .slice A2 us.length c2'] ix0 (by rfl) Try.hk_size rfl (hk_one _ _ _ _ _ _ _) ?_)
          clear S
          intro wD S
          simp only [List.set_cons_zero] at S
          replace c0 : wD.cell? ⟨gx, 0, none⟩ = some (.int .i64 p) := by first | exact S.cell ix1 0 | exact S.cell ix2 0
          replace c1 : wD.cell? ⟨gx, 1, none⟩ = some (.int .i64 m) := by first | exact S.cell ix1 1 | exact S.cell ix2 1
          replace c2 : wD.cell? ⟨gx, 2, none⟩ = some (.slice xa us.length xc) := by first | exact S.cell ix1 2 | exact S.cell ix2 2
          replace k0 : wD.cell? ⟨gw, 0, none⟩ = some (.slice A xs.length c) := by first | exact S.cell ix2 0 | exact S.cell ix3 0
          replace k1 : wD.cell? ⟨gw, 1, none⟩ = some (.int .i64 b) := by first | exact S.cell ix2 1 | exact S.cell ix3 1
          refine hK.out _ _ ?_ (fun hHeld => ?_)
          · exact ⟨c0, c1, c2, k0, k1⟩
          clear hK K
          try simp only [Act.put, List.getElem_toArray, List.getElem_cons_succ, List.getElem_cons_zero, List.setIfInBounds_toArray, List.set_cons_zero, List.set_cons_succ]
          refine wpAnyH_done (by kernel_rfl) ?_ _
          have f1 := S.free ix3 1
          go_wp2
          go_region
          have S5 := (S.set ix3 1 (.int .i64 (b + ((us.length : Int) - (m : Int))))).drew
          simp only [List.set_cons_zero, List.set_cons_succ, List.setIfInBounds_toArray] at S5
          clear c0 c1 c2 k0 k1 f1 S
          go_wp2_with (first
            | (with_reducible show wpList _ _ _ ({ dst := _, op := .load 24 _, type := _, pos := _, after := _, guard := none } :: _) _ _; refine wpList_sh_load rfl _ rfl _ rfl S5 _ _ _ _ _ ix0 ?_)
            | (with_reducible show wpList _ _ _ ({ dst := _, op := .store 24 _ _, type := _, pos := _, after := _, guard := none } :: _) _ _; refine wpList_sh_store rfl _ _ rfl _ rfl _ _ _ rfl S5 _ _ _ _ _ ix1 rfl rfl rfl ?_; clear S5; intro w9 S6; simp only [List.set_cons_zero, List.set_cons_succ] at S6))
          refine bodyPost_ret (results_h1 rfl _ _ gr _ _ _ rfl (HkAt.of_blk (S6.at_ ix1))) rfl ?_
          exact ⟨A1, c1', A2, c2', rfl, S6.drop 3⟩
        exact AllReadyH.nil
      exact AllReadyH.nil
    exact AllReadyH.nil
  exact AllReadyH.nil
end Go.Proofs.Ytkggedmcdllnaaa
