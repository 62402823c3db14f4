/- quiltmakerref05.Of: the document's hunks. -/
import Derived.Test.YtkggedmcdllnaaaRefEdits
import Derived.Test.YtkggedmcdllnaaaHPl
namespace Go.Proofs.Ytkggedmcdllnaaa
open Go.RowKit

theorem news_from {le : List EdA} {l : List HkA} {e : HkA} {x : EdA} (h : ∀ e ∈ l, ∃ x ∈ le, e.2.2 = x.2.2) (hx : x ∈ le) (hex : e.2.2 = x.2.2) : ∀ e' ∈ l ++ [e], ∃ x ∈ le, e'.2.2 = x.2.2 := fun e' he => by
  rcases List.mem_append.1 he with he | he
  · exact h e' he
  · obtain rfl := List.mem_singleton.1 he
    exact ⟨x, hx, hex⟩
set_option linter.unusedSimpArgs false in
set_option maxRecDepth 100000 in
set_option maxHeartbeats 4000000 in
theorem rof_any (xs ys : List ByteArray) (A B : Option Addr) (c d : Nat) (w : World) (hA : SlS w.heap.size w A xs) (hB : SlS w.heap.size w B ys) (hn : xs.length ≤ 1000) (hm : ys.length ≤ 1000) (hc : xs.length ≤ c) (hc2 : c ≤ 9223372036854775807) (hd : ys.length ≤ d) (hd2 : d ≤ 9223372036854775807) :
    Calls Try.prog 19 #[.slice A xs.length c, .slice B ys.length d] w fun e w' => ∃ C k l, e = .returned (.slice C l.length k) ∧ hds l = hunks xs ys ∧ HkL C l w' ∧ Below w.heap.size w w' := by
  have S := ((Sm.start w).argL hA).argL hB
  clear hA hB
  go_enter Try.func19, Try.ntmps19
  go_wp2_with (go_at_call 32; refine (redits_any xs ys A B c d _ (S.ln (.tail _ (.head _))) (S.ln (.head _)) (by omega) (by omega) hd hd2).mono ?_; rintro e w2 ⟨C1, k1, le, rfl, he, -, -, hF, hb⟩; replace S := S.made hb hF; have hle : le.length ≤ xs.length + 1 := (by rw [← eds_length, he]; exact edits_length _ _); have HE := Kp.mk he; clear hF hb he)
  have R := (Rw.start S 24 3).facts (M' := [(w.heap.size, Olds []), (w.heap.size, EdL C1 le), (0, LnX B ys), (0, LnX A xs)]) fun _ S => S.put ⟨fun _ => False, fun _ _ _ _ _ => fun _ h => by simp at h, fun _ h => h.elim, fun _ h => by simp at h⟩
  clear S
  go_loopw [6, 7, 8] (fun vl vb vk wr => ∃ (n : Nat) (b : Int) (l : List HkA), vk = .int .i64 n ∧ n ≤ le.length ∧ vb = .int .i64 b ∧ -(100000 * (n : Int)) ≤ b ∧ b ≤ 100000 * (n : Int) ∧ l.length ≤ n ∧ Kp (hds l ++ hFrom xs b ((eds le).drop n) = hunks xs ys) ∧ Kp (∀ e ∈ l, ∃ x ∈ le, e.2.2 = x.2.2) ∧
      Rw w wr [] [(w.heap.size, Olds l), (w.heap.size, EdL C1 le), (0, LnX B ys), (0, LnX A xs)] 24 3 vl l.length (hcs l)) (fun _ _ vk _ => le.length - (intOf vk).toNat)
  case atStart => exact ⟨0, 0, [], rfl, Nat.zero_le _, rfl, by omega, by omega, Nat.le_refl _, ⟨by rw [HE.out]; rfl⟩, ⟨fun e he => by simp at he⟩, R⟩
  case round =>
    obtain ⟨n, b, l, rfl, h1, rfl, h2, h3, h4, HK, HP, R⟩ := hrel
    by_cases hlt : n < le.length
    · obtain ⟨g, o, rfl, hg, hcc⟩ := EdL.at_ (R.sm.get (.tail _ (.head _))) (by omega)
      obtain ⟨c0, c1, c2⟩ := hcc n hlt
      obtain ⟨f0, f1, f2, f3, f4⟩ := eds_get HE.out n hlt
      have hdr := drop_eds le n hlt
      have hmem : le[n] ∈ le := List.getElem_mem hlt
      obtain ⟨x, ex⟩ : ∃ x, le[n] = x := ⟨_, rfl⟩
      obtain ⟨x0, x1, xa, xc, us⟩ := x
      have EX := Kp.mk ex
      rw [ex] at c0 c1 c2 f0 f1 f2 f3 f4 hdr hmem
      simp only [] at c0 c1 c2 f0 f1 f2 f3 f4 hdr
      obtain ⟨p, rfl⟩ : ∃ p : Nat, x0 = p := ⟨x0.toNat, by omega⟩
      obtain ⟨m, rfl⟩ : ∃ m : Nat, x1 = m := ⟨x1.toNat, by omega⟩
      have b1 : (0 : Int) ≤ (n : Int) := by omega
      have b2 : (n : Int) < (le.length : Int) := by omega
      have HD := Kp.mk hdr
      have HM := Kp.mk hmem
      obtain ⟨S1, g1⟩ : ∃ S, (if c = p then A else A.map (fun x => x.add p)) = S := ⟨_, rfl⟩
      obtain ⟨zs, hzs⟩ : ∃ zs, (xs.take (p + m)).drop p = zs := ⟨_, rfl⟩
      have hlen : zs.length = m := by rw [← hzs, List.length_drop, List.length_take]; omega
      have hsl : ∀ W, LnX A xs W → SlS W.heap.size W S1 zs := fun W hW => by
        have h1 := ((hW.ln).take (k := p + m) (by omega)).cut (k := p) (c := c) (by rw [List.length_take]; omega) (by rw [List.length_take]; omega)
        rw [g1, hzs] at h1
        exact h1
      have HSL := Kp.mk hsl
      have HL := Kp.mk hlen
      have HZ := Kp.mk hzs
      have q1 : ((p : Int) + (m : Int)).toNat = p + m := by omega
      have b3 : (0 : Int) ≤ (p : Int) := by omega
      have b4 : (p : Int) ≤ (p : Int) + (m : Int) := by omega
      have b5 : (p : Int) + (m : Int) ≤ (c : Int) := by omega
      have v1 : IntKind.i64.wrap ((p : Int) + (m : Int)) = (p : Int) + (m : Int) := IntWalk.i64_in _ (by omega)
      have v2 : IntKind.i64.wrap ((p : Int) + b) = (p : Int) + b := IntWalk.i64_in _ (by omega)
      have v3 : IntKind.i64.wrap (b + (us.length : Int)) = b + (us.length : Int) := IntWalk.i64_in _ (by omega)
      have v4 : IntKind.i64.wrap (b + (us.length : Int) - (m : Int)) = b + (us.length : Int) - (m : Int) := IntWalk.i64_in _ (by omega)
      clear hcc ex hdr hmem hlen hzs hsl f0 f1 f2
      go_wp2
      have R2 := R.drew
      refine wp_region_held_drew (S := (fun w' => w'.cell? ⟨g, o + n * 3, none⟩ = some (.int .i64 p) ∧ w'.cell? ⟨g, o + n * 3 + 1, none⟩ = some (.int .i64 m) ∧ w'.cell? ⟨g, o + n * 3 + 2, none⟩ = some (.slice xa us.length xc))) (by kernel_rfl) ?_ (fun hHeld => ?_)
      · exact ⟨c0, c1, c2⟩
      refine wpAnyH_take (i := 0) (v := ?_) rfl (by kernel_rfl) (by kernel_rfl) (by kernel_rfl) (fun _ _ _ h => h) (Or.inl ⟨by rfl, ?_⟩) (by assumption) ?_
      rotate_left
      · (intro w hSw; (try dsimp only at hSw); go_simp; try with_reducible rfl)
      try simp only [Act.put, List.getElem_toArray, List.getElem_cons_succ, List.getElem_cons_zero, List.setIfInBounds_toArray, List.set_cons_zero, List.set_cons_succ]
      refine wpAnyH_take (i := 1) (v := ?_) rfl (by kernel_rfl) (by kernel_rfl) (by kernel_rfl) (fun _ _ _ h => h) (Or.inl ⟨by rfl, ?_⟩) (by assumption) ?_
      rotate_left
      · (intro w hSw; (try dsimp only at hSw); go_simp; try with_reducible rfl)
      try simp only [Act.put, List.getElem_toArray, List.getElem_cons_succ, List.getElem_cons_zero, List.setIfInBounds_toArray, List.set_cons_zero, List.set_cons_succ]
      refine wpAnyH_take (i := 2) (v := ?_) rfl (by kernel_rfl) (by kernel_rfl) (by kernel_rfl) (fun _ _ _ h => h) (Or.inl ⟨by rfl, ?_⟩) (by assumption) ?_
      rotate_left
      · (intro w hSw; (try dsimp only at hSw); go_simp; try with_reducible rfl)
      try simp only [Act.put, List.getElem_toArray, List.getElem_cons_succ, List.getElem_cons_zero, List.setIfInBounds_toArray, List.set_cons_zero, List.set_cons_succ]
      refine wpAnyH_take (i := 3) (v := ?_) rfl (by kernel_rfl) (by kernel_rfl) (by kernel_rfl) (fun _ _ _ h => h) (Or.inl ⟨by rfl, ?_⟩) (by assumption) ?_
      rotate_left
      · (intro w hSw; (try dsimp only at hSw); go_simp; try with_reducible rfl)
      try simp only [Act.put, List.getElem_toArray, List.getElem_cons_succ, List.getElem_cons_zero, List.setIfInBounds_toArray, List.set_cons_zero, List.set_cons_succ]
      refine wpAnyH_take (i := 4) (v := ?_) rfl (by kernel_rfl) (by kernel_rfl) (by kernel_rfl) (fun _ _ _ h => h) (Or.inl ⟨by rfl, ?_⟩) (by assumption) ?_
      rotate_left
      · (intro w hSw; (try dsimp only at hSw); go_simp; try with_reducible rfl)
      try simp only [Act.put, List.getElem_toArray, List.getElem_cons_succ, List.getElem_cons_zero, List.setIfInBounds_toArray, List.set_cons_zero, List.set_cons_succ]
      refine wpAnyH_take (i := 5) (v := ?_) rfl (by kernel_rfl) (by kernel_rfl) (by kernel_rfl) (fun _ _ _ h => h) (Or.inl ⟨by rfl, ?_⟩) (by assumption) ?_
      rotate_left
      · (intro w hSw; (try dsimp only at hSw); go_simp; try with_reducible rfl)
      try simp only [Act.put, List.getElem_toArray, List.getElem_cons_succ, List.getElem_cons_zero, List.setIfInBounds_toArray, List.set_cons_zero, List.set_cons_succ]
      refine wpAnyH_take (i := 6) (v := ?_) rfl (by kernel_rfl) (by kernel_rfl) (by kernel_rfl) (fun _ _ _ h => h) (Or.inl ⟨by rfl, ?_⟩) (by assumption) ?_
      rotate_left
      · (intro w hSw; (try dsimp only at hSw); go_simp; try with_reducible rfl)
      try simp only [Act.put, List.getElem_toArray, List.getElem_cons_succ, List.getElem_cons_zero, List.setIfInBounds_toArray, List.set_cons_zero, List.set_cons_succ]
      refine wpAnyH_take (i := 7) (v := ?_) rfl (by kernel_rfl) (by kernel_rfl) (by kernel_rfl) (fun _ _ _ h => h) (Or.inl ⟨by rfl, ?_⟩) (by assumption) ?_
      rotate_left
      · (intro w hSw; (try dsimp only at hSw); go_simp; try with_reducible rfl)
      try simp only [Act.put, List.getElem_toArray, List.getElem_cons_succ, List.getElem_cons_zero, List.setIfInBounds_toArray, List.set_cons_zero, List.set_cons_succ]
      refine wpAnyH_take (i := 8) (v := ?_) rfl (by kernel_rfl) (by kernel_rfl) (by kernel_rfl) (fun _ _ _ h => h) (Or.inl ⟨by rfl, ?_⟩) (by assumption) ?_
      rotate_left
      · (intro w hSw; (try dsimp only at hSw); go_simp; try with_reducible rfl)
      try simp only [Act.put, List.getElem_toArray, List.getElem_cons_succ, List.getElem_cons_zero, List.setIfInBounds_toArray, List.set_cons_zero, List.set_cons_succ]
      refine wpAnyH_take (i := 9) (v := ?_) rfl (by kernel_rfl) (by kernel_rfl) (by kernel_rfl) (fun _ _ _ h => h) (Or.inl ⟨by rfl, ?_⟩) (by assumption) ?_
      rotate_left
      · (intro w hSw; (try dsimp only at hSw); go_simp; try with_reducible rfl)
      try simp only [Act.put, List.getElem_toArray, List.getElem_cons_succ, List.getElem_cons_zero, List.setIfInBounds_toArray, List.set_cons_zero, List.set_cons_succ]
      refine wpAnyH_take (i := 10) (v := ?_) rfl (by kernel_rfl) (by kernel_rfl) (by kernel_rfl) (fun _ _ _ h => h) (Or.inl ⟨by rfl, ?_⟩) (by assumption) ?_
      rotate_left
      · (intro w hSw; (try dsimp only at hSw); go_simp; try with_reducible rfl)
      try simp only [Act.put, List.getElem_toArray, List.getElem_cons_succ, List.getElem_cons_zero, List.setIfInBounds_toArray, List.set_cons_zero, List.set_cons_succ]
      refine wpAnyH_take (i := 11) (v := ?_) rfl (by kernel_rfl) (by kernel_rfl) (by kernel_rfl) (fun _ _ _ h => h) (Or.inl ⟨by rfl, ?_⟩) (by assumption) ?_
      rotate_left
      · (intro w hSw; (try dsimp only at hSw); go_simp; try with_reducible rfl)
      try simp only [Act.put, List.getElem_toArray, List.getElem_cons_succ, List.getElem_cons_zero, List.setIfInBounds_toArray, List.set_cons_zero, List.set_cons_succ]
      refine wpAnyH_take (i := 12) (v := ?_) rfl (by kernel_rfl) (by kernel_rfl) (by kernel_rfl) (fun _ _ _ h => h) (Or.inl ⟨by rfl, ?_⟩) (by assumption) ?_
      rotate_left
      · (intro w hSw; (try dsimp only at hSw); go_simp; try with_reducible rfl)
      try simp only [Act.put, List.getElem_toArray, List.getElem_cons_succ, List.getElem_cons_zero, List.setIfInBounds_toArray, List.set_cons_zero, List.set_cons_succ]
      refine wpAnyH_take (i := 13) (v := ?_) rfl (by kernel_rfl) (by kernel_rfl) (by kernel_rfl) (fun _ _ _ h => h) (Or.inl ⟨by rfl, ?_⟩) (by assumption) ?_
      rotate_left
      · (intro w hSw; (try dsimp only at hSw); go_simp; try with_reducible rfl)
      try simp only [Act.put, List.getElem_toArray, List.getElem_cons_succ, List.getElem_cons_zero, List.setIfInBounds_toArray, List.set_cons_zero, List.set_cons_succ]
      refine wpAnyH_take (i := 14) (v := ?_) rfl (by kernel_rfl) (by kernel_rfl) (by kernel_rfl) (fun _ _ _ h => h) (Or.inl ⟨by rfl, ?_⟩) (by assumption) ?_
      rotate_left
      · (intro w hSw; (try dsimp only at hSw); go_simp; try with_reducible rfl)
      try simp only [Act.put, List.getElem_toArray, List.getElem_cons_succ, List.getElem_cons_zero, List.setIfInBounds_toArray, List.set_cons_zero, List.set_cons_succ]
      refine wpAnyH_take (i := 15) (v := ?_) rfl (by kernel_rfl) (by kernel_rfl) (by kernel_rfl) (fun _ _ _ h => h) (Or.inl ⟨by rfl, ?_⟩) (by assumption) ?_
      rotate_left
      · (intro w hSw; (try dsimp only at hSw); go_simp; try with_reducible rfl)
      try simp only [Act.put, List.getElem_toArray, List.getElem_cons_succ, List.getElem_cons_zero, List.setIfInBounds_toArray, List.set_cons_zero, List.set_cons_succ]
      refine wpAnyH_take (i := 16) (v := ?_) rfl (by kernel_rfl) (by kernel_rfl) (by kernel_rfl) (fun _ _ _ h => h) (Or.inl ⟨by rfl, ?_⟩) (by assumption) ?_
      rotate_left
      · (intro w hSw; (try dsimp only at hSw); go_simp; try with_reducible rfl)
      try simp only [Act.put, List.getElem_toArray, List.getElem_cons_succ, List.getElem_cons_zero, List.setIfInBounds_toArray, List.set_cons_zero, List.set_cons_succ]
      refine wpAnyH_take (i := 17) (v := ?_) rfl (by kernel_rfl) (by kernel_rfl) (by kernel_rfl) (fun _ _ _ h => h) (Or.inl ⟨by rfl, ?_⟩) (by assumption) ?_
      rotate_left
      · (intro w hSw; (try dsimp only at hSw); go_simp; try with_reducible rfl)
      try simp only [Act.put, List.getElem_toArray, List.getElem_cons_succ, List.getElem_cons_zero, List.setIfInBounds_toArray, List.set_cons_zero, List.set_cons_succ]
      refine wpAnyH_ready (rs := [18]) (by kernel_rfl) (by simp) ?_
      refine AllReadyH.cons rfl (fun K hK => ?_) ?_
      · refine step_strs_nil rfl _ _ _ (by rfl) Try.underlying22 (by rfl) R2 S1 _ (c - p) zs (by rfl) HL.out.symm (HSL.out _ (R2.sm.get (.tail _ (.tail _ (.tail _ (.head _)))))) (by rw [HL.out]; omega) ?_
        intro A3 c3 w3 R3
        obtain ⟨k0, k1, k2⟩ := EdL.cells (R3.sm.get (.tail _ (.tail _ (.head _)))) EX.out
        clear c0 c1 c2
        refine hK.out _ _ ?_ (fun hHeld => ?_)
        · first | exact ⟨by assumption, by assumption, by assumption⟩ | exact ⟨(World.cell?_alloc_some _ _ _ (by rw [k0]; rfl)).trans k0, (World.cell?_alloc_some _ _ _ (by rw [k1]; rfl)).trans k1, (World.cell?_alloc_some _ _ _ (by rw [k2]; rfl)).trans k2⟩ | go_keep
        clear hK K
        try simp only [Act.put, List.getElem_toArray, List.getElem_cons_succ, List.getElem_cons_zero, List.setIfInBounds_toArray, List.set_cons_zero, List.set_cons_succ]
        refine wpAnyH_take (i := 19) (v := ?_) rfl (by kernel_rfl) (by kernel_rfl) (by kernel_rfl) (fun _ _ _ h => h) (Or.inl ⟨by rfl, ?_⟩) (by assumption) ?_
        rotate_left
        · (intro w hSw; (try dsimp only at hSw); go_simp; try with_reducible rfl)
        try simp only [Act.put, List.getElem_toArray, List.getElem_cons_succ, List.getElem_cons_zero, List.setIfInBounds_toArray, List.set_cons_zero, List.set_cons_succ]
        refine wpAnyH_done (by kernel_rfl) ?_ _
        go_wp2
        have R4 := R3
        refine wp_region_held_drew (S := (fun w' => w'.cell? ⟨g, o + n * 3, none⟩ = some (.int .i64 p) ∧ w'.cell? ⟨g, o + n * 3 + 1, none⟩ = some (.int .i64 m) ∧ w'.cell? ⟨g, o + n * 3 + 2, none⟩ = some (.slice xa us.length xc))) (by kernel_rfl) ?_ (fun hHeld => ?_)
        · exact ⟨k0, k1, k2⟩
        refine wpAnyH_take (i := 0) (v := ?_) rfl (by kernel_rfl) (by kernel_rfl) (by kernel_rfl) (fun _ _ _ h => h) (Or.inl ⟨by rfl, ?_⟩) (by assumption) ?_
        rotate_left
        · (intro w hSw; (try dsimp only at hSw); go_simp; try with_reducible rfl)
        try simp only [Act.put, List.getElem_toArray, List.getElem_cons_succ, List.getElem_cons_zero, List.setIfInBounds_toArray, List.set_cons_zero, List.set_cons_succ]
        refine wpAnyH_take (i := 1) (v := ?_) rfl (by kernel_rfl) (by kernel_rfl) (by kernel_rfl) (fun _ _ _ h => h) (Or.inl ⟨by rfl, ?_⟩) (by assumption) ?_
        rotate_left
        · (intro w hSw; (try dsimp only at hSw); go_simp; try with_reducible rfl)
        try simp only [Act.put, List.getElem_toArray, List.getElem_cons_succ, List.getElem_cons_zero, List.setIfInBounds_toArray, List.set_cons_zero, List.set_cons_succ]
        refine wpAnyH_take (i := 2) (v := ?_) rfl (by kernel_rfl) (by kernel_rfl) (by kernel_rfl) (fun _ _ _ h => h) (Or.inl ⟨by rfl, ?_⟩) (by assumption) ?_
        rotate_left
        · (intro w hSw; (try dsimp only at hSw); go_simp; try with_reducible rfl)
        try simp only [Act.put, List.getElem_toArray, List.getElem_cons_succ, List.getElem_cons_zero, List.setIfInBounds_toArray, List.set_cons_zero, List.set_cons_succ]
        refine wpAnyH_take (i := 3) (v := ?_) rfl (by kernel_rfl) (by kernel_rfl) (by kernel_rfl) (fun _ _ _ h => h) (Or.inl ⟨by rfl, ?_⟩) (by assumption) ?_
        rotate_left
        · (intro w hSw; (try dsimp only at hSw); go_simp; try with_reducible rfl)
        try simp only [Act.put, List.getElem_toArray, List.getElem_cons_succ, List.getElem_cons_zero, List.setIfInBounds_toArray, List.set_cons_zero, List.set_cons_succ]
        refine wpAnyH_take (i := 4) (v := ?_) rfl (by kernel_rfl) (by kernel_rfl) (by kernel_rfl) (fun _ _ _ h => h) (Or.inl ⟨by rfl, ?_⟩) (by assumption) ?_
        rotate_left
        · (intro w hSw; (try dsimp only at hSw); go_simp; try with_reducible rfl)
        try simp only [Act.put, List.getElem_toArray, List.getElem_cons_succ, List.getElem_cons_zero, List.setIfInBounds_toArray, List.set_cons_zero, List.set_cons_succ]
        refine wpAnyH_take (i := 5) (v := ?_) rfl (by kernel_rfl) (by kernel_rfl) (by kernel_rfl) (fun _ _ _ h => h) (Or.inl ⟨by rfl, ?_⟩) (by assumption) ?_
        rotate_left
        · (intro w hSw; (try dsimp only at hSw); go_simp; try with_reducible rfl)
        try simp only [Act.put, List.getElem_toArray, List.getElem_cons_succ, List.getElem_cons_zero, List.setIfInBounds_toArray, List.set_cons_zero, List.set_cons_succ]
        refine wpAnyH_take (i := 6) (v := ?_) rfl (by kernel_rfl) (by kernel_rfl) (by kernel_rfl) (fun _ _ _ h => h) (Or.inl ⟨by rfl, ?_⟩) (by assumption) ?_
        rotate_left
        · (intro w hSw; (try dsimp only at hSw); go_simp; try with_reducible rfl)
        try simp only [Act.put, List.getElem_toArray, List.getElem_cons_succ, List.getElem_cons_zero, List.setIfInBounds_toArray, List.set_cons_zero, List.set_cons_succ]
        refine wpAnyH_take (i := 7) (v := ?_) rfl (by kernel_rfl) (by kernel_rfl) (by kernel_rfl) (fun _ _ _ h => h) (Or.inl ⟨by rfl, ?_⟩) (by assumption) ?_
        rotate_left
        · (intro w hSw; (try dsimp only at hSw); go_simp; try with_reducible rfl)
        try simp only [Act.put, List.getElem_toArray, List.getElem_cons_succ, List.getElem_cons_zero, List.setIfInBounds_toArray, List.set_cons_zero, List.set_cons_succ]
        refine wpAnyH_take (i := 8) (v := ?_) rfl (by kernel_rfl) (by kernel_rfl) (by kernel_rfl) (fun _ _ _ h => h) (Or.inl ⟨by rfl, ?_⟩) (by assumption) ?_
        rotate_left
        · (intro w hSw; (try dsimp only at hSw); go_simp; try with_reducible rfl)
        try simp only [Act.put, List.getElem_toArray, List.getElem_cons_succ, List.getElem_cons_zero, List.setIfInBounds_toArray, List.set_cons_zero, List.set_cons_succ]
        refine wpAnyH_take (i := 9) (v := ?_) rfl (by kernel_rfl) (by kernel_rfl) (by kernel_rfl) (fun _ _ _ h => h) (Or.inl ⟨by rfl, ?_⟩) (by assumption) ?_
        rotate_left
        · (intro w hSw; (try dsimp only at hSw); go_simp; try with_reducible rfl)
        try simp only [Act.put, List.getElem_toArray, List.getElem_cons_succ, List.getElem_cons_zero, List.setIfInBounds_toArray, List.set_cons_zero, List.set_cons_succ]
        refine wpAnyH_take (i := 10) (v := ?_) rfl (by kernel_rfl) (by kernel_rfl) (by kernel_rfl) (fun _ _ _ h => h) (Or.inl ⟨by rfl, ?_⟩) (by assumption) ?_
        rotate_left
        · (intro w hSw; (try dsimp only at hSw); go_simp; try with_reducible rfl)
        try simp only [Act.put, List.getElem_toArray, List.getElem_cons_succ, List.getElem_cons_zero, List.setIfInBounds_toArray, List.set_cons_zero, List.set_cons_succ]
        refine wpAnyH_take (i := 11) (v := ?_) rfl (by kernel_rfl) (by kernel_rfl) (by kernel_rfl) (fun _ _ _ h => h) (Or.inl ⟨by rfl, ?_⟩) (by assumption) ?_
        rotate_left
        · (intro w hSw; (try dsimp only at hSw); go_simp; try with_reducible rfl)
        try simp only [Act.put, List.getElem_toArray, List.getElem_cons_succ, List.getElem_cons_zero, List.setIfInBounds_toArray, List.set_cons_zero, List.set_cons_succ]
        refine wpAnyH_take (i := 12) (v := ?_) rfl (by kernel_rfl) (by kernel_rfl) (by kernel_rfl) (fun _ _ _ h => h) (Or.inl ⟨by rfl, ?_⟩) (by assumption) ?_
        rotate_left
        · (intro w hSw; (try dsimp only at hSw); go_simp; try with_reducible rfl)
        try simp only [Act.put, List.getElem_toArray, List.getElem_cons_succ, List.getElem_cons_zero, List.setIfInBounds_toArray, List.set_cons_zero, List.set_cons_succ]
        refine wpAnyH_take (i := 13) (v := ?_) rfl (by kernel_rfl) (by kernel_rfl) (by kernel_rfl) (fun _ _ _ h => h) (Or.inl ⟨by rfl, ?_⟩) (by assumption) ?_
        rotate_left
        · (intro w hSw; (try dsimp only at hSw); go_simp; try with_reducible rfl)
        try simp only [Act.put, List.getElem_toArray, List.getElem_cons_succ, List.getElem_cons_zero, List.setIfInBounds_toArray, List.set_cons_zero, List.set_cons_succ]
        refine wpAnyH_take (i := 14) (v := ?_) rfl (by kernel_rfl) (by kernel_rfl) (by kernel_rfl) (fun _ _ _ h => h) (Or.inl ⟨by rfl, ?_⟩) (by assumption) ?_
        rotate_left
        · (intro w hSw; (try dsimp only at hSw); go_simp; try with_reducible rfl)
        try simp only [Act.put, List.getElem_toArray, List.getElem_cons_succ, List.getElem_cons_zero, List.setIfInBounds_toArray, List.set_cons_zero, List.set_cons_succ]
        refine wpAnyH_ready (rs := [15]) (by kernel_rfl) (by simp) ?_
        refine AllReadyH.cons rfl (fun K hK => ?_) ?_
        · go_simp
          refine hK.out _ _ ?_ (fun hHeld => ?_)
          · first | exact ⟨by assumption, by assumption, by assumption⟩ | exact ⟨(World.cell?_alloc_some _ _ _ (by rw [k0]; rfl)).trans k0, (World.cell?_alloc_some _ _ _ (by rw [k1]; rfl)).trans k1, (World.cell?_alloc_some _ _ _ (by rw [k2]; rfl)).trans k2⟩ | go_keep
          clear hK K
          try simp only [Act.put, List.getElem_toArray, List.getElem_cons_succ, List.getElem_cons_zero, List.setIfInBounds_toArray, List.set_cons_zero, List.set_cons_succ]
          refine wpAnyH_ready (rs := [16]) (by kernel_rfl) (by simp) ?_
          refine AllReadyH.cons rfl (fun K hK => ?_) ?_
          · refine step_plain rfl (wp_hk_append _ _ _ (by rfl) Try.underlying36 _ (by rfl) l (R4.call ((Below.refl _ _).alloc (Nat.le_refl _) _)).drew ⟨w3.heap.size, 0, none⟩ 1 (by rfl) ((p : Int) + b, (A3, c3, zs), (xa, xc, us)) (by rw [HL.out]; exact cells3_new _ _ _ _ _) (by omega) ?_)
            intro v5 w5 R5
            obtain ⟨d0, d1, d2⟩ := EdL.cells (R5.sm.get (.tail _ (.tail _ (.head _)))) EX.out
            clear k0 k1 k2
            refine hK.out _ _ ?_ (fun hHeld => ?_)
            · first | exact ⟨by assumption, by assumption, by assumption⟩ | exact ⟨(World.cell?_alloc_some _ _ _ (by rw [k0]; rfl)).trans k0, (World.cell?_alloc_some _ _ _ (by rw [k1]; rfl)).trans k1, (World.cell?_alloc_some _ _ _ (by rw [k2]; rfl)).trans k2⟩ | go_keep
            clear hK K
            try simp only [Act.put, List.getElem_toArray, List.getElem_cons_succ, List.getElem_cons_zero, List.setIfInBounds_toArray, List.set_cons_zero, List.set_cons_succ]
            refine wpAnyH_take (i := 17) (v := ?_) rfl (by kernel_rfl) (by kernel_rfl) (by kernel_rfl) (fun _ _ _ h => h) (Or.inl ⟨by rfl, ?_⟩) (by assumption) ?_
            rotate_left
            · (intro w hSw; (try dsimp only at hSw); go_simp; try with_reducible rfl)
            try simp only [Act.put, List.getElem_toArray, List.getElem_cons_succ, List.getElem_cons_zero, List.setIfInBounds_toArray, List.set_cons_zero, List.set_cons_succ]
            refine wpAnyH_done (by kernel_rfl) ?_ _
            have R6 := R5.facts (M' := [(w.heap.size, Olds (l ++ [((p : Int) + b, (A3, c3, zs), (xa, xc, us))])), (w.heap.size, EdL (some ⟨g, o, none⟩) le), (0, LnX B ys), (0, LnX A xs)]) (fun _ S => S.join (fun w => olds_snoc l ((p : Int) + b, (A3, c3, zs), (xa, xc, us)) w))
            go_wp2
            go_region
            go_wp2
            go_roundw
            case rel => exact ⟨n + 1, b + ((us.length : Int) - (m : Int)), _, by go_num, by omega, by rw [show b + (us.length : Int) - (m : Int) = b + ((us.length : Int) - (m : Int)) from by omega], by omega, by omega, by rw [List.length_append]; simp; omega, ⟨by rw [← HK.out, HD.out, hds_snoc, List.append_assoc]; simp only [hFrom, List.singleton_append]; rw [q1, Int.toNat_natCast, HZ.out]⟩, ⟨news_from HP.out HM.out rfl⟩, R6.drew⟩
            case measure => simp [intOf]; omega
          exact AllReadyH.nil
        exact AllReadyH.nil
      exact AllReadyH.nil
    · obtain rfl : n = le.length := by omega
      have hk := HK.out
      rw [List.drop_eq_nil_of_le (by rw [eds_length]; omega)] at hk
      simp only [hFrom, List.append_nil] at hk
      have HB := Kp.mk hk
      obtain ⟨C5, k5, rfl, q1, q2, hF⟩ := Frs.of_own R.own (by rw [hcs_length]; omega)
      have HF := Kp.mk hF
      clear hk hF
      go_wp2
      go_ret
      exact ⟨C5, k5, l, rfl, HB.out, ⟨HF.out.now, R.sm.get (.head _), fun e he => by
        obtain ⟨x, hx, ex⟩ := HP.out e he
        rw [ex]
        exact (R.sm.get (.tail _ (.head _))).2 x hx⟩, R.sm.below⟩
end Go.Proofs.Ytkggedmcdllnaaa
