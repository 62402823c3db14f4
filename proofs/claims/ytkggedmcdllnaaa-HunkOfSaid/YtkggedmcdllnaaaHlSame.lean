/- quiltmakerref05.List: are two lists of hunks the same. -/
import Derived.Test.YtkggedmcdllnaaaHPl
import Derived.Test.YtkggedmcdllnaaaHkC
namespace Go.Proofs.Ytkggedmcdllnaaa
open Go.RowKit

theorem Sm.argP {w0 : World} {M : List Mf} {P : World → Prop} (h : Sm w0 w0 [] M) (hP : Frs 0 P w0) : Sm w0 w0 [] ((0, P) :: M) := h.and hP (fun _ _ h => by simp at h)
/-- What rests on blocks that there are. -/
theorem HkL.frs {C : Option Addr} {l : List HkA} {w : World} (h : HkL C l w) : Frs 0 (HkL C l) w := by
  have key : ∀ {A : Option Addr} {n : Nat} {f : Nat → Value}, SlX A n f w → ∀ w1 w2 : World, (∀ d, d < w.heap.size → w2.heap[d]? = w1.heap[d]?) → w1.heap.size ≤ w2.heap.size → SlX A n f w1 → SlX A n f w2 := fun h0 w1 w2 hd hs h1 => by
    refine dep_sl _ _ _ w1 w2 (fun d hd' => hd d ?_) hs h1
    obtain ⟨hn, ad, rfl, rfl⟩ := hd'
    obtain ⟨ad', e', hb, _⟩ := h0.2 hn
    injection e' with e'
    subst e'
    exact hb
  exact ⟨fun d => d < w.heap.size, fun w1 w2 hd hs h1 => ⟨key h.1 w1 w2 hd hs h1.1, fun e he => key (h.2.1 e he) w1 w2 hd hs (h1.2.1 e he), fun e he => key (h.2.2 e he) w1 w2 hd hs (h1.2.2 e he)⟩, fun d hd => ⟨Nat.zero_le _, hd⟩, h⟩
theorem hds_at {l m : List HkA} (h : hds l = hds m) (i : Nat) (h1 : i < l.length) (h2 : i < m.length) : l[i].1 = m[i].1 ∧ l[i].2.1.2.2 = m[i].2.1.2.2 ∧ l[i].2.2.2.2 = m[i].2.2.2.2 := by
  have e := congrArg (fun z => z[i]?) h
  simp only [hds, List.getElem?_map, List.getElem?_eq_getElem h1, List.getElem?_eq_getElem h2, Option.map_some, Option.some.injEq, Prod.mk.injEq] at e
  exact e
set_option linter.unusedSimpArgs false in
set_option maxRecDepth 100000 in
set_option maxHeartbeats 2000000 in
theorem hlist_any (l m : List HkA) (C D : Option Addr) (k k' : Nat) (w : World) (he : hds l = hds m) (hC : HkL C l w) (hD : HkL D m w) (hn : l.length ≤ 100000) (hs : ∀ e ∈ l, e.2.1.2.2.length ≤ 100000 ∧ e.2.2.2.2.length ≤ 100000) :
    Calls Try.prog 18 #[.slice C l.length k, .slice D m.length k'] w fun e w' => e = .returned (.bool true) ∧ Below w.heap.size w w' := by
  have hl : l.length = m.length := by have := congrArg List.length he; rwa [hds_length, hds_length] at this
  have hd : ((l.length : Int) != (m.length : Int)) = false := by simp; omega
  have S := ((Sm.start w).argP hC.frs).argP hD.frs
  have HL := Kp.mk hl
  have HE := Kp.mk he
  have HS := Kp.mk hs
  clear hl he hs hC hD
  go_enter Try.func18, Try.ntmps18
  go_wp2
  clear hd
  go_loopw [5] (fun vi wr => ∃ i : Nat, vi = .int .i64 i ∧ i ≤ l.length ∧ Sm w wr [] [(0, HkL D m), (0, HkL C l)]) (fun vi _ => l.length - (intOf vi).toNat)
  case atStart => exact ⟨0, rfl, Nat.zero_le _, S⟩
  case round =>
    clear S
    obtain ⟨i, rfl, hi, S⟩ := hrel
    by_cases hlt : i < l.length
    · have hlt2 : i < m.length := by rw [← HL.out]; exact hlt
      obtain ⟨g, o, rfl, hg, hc⟩ := HkL.at_ (S.get (.tail _ (.head _))) (by omega)
      obtain ⟨g', o', rfl, hg', hc'⟩ := HkL.at_ (S.get (.head _)) (by omega)
      obtain ⟨c0, c1, c2⟩ := hc i hlt
      obtain ⟨d0, d1, d2⟩ := hc' i hlt2
      obtain ⟨e0, e1, e2⟩ := hds_at HE.out i hlt hlt2
      have hx1 := (S.get (.tail _ (.head _))).2.1 _ (List.getElem_mem hlt)
      have hx2 := (S.get (.tail _ (.head _))).2.2 _ (List.getElem_mem hlt)
      have hy1 := (S.get (.head _)).2.1 _ (List.getElem_mem hlt2)
      have hy2 := (S.get (.head _)).2.2 _ (List.getElem_mem hlt2)
      have hz := HS.out _ (List.getElem_mem hlt)
      obtain ⟨x, ex⟩ : ∃ x, l[i] = x := ⟨_, rfl⟩
      obtain ⟨y, ey⟩ : ∃ y, m[i] = y := ⟨_, rfl⟩
      obtain ⟨x0, ⟨xa, xc, us⟩, ⟨xb, xd, vs⟩⟩ := x
      obtain ⟨y0, ⟨ya, yc, us'⟩, ⟨yb, yd, vs'⟩⟩ := y
      rw [ex] at c0 c1 c2 e0 e1 e2 hx1 hx2 hz
      rw [ey] at d0 d1 d2 e0 e1 e2 hy1 hy2
      simp only [] at c0 c1 c2 d0 d1 d2 e0 e1 e2 hx1 hx2 hy1 hy2 hz
      subst e0 e1 e2
      have b1 : (0 : Int) ≤ (i : Int) := by omega
      have b2 : (i : Int) < (l.length : Int) := by omega
      have b3 : (i : Int) < (m.length : Int) := by omega
      have HX1 : Kp (LnX xa us wr.drew) := ⟨hx1⟩
      have HX2 : Kp (LnX xb vs wr.drew) := ⟨hx2⟩
      have HY1 : Kp (LnX ya us wr.drew) := ⟨hy1⟩
      have HY2 : Kp (LnX yb vs wr.drew) := ⟨hy2⟩
      obtain ⟨hz1, hz2⟩ := hz
      clear hc hc' ex ey hx1 hx2 hy1 hy2
      go_wp2
      replace S := S.drew
      refine wp_region_held_drew (S := (fun w' => w'.cell? ⟨g, o + i * 3, none⟩ = some (.int .i64 x0) ∧ w'.cell? ⟨g, o + i * 3 + 1, none⟩ = some (.slice xa us.length xc) ∧ w'.cell? ⟨g, o + i * 3 + 2, none⟩ = some (.slice xb vs.length xd) ∧ w'.cell? ⟨g', o' + i * 3, none⟩ = some (.int .i64 x0) ∧ w'.cell? ⟨g', o' + i * 3 + 1, none⟩ = some (.slice ya us.length yc) ∧ w'.cell? ⟨g', o' + i * 3 + 2, none⟩ = some (.slice yb vs.length yd))) (by kernel_rfl) ?_ (fun hHeld => ?_)
      · exact ⟨c0, c1, c2, d0, d1, d2⟩
      refine wpAnyH_take (i := 0) (v := ?_) rfl (by kernel_rfl) (by kernel_rfl) (by kernel_rfl) (fun _ _ _ h => h) (Or.inl ⟨by rfl, ?_⟩) (by assumption) ?_
      rotate_left
      · (intro w hSw; (try dsimp only at hSw); go_simp; try with_reducible rfl)
      try simp only [Act.put, List.getElem_toArray, List.getElem_cons_succ, List.getElem_cons_zero, List.setIfInBounds_toArray, List.set_cons_zero, List.set_cons_succ]
      refine wpAnyH_take (i := 1) (v := ?_) rfl (by kernel_rfl) (by kernel_rfl) (by kernel_rfl) (fun _ _ _ h => h) (Or.inl ⟨by rfl, ?_⟩) (by assumption) ?_
      rotate_left
      · (intro w hSw; (try dsimp only at hSw); go_simp; try with_reducible rfl)
      try simp only [Act.put, List.getElem_toArray, List.getElem_cons_succ, List.getElem_cons_zero, List.setIfInBounds_toArray, List.set_cons_zero, List.set_cons_succ]
      refine wpAnyH_take (i := 2) (v := ?_) rfl (by kernel_rfl) (by kernel_rfl) (by kernel_rfl) (fun _ _ _ h => h) (Or.inl ⟨by rfl, ?_⟩) (by assumption) ?_
      rotate_left
      · (intro w hSw; (try dsimp only at hSw); go_simp; try with_reducible rfl)
      try simp only [Act.put, List.getElem_toArray, List.getElem_cons_succ, List.getElem_cons_zero, List.setIfInBounds_toArray, List.set_cons_zero, List.set_cons_succ]
      refine wpAnyH_take (i := 3) (v := ?_) rfl (by kernel_rfl) (by kernel_rfl) (by kernel_rfl) (fun _ _ _ h => h) (Or.inl ⟨by rfl, ?_⟩) (by assumption) ?_
      rotate_left
      · (intro w hSw; (try dsimp only at hSw); go_simp; try with_reducible rfl)
      try simp only [Act.put, List.getElem_toArray, List.getElem_cons_succ, List.getElem_cons_zero, List.setIfInBounds_toArray, List.set_cons_zero, List.set_cons_succ]
      refine wpAnyH_take (i := 4) (v := ?_) rfl (by kernel_rfl) (by kernel_rfl) (by kernel_rfl) (fun _ _ _ h => h) (Or.inl ⟨by rfl, ?_⟩) (by assumption) ?_
      rotate_left
      · (intro w hSw; (try dsimp only at hSw); go_simp; try with_reducible rfl)
      try simp only [Act.put, List.getElem_toArray, List.getElem_cons_succ, List.getElem_cons_zero, List.setIfInBounds_toArray, List.set_cons_zero, List.set_cons_succ]
      refine wpAnyH_take (i := 5) (v := ?_) rfl (by kernel_rfl) (by kernel_rfl) (by kernel_rfl) (fun _ _ _ h => h) (Or.inl ⟨by rfl, ?_⟩) (by assumption) ?_
      rotate_left
      · (intro w hSw; (try dsimp only at hSw); go_simp; try with_reducible rfl)
      try simp only [Act.put, List.getElem_toArray, List.getElem_cons_succ, List.getElem_cons_zero, List.setIfInBounds_toArray, List.set_cons_zero, List.set_cons_succ]
      refine wpAnyH_take (i := 6) (v := ?_) rfl (by kernel_rfl) (by kernel_rfl) (by kernel_rfl) (fun _ _ _ h => h) (Or.inl ⟨by rfl, ?_⟩) (by assumption) ?_
      rotate_left
      · (intro w hSw; (try dsimp only at hSw); go_simp; try with_reducible rfl)
      try simp only [Act.put, List.getElem_toArray, List.getElem_cons_succ, List.getElem_cons_zero, List.setIfInBounds_toArray, List.set_cons_zero, List.set_cons_succ]
      refine wpAnyH_take (i := 7) (v := ?_) rfl (by kernel_rfl) (by kernel_rfl) (by kernel_rfl) (fun _ _ _ h => h) (Or.inl ⟨by rfl, ?_⟩) (by assumption) ?_
      rotate_left
      · (intro w hSw; (try dsimp only at hSw); go_simp; try with_reducible rfl)
      try simp only [Act.put, List.getElem_toArray, List.getElem_cons_succ, List.getElem_cons_zero, List.setIfInBounds_toArray, List.set_cons_zero, List.set_cons_succ]
      refine wpAnyH_ready (rs := [8]) (by kernel_rfl) (by simp) ?_
      refine AllReadyH.cons rfl (fun K hK => ?_) ?_
      · go_simp
        refine (rhsame_any x0 x0 us vs us vs xa xb ya yb _ _ _ _ _ _ _ _ _ rfl rfl rfl rfl HX1.out.ln HX2.out.ln HY1.out.ln HY2.out.ln hz1 hz2).mono ?_
        rintro e wA ⟨rfl, hb⟩
        rw [hSame_refl]
        replace S := S.call hb
        replace c0 : wA.cell? ⟨g, o + i * 3, none⟩ = some (.int .i64 x0) := (hb.cell (p := ⟨g, o + i * 3, none⟩) hg).trans c0
        replace c1 : wA.cell? ⟨g, o + i * 3 + 1, none⟩ = some (.slice xa us.length xc) := (hb.cell (p := ⟨g, o + i * 3 + 1, none⟩) hg).trans c1
        replace c2 : wA.cell? ⟨g, o + i * 3 + 2, none⟩ = some (.slice xb vs.length xd) := (hb.cell (p := ⟨g, o + i * 3 + 2, none⟩) hg).trans c2
        replace d0 : wA.cell? ⟨g', o' + i * 3, none⟩ = some (.int .i64 x0) := (hb.cell (p := ⟨g', o' + i * 3, none⟩) hg').trans d0
        replace d1 : wA.cell? ⟨g', o' + i * 3 + 1, none⟩ = some (.slice ya us.length yc) := (hb.cell (p := ⟨g', o' + i * 3 + 1, none⟩) hg').trans d1
        replace d2 : wA.cell? ⟨g', o' + i * 3 + 2, none⟩ = some (.slice yb vs.length yd) := (hb.cell (p := ⟨g', o' + i * 3 + 2, none⟩) hg').trans d2
        clear hb
        try simp only []
        refine hK.out _ _ ?_ (fun hHeld => ?_)
        · exact ⟨c0, c1, c2, d0, d1, d2⟩
        clear hK K
        try simp only [Act.put, List.getElem_toArray, List.getElem_cons_succ, List.getElem_cons_zero, List.setIfInBounds_toArray, List.set_cons_zero, List.set_cons_succ]
        refine wpAnyH_take (i := 9) (v := ?_) rfl (by kernel_rfl) (by kernel_rfl) (by kernel_rfl) (fun _ _ _ h => h) (Or.inl ⟨by rfl, ?_⟩) (by assumption) ?_
        rotate_left
        · (intro w hSw; (try dsimp only at hSw); go_simp; try with_reducible rfl)
        try simp only [Act.put, List.getElem_toArray, List.getElem_cons_succ, List.getElem_cons_zero, List.setIfInBounds_toArray, List.set_cons_zero, List.set_cons_succ]
        refine wpAnyH_done (by kernel_rfl) ?_ _
        go_wp2
        go_roundw
        case rel => exact ⟨i + 1, by go_num, by omega, S⟩
        case measure => simp [intOf]; omega
      exact AllReadyH.nil
    · obtain rfl : i = l.length := by omega
      go_wp2
      go_ret
      exact ⟨rfl, S.below⟩
end Go.Proofs.Ytkggedmcdllnaaa
