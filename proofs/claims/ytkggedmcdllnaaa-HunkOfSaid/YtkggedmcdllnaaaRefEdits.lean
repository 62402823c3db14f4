/- quiltmakerref04.Edits: the document's edits. -/
import Derived.Test.YtkggedmcdllnaaaRw
import Derived.Test.YtkggedmcdllnaaaRefPairsO
import Derived.Test.YtkggedmcdllnaaaLit
namespace Go.Proofs.Ytkggedmcdllnaaa
open Go.RowKit

section
variable {w0 w : World} {L : List Bl} {M : List Mf} {ops : Array Oper} {rest : List Oper} {o : Oper} {a : Act} {Q : Exit → Act → World → Prop}
/-- append of one pair. -/
theorem wpList_pr_append (hg : o.guard = none) (s x : Operand) (t : TypeId)
    (ho : o.op = .call { callee := .builtin .append, args := #[s, x], argTypes := #[t, t] }) (ht : Try.prog.underlying t = some (.slice 60))
    (v : Value) (hs : a.eval s = v) (l : List (Nat × Nat)) (R : Rw w0 w L M 60 2 v l.length (pcs l)) (ad : Addr) (c : Nat) (hx : a.eval x = .slice (some ad) 1 c) (e : Nat × Nat)
    (hc : ad.block < w.heap.size ∧ w.cell? (ad.add 0) = some (.int .i64 e.1) ∧ w.cell? (ad.add 1) = some (.int .i64 e.2)) (hl : l.length ≤ 1000000)
    (h : ∀ v' w', Rw w0 w' L M 60 2 v' (l ++ [e]).length (pcs (l ++ [e])) → wpList Try.prog ops Q rest (a.put o.dst v') w') : wpList Try.prog ops Q (o :: rest) a w := by
  obtain ⟨L', S, own, hL⟩ := R
  refine wpList_append_sl hg s x t ho w0.heap.size 60 _ 2 16 ht Try.info_pair rfl (by decide) v l.length (pcs l) hs own (some ad) 1 c 60 w.heap.size
    (fun j => if j = 0 then .int .i64 e.1 else .int .i64 e.2) hx ⟨by omega, fun _ => ⟨ad, rfl, hc.1, .inl hc.1, fun j hj => ?_⟩⟩ (fun j => ?_) (by simp only [maxLen]; omega) (by omega) S.below.size ?_
  · have h3 : j = 0 ∨ j = 1 := by omega
    rcases h3 with rfl | rfl
    · exact hc.2.1
    · exact hc.2.2
  · by_cases h0 : j = 0 <;> simp [h0, Value.oneCell']
  · intro v' w' own' hgr hv
    have e1 : pcs l ++ (List.range (1 * 2)).map (fun j => if j = 0 then Value.int .i64 e.1 else .int .i64 e.2) = pcs (l ++ [e]) := by rw [pcs_snoc]; rfl
    rw [e1] at own'
    have e2 : (l ++ [e]).length = l.length + 1 := by simp
    obtain ⟨L'', S', hL'⟩ := S.row hL hgr own' hv
    exact h v' w' ⟨L'', S', by rw [e2]; exact own', hL'⟩
end
/-- Pairs that rise from a place on; the last one may be the ends. -/
def Upp (n m : Nat) : List (Nat × Nat) → Nat → Nat → Prop
  | [], _, _ => True
  | x :: r, i, j => i ≤ x.1 ∧ j ≤ x.2 ∧ x.1 ≤ n ∧ x.2 ≤ m ∧ Upp n m r (x.1 + 1) (x.2 + 1)
theorem ris_upp {n m : Nat} : ∀ {ps : List (Nat × Nat)} {i j : Nat}, Ris n m ps i j → Upp n m (ps ++ [(n, m)]) i j
  | [], _, _, h => ⟨h.1, h.2, Nat.le_refl _, Nat.le_refl _, trivial⟩
  | _ :: _, _, _, h => ⟨h.1, h.2.1, Nat.le_of_lt h.2.2.1, Nat.le_of_lt h.2.2.2.1, ris_upp h.2.2.2.2⟩
theorem cell2_new (w : World) (T : TypeId) (v0 v1 : Value) : (⟨w.heap.size, 0, none⟩ : Addr).block < (w.alloc (.cells #[v0, v1] T)).heap.size ∧ (w.alloc (.cells #[v0, v1] T)).cell? ((⟨w.heap.size, 0, none⟩ : Addr).add 0) = some v0 ∧
    (w.alloc (.cells #[v0, v1] T)).cell? ((⟨w.heap.size, 0, none⟩ : Addr).add 1) = some v1 := by
  have h := fun j => cell_of_row _ _ j _ _ (0, 0) (heap_alloc_new w (.cells #[v0, v1] T))
  refine ⟨by rw [World.size_alloc]; exact Nat.lt_succ_self _, ?_, ?_⟩
  · rw [add_plain, h]; rfl
  · rw [add_plain, h]; rfl
theorem PrX.cells {g o n : Nat} {l : List (Nat × Nat)} {w : World} {p q : Nat} (h : PrX (some ⟨g, o, none⟩) l w) {hlt : n < l.length} (ex : l[n] = (p, q)) :
    w.cell? ⟨g, o + n * 2, none⟩ = some (.int .i64 p) ∧ w.cell? ⟨g, o + n * 2 + 1, none⟩ = some (.int .i64 q) := by
  obtain ⟨g', o', e, _, hc⟩ := h.at_ (by omega)
  injection e with e
  injection e with e1 e2
  subst e1 e2
  have := hc n hlt
  rw [ex] at this
  exact this
theorem edStep_yes {ys : List ByteArray} {i j p q : Nat} (h : i < p ∨ j < q) : edStep ys i j p q = [((i : Int), (p : Int) - (i : Int), (ys.drop j).take (q - j))] := if_pos h
theorem edStep_no {ys : List ByteArray} {i j p q : Nat} (h : ¬ (i < p ∨ j < q)) : edStep ys i j p q = [] := if_neg h

set_option linter.unusedSimpArgs false in
set_option maxRecDepth 100000 in
set_option maxHeartbeats 4000000 in
theorem redits_any (xs ys : List ByteArray) (A B : Option Addr) (c d : Nat) (w : World) (hA : SlS w.heap.size w A xs) (hB : SlS w.heap.size w B ys) (hn : xs.length ≤ 100000) (hm : ys.length ≤ 100000) (hd : ys.length ≤ d) (hd2 : d ≤ 9223372036854775807) :
    Calls Try.prog 32 #[.slice A xs.length c, .slice B ys.length d] w fun e w' => ∃ C k l, e = .returned (.slice C l.length k) ∧ eds l = edits xs ys ∧ l.length ≤ k ∧ k ≤ 9223372036854775807 ∧ Frs w.heap.size (EdL C l) w' ∧ Below w.heap.size w w' := by
  have S := ((Sm.start w).argL hA).argL hB
  have hris := ris_upp (ris_pairs xs ys)
  have hN := Qm.pairs_le_left xs ys 0 0
  obtain ⟨ps, hps⟩ : ∃ ps, Qm.pairs xs ys 0 0 = ps := ⟨_, rfl⟩
  have HP := Kp.mk hps
  rw [hps] at hris hN
  have hN2 : ps.length ≤ 100000 := by omega
  have HU := Kp.mk hris
  obtain ⟨qs, hqs⟩ : ∃ qs, ps ++ [(xs.length, ys.length)] = qs := ⟨_, rfl⟩
  have hqn : qs.length ≤ 100001 := by rw [← hqs, List.length_append]; simp; omega
  have hqn2 : qs.length ≤ xs.length + 1 := by rw [← hqs, List.length_append]; simp; omega
  rw [hqs] at HU
  have HQ := Kp.mk hqs
  have HE0 : Kp (edFrom ys qs 0 0 = edits xs ys) := ⟨by rw [← hqs, ← hps]; rfl⟩
  clear hA hB hps hris hN hqs
  go_enter Try.func32, Try.ntmps32
  go_wp2_with (first
    | (go_at_call 41; refine (refPairs_own xs ys A B c d _ (S.ln (.tail _ (.head _))) (S.ln (.head _)) hn hm).mono ?_; rintro e w2 ⟨v0, rfl, hown, hb⟩; rw [HP.out] at hown; have R := Rw.of_call S hb hown; clear hb hown S)
    | (at_builtin; refine wpList_pr_append rfl _ _ _ rfl Try.underlying58 _ rfl ps (R.call ((Below.refl _ _).alloc (Nat.le_refl _) _)) ⟨w2.heap.size, 0, none⟩ 1 rfl (xs.length, ys.length) (cell2_new _ _ _ _) (by omega) ?_; clear R; intro v1 w3 R; rw [HQ.out] at R; obtain ⟨C, k, rfl, -, -, hF⟩ := Frs.of_own R.own (by rw [pcs_length]; omega); have S := (R.sm.and (P := PrX C qs) hF (fun _ _ h => by simp at h)); clear R hF))
  have R := (Rw.start S 52 3).facts (M' := [(w.heap.size, News []), (w.heap.size, PrX C qs), (0, LnX B ys), (0, LnX A xs)]) fun _ S => S.put ⟨fun _ => False, fun _ _ _ _ _ => fun _ h => by simp at h, fun _ h => h.elim, fun _ h => by simp at h⟩
  clear S
  go_loopw [6, 7, 8, 9] (fun v vi vj vk wr => ∃ (n i j : Nat) (l : List EdA), vk = .int .i64 n ∧ n ≤ qs.length ∧ vi = .int .i64 i ∧ vj = .int .i64 j ∧ i ≤ 100001 ∧ j ≤ 100001 ∧ l.length ≤ n ∧ Kp (eds l ++ edFrom ys (qs.drop n) i j = edits xs ys) ∧ Kp (Upp xs.length ys.length (qs.drop n) i j) ∧
      Rw w wr [] [(w.heap.size, News l), (w.heap.size, PrX C qs), (0, LnX B ys), (0, LnX A xs)] 52 3 v l.length (ecs l)) (fun _ _ _ vk _ => qs.length - (intOf vk).toNat)
  case atStart => exact ⟨0, 0, 0, [], rfl, Nat.zero_le _, rfl, rfl, Nat.zero_le _, Nat.zero_le _, Nat.le_refl _, ⟨HE0.out⟩, HU, R⟩
  case round =>
    obtain ⟨n, i, j, l, rfl, h1, rfl, rfl, h2, h3, h4, he, hr, R⟩ := hrel
    by_cases hlt : n < qs.length
    · obtain ⟨g, o, rfl, hg, hc⟩ := PrX.at_ (R.sm.get (.tail _ (.head _))) (by omega)
      obtain ⟨c0, c1⟩ := hc n hlt
      obtain ⟨x, hx⟩ : ∃ x, qs[n] = x := ⟨_, rfl⟩
      obtain ⟨p, q⟩ := x
      rw [hx] at c0 c1
      have hdrop : qs.drop n = (p, q) :: qs.drop (n + 1) := by rw [List.drop_eq_getElem_cons hlt, hx]
      have he2 := he.out
      have hr2 := hr.out
      rw [hdrop] at he2 hr2
      obtain ⟨r1, r2, r3, r4, hr3⟩ := hr2
      simp only [edFrom] at he2
      have HE := Kp.mk he2
      have HR := Kp.mk hr3
      have HX := Kp.mk hx
      have b1 : (0 : Int) ≤ (n : Int) := by omega
      have b2 : (n : Int) < (qs.length : Int) := by omega
      have v1 : IntKind.i64.wrap ((p : Int) - (i : Int)) = (p : Int) - (i : Int) := IntWalk.i64_in _ (by omega)
      have v2 : IntKind.i64.wrap ((p : Int) + 1) = (p : Int) + 1 := IntWalk.i64_in _ (by omega)
      have v3 : IntKind.i64.wrap ((q : Int) + 1) = (q : Int) + 1 := IntWalk.i64_in _ (by omega)
      simp only [] at c0 c1 r1 r2 r3 r4 HR
      clear hc hx hdrop he2 hr3 he hr
      by_cases hy : i < p ∨ j < q
      · have HS := edStep_yes (ys := ys) hy
        rw [HS] at HE
        have hy2 : (i < p) ∨ (¬ i < p ∧ j < q) := by omega
        clear HS hy
        obtain ⟨S1, g1⟩ : ∃ S, (if d = j then B else B.map (fun x => x.add j)) = S := ⟨_, rfl⟩
        obtain ⟨zs, hzs⟩ : ∃ zs, (ys.drop j).take (q - j) = zs := ⟨_, rfl⟩
        have hlen : zs.length = q - j := by rw [← hzs, List.length_take, List.length_drop]; omega
        have HL := Kp.mk hlen
        have b3 : (0 : Int) ≤ (j : Int) := by omega
        have b4 : (j : Int) ≤ (q : Int) := by omega
        have b5 : (q : Int) ≤ (d : Int) := by omega
        have hsl : ∀ W, LnX B ys W → SlS W.heap.size W S1 zs := fun W hW => by
          have h1 := ((hW.ln).take r4).cut (k := j) (c := d) (by rw [List.length_take]; omega) (by rw [List.length_take]; omega)
          rw [g1] at h1
          rw [← hzs, ← List.drop_take]
          exact h1
        have HSL := Kp.mk hsl
        rw [hzs] at HE
        clear hlen hzs hsl
        rcases hy2 with hy2 | ⟨hy2, hy3⟩
        all_goals
          go_wp2
          have R2 := R.drew
          refine wp_region_held_drew (S := (fun w' => w'.cell? ⟨g, o + n * 2, none⟩ = some (.int .i64 p) ∧ w'.cell? ⟨g, o + n * 2 + 1, none⟩ = some (.int .i64 q))) (by kernel_rfl) ?_ (fun hHeld => ?_)
          · exact ⟨c0, c1⟩
          refine wpAnyH_take (i := 0) (v := ?_) rfl (by kernel_rfl) (by kernel_rfl) (by kernel_rfl) (fun _ _ _ h => h) (Or.inl ⟨by rfl, ?_⟩) (by assumption) ?_
          rotate_left
          · (intro w hSw; (try dsimp only at hSw); go_simp; try with_reducible rfl)
          try simp only [Act.put, List.getElem_toArray, List.getElem_cons_succ, List.getElem_cons_zero, List.setIfInBounds_toArray, List.set_cons_zero, List.set_cons_succ]
          refine wpAnyH_take (i := 1) (v := ?_) rfl (by kernel_rfl) (by kernel_rfl) (by kernel_rfl) (fun _ _ _ h => h) (Or.inl ⟨by rfl, ?_⟩) (by assumption) ?_
          rotate_left
          · (intro w hSw; (try dsimp only at hSw); go_simp; try with_reducible rfl)
          try simp only [Act.put, List.getElem_toArray, List.getElem_cons_succ, List.getElem_cons_zero, List.setIfInBounds_toArray, List.set_cons_zero, List.set_cons_succ]
          refine wpAnyH_take (i := 2) (v := ?_) rfl (by kernel_rfl) (by kernel_rfl) (by kernel_rfl) (fun _ _ _ h => h) (Or.inl ⟨by rfl, ?_⟩) (by assumption) ?_
          rotate_left
          · (intro w hSw; (try dsimp only at hSw); go_simp; try with_reducible rfl)
          try simp only [Act.put, List.getElem_toArray, List.getElem_cons_succ, List.getElem_cons_zero, List.setIfInBounds_toArray, List.set_cons_zero, List.set_cons_succ]
          refine wpAnyH_take (i := 3) (v := ?_) rfl (by kernel_rfl) (by kernel_rfl) (by kernel_rfl) (fun _ _ _ h => h) (Or.inl ⟨by rfl, ?_⟩) (by assumption) ?_
          rotate_left
          · (intro w hSw; (try dsimp only at hSw); go_simp; try with_reducible rfl)
          try simp only [Act.put, List.getElem_toArray, List.getElem_cons_succ, List.getElem_cons_zero, List.setIfInBounds_toArray, List.set_cons_zero, List.set_cons_succ]
          refine wpAnyH_take (i := 4) (v := ?_) rfl (by kernel_rfl) (by kernel_rfl) (by kernel_rfl) (fun _ _ _ h => h) (Or.inl ⟨by rfl, ?_⟩) (by assumption) ?_
          rotate_left
          · (intro w hSw; (try dsimp only at hSw); go_simp; try with_reducible rfl)
          try simp only [Act.put, List.getElem_toArray, List.getElem_cons_succ, List.getElem_cons_zero, List.setIfInBounds_toArray, List.set_cons_zero, List.set_cons_succ]
          refine wpAnyH_take (i := 5) (v := ?_) rfl (by kernel_rfl) (by kernel_rfl) (by kernel_rfl) (fun _ _ _ h => h) (Or.inl ⟨by rfl, ?_⟩) (by assumption) ?_
          rotate_left
          · (intro w hSw; (try dsimp only at hSw); go_simp; try with_reducible rfl)
          try simp only [Act.put, List.getElem_toArray, List.getElem_cons_succ, List.getElem_cons_zero, List.setIfInBounds_toArray, List.set_cons_zero, List.set_cons_succ]
          refine wpAnyH_take (i := 6) (v := ?_) rfl (by kernel_rfl) (by kernel_rfl) (by kernel_rfl) (fun _ _ _ h => h) (Or.inl ⟨by rfl, ?_⟩) (by assumption) ?_
          rotate_left
          · (intro w hSw; (try dsimp only at hSw); go_simp; try with_reducible rfl)
          try simp only [Act.put, List.getElem_toArray, List.getElem_cons_succ, List.getElem_cons_zero, List.setIfInBounds_toArray, List.set_cons_zero, List.set_cons_succ]
          refine wpAnyH_take (i := 7) (v := ?_) rfl (by kernel_rfl) (by kernel_rfl) (by kernel_rfl) (fun _ _ _ h => h) (Or.inl ⟨by rfl, ?_⟩) (by assumption) ?_
          rotate_left
          · (intro w hSw; (try dsimp only at hSw); go_simp; try with_reducible rfl)
          try simp only [Act.put, List.getElem_toArray, List.getElem_cons_succ, List.getElem_cons_zero, List.setIfInBounds_toArray, List.set_cons_zero, List.set_cons_succ]
          refine wpAnyH_take (i := 8) (v := ?_) rfl (by kernel_rfl) (by kernel_rfl) (by kernel_rfl) (fun _ _ _ h => h) (Or.inl ⟨by rfl, ?_⟩) (by assumption) ?_
          rotate_left
          · (intro w hSw; (try dsimp only at hSw); go_simp; try with_reducible rfl)
          try simp only [Act.put, List.getElem_toArray, List.getElem_cons_succ, List.getElem_cons_zero, List.setIfInBounds_toArray, List.set_cons_zero, List.set_cons_succ]
          refine wpAnyH_take (i := 9) (v := ?_) rfl (by kernel_rfl) (by kernel_rfl) (by kernel_rfl) (fun _ _ _ h => h) (Or.inl ⟨by rfl, ?_⟩) (by assumption) ?_
          rotate_left
          · (intro w hSw; (try dsimp only at hSw); go_simp; try with_reducible rfl)
          try simp only [Act.put, List.getElem_toArray, List.getElem_cons_succ, List.getElem_cons_zero, List.setIfInBounds_toArray, List.set_cons_zero, List.set_cons_succ]
          refine wpAnyH_take (i := 10) (v := ?_) rfl (by kernel_rfl) (by kernel_rfl) (by kernel_rfl) (fun _ _ _ h => h) (Or.inl ⟨by rfl, ?_⟩) (by assumption) ?_
          rotate_left
          · (intro w hSw; (try dsimp only at hSw); go_simp; try with_reducible rfl)
          try simp only [Act.put, List.getElem_toArray, List.getElem_cons_succ, List.getElem_cons_zero, List.setIfInBounds_toArray, List.set_cons_zero, List.set_cons_succ]
          refine wpAnyH_take (i := 11) (v := ?_) rfl (by kernel_rfl) (by kernel_rfl) (by kernel_rfl) (fun _ _ _ h => h) (Or.inl ⟨by rfl, ?_⟩) (by assumption) ?_
          rotate_left
          · (intro w hSw; (try dsimp only at hSw); go_simp; try with_reducible rfl)
          try simp only [Act.put, List.getElem_toArray, List.getElem_cons_succ, List.getElem_cons_zero, List.setIfInBounds_toArray, List.set_cons_zero, List.set_cons_succ]
          refine wpAnyH_take (i := 12) (v := ?_) rfl (by kernel_rfl) (by kernel_rfl) (by kernel_rfl) (fun _ _ _ h => h) (Or.inl ⟨by rfl, ?_⟩) (by assumption) ?_
          rotate_left
          · (intro w hSw; (try dsimp only at hSw); go_simp; try with_reducible rfl)
          try simp only [Act.put, List.getElem_toArray, List.getElem_cons_succ, List.getElem_cons_zero, List.setIfInBounds_toArray, List.set_cons_zero, List.set_cons_succ]
          refine wpAnyH_take (i := 13) (v := ?_) rfl (by kernel_rfl) (by kernel_rfl) (by kernel_rfl) (fun _ _ _ h => h) (Or.inl ⟨by rfl, ?_⟩) (by assumption) ?_
          rotate_left
          · (intro w hSw; (try dsimp only at hSw); go_simp; try with_reducible rfl)
          try simp only [Act.put, List.getElem_toArray, List.getElem_cons_succ, List.getElem_cons_zero, List.setIfInBounds_toArray, List.set_cons_zero, List.set_cons_succ]
          refine wpAnyH_take (i := 14) (v := ?_) rfl (by kernel_rfl) (by kernel_rfl) (by kernel_rfl) (fun _ _ _ h => h) (Or.inl ⟨by rfl, ?_⟩) (by assumption) ?_
          rotate_left
          · (intro w hSw; (try dsimp only at hSw); go_simp; try with_reducible rfl)
          try simp only [Act.put, List.getElem_toArray, List.getElem_cons_succ, List.getElem_cons_zero, List.setIfInBounds_toArray, List.set_cons_zero, List.set_cons_succ]
          refine wpAnyH_take (i := 15) (v := ?_) rfl (by kernel_rfl) (by kernel_rfl) (by kernel_rfl) (fun _ _ _ h => h) (Or.inl ⟨by rfl, ?_⟩) (by assumption) ?_
          rotate_left
          · (intro w hSw; (try dsimp only at hSw); go_simp; try with_reducible rfl)
          try simp only [Act.put, List.getElem_toArray, List.getElem_cons_succ, List.getElem_cons_zero, List.setIfInBounds_toArray, List.set_cons_zero, List.set_cons_succ]
          refine wpAnyH_take (i := 16) (v := ?_) rfl (by kernel_rfl) (by kernel_rfl) (by kernel_rfl) (fun _ _ _ h => h) (Or.inl ⟨by rfl, ?_⟩) (by assumption) ?_
          rotate_left
          · (intro w hSw; (try dsimp only at hSw); go_simp; try with_reducible rfl)
          try simp only [Act.put, List.getElem_toArray, List.getElem_cons_succ, List.getElem_cons_zero, List.setIfInBounds_toArray, List.set_cons_zero, List.set_cons_succ]
          refine wpAnyH_ready (rs := [17]) (by kernel_rfl) (by simp) ?_
          refine AllReadyH.cons rfl (fun K hK => ?_) ?_
          · refine step_strs_nil rfl _ _ _ (by rfl) Try.underlying22 (by rfl) R2 S1 _ (d - j) zs (by rfl) HL.out.symm (HSL.out _ (R2.sm.get (.tail _ (.tail _ (.head _))))) (by rw [HL.out]; omega) ?_
            intro A3 c3 w3 R3
            obtain ⟨k0, k1⟩ := PrX.cells (R3.sm.get (.tail _ (.tail _ (.head _)))) HX.out
            clear c0 c1
            refine hK.out _ _ ?_ (fun hHeld => ?_)
            · first | exact ⟨by assumption, by assumption⟩ | exact ⟨(World.cell?_alloc_some _ _ _ (by rw [k0]; rfl)).trans k0, (World.cell?_alloc_some _ _ _ (by rw [k1]; rfl)).trans k1⟩ | go_keep
            clear hK K
            try simp only [Act.put, List.getElem_toArray, List.getElem_cons_succ, List.getElem_cons_zero, List.setIfInBounds_toArray, List.set_cons_zero, List.set_cons_succ]
            refine wpAnyH_take (i := 18) (v := ?_) rfl (by kernel_rfl) (by kernel_rfl) (by kernel_rfl) (fun _ _ _ h => h) (Or.inl ⟨by rfl, ?_⟩) (by assumption) ?_
            rotate_left
            · (intro w hSw; (try dsimp only at hSw); go_simp; try with_reducible rfl)
            try simp only [Act.put, List.getElem_toArray, List.getElem_cons_succ, List.getElem_cons_zero, List.setIfInBounds_toArray, List.set_cons_zero, List.set_cons_succ]
            refine wpAnyH_ready (rs := [19]) (by kernel_rfl) (by simp) ?_
            refine AllReadyH.cons rfl (fun K hK => ?_) ?_
            · go_simp
              refine hK.out _ _ ?_ (fun hHeld => ?_)
              · first | exact ⟨by assumption, by assumption⟩ | exact ⟨(World.cell?_alloc_some _ _ _ (by rw [k0]; rfl)).trans k0, (World.cell?_alloc_some _ _ _ (by rw [k1]; rfl)).trans k1⟩ | go_keep
              clear hK K
              try simp only [Act.put, List.getElem_toArray, List.getElem_cons_succ, List.getElem_cons_zero, List.setIfInBounds_toArray, List.set_cons_zero, List.set_cons_succ]
              refine wpAnyH_ready (rs := [20]) (by kernel_rfl) (by simp) ?_
              refine AllReadyH.cons rfl (fun K hK => ?_) ?_
              · refine step_ed_append rfl _ _ _ (by rfl) Try.underlying49 _ (by rfl) l (R3.call ((Below.refl _ _).alloc (Nat.le_refl _) _)) ⟨w3.heap.size, 0, none⟩ 1 (by rfl) ((i : Int), (p : Int) - (i : Int), A3, c3, zs) (by exact cells3_new _ _ _ _ _) (by omega) ?_
                intro v4 w4 R4
                obtain ⟨d0, d1⟩ := PrX.cells (R4.sm.get (.tail _ (.tail _ (.head _)))) HX.out
                clear k0 k1
                refine hK.out _ _ ?_ (fun hHeld => ?_)
                · first | exact ⟨by assumption, by assumption⟩ | exact ⟨(World.cell?_alloc_some _ _ _ (by rw [k0]; rfl)).trans k0, (World.cell?_alloc_some _ _ _ (by rw [k1]; rfl)).trans k1⟩ | go_keep
                clear hK K
                try simp only [Act.put, List.getElem_toArray, List.getElem_cons_succ, List.getElem_cons_zero, List.setIfInBounds_toArray, List.set_cons_zero, List.set_cons_succ]
                refine wpAnyH_take (i := 21) (v := ?_) rfl (by kernel_rfl) (by kernel_rfl) (by kernel_rfl) (fun _ _ _ h => h) (Or.inl ⟨by rfl, ?_⟩) (by assumption) ?_
                rotate_left
                · (intro w hSw; (try dsimp only at hSw); go_simp; try with_reducible rfl)
                try simp only [Act.put, List.getElem_toArray, List.getElem_cons_succ, List.getElem_cons_zero, List.setIfInBounds_toArray, List.set_cons_zero, List.set_cons_succ]
                refine wpAnyH_done (by kernel_rfl) ?_ _
                have R5 := R4.facts (M' := [(w.heap.size, News (l ++ [((i : Int), (p : Int) - (i : Int), A3, c3, zs)])), (w.heap.size, PrX (some ⟨g, o, none⟩) qs), (0, LnX B ys), (0, LnX A xs)]) (fun _ S => S.join (fun w => news_snoc l ((i : Int), (p : Int) - (i : Int), A3, c3, zs) w))
                go_wp2
                go_roundw
                case rel => exact ⟨n + 1, p + 1, q + 1, _, by go_num, by omega, by go_num, by go_num, by omega, by omega, by rw [List.length_append]; simp; omega, ⟨by rw [eds_snoc, List.append_assoc]; exact HE.out⟩, HR, R5⟩
                case measure => simp [intOf]; omega
              exact AllReadyH.nil
            exact AllReadyH.nil
          exact AllReadyH.nil
      · have HS := edStep_no (ys := ys) hy
        rw [HS, List.nil_append] at HE
        obtain rfl : i = p := by omega
        obtain rfl : j = q := by omega
        clear HS hy
        go_wp2
        go_roundw
        case rel => exact ⟨n + 1, i + 1, j + 1, l, by go_num, by omega, by go_num, by go_num, by omega, by omega, by omega, HE, HR, R⟩
        case measure => simp [intOf]; omega
    · obtain rfl : n = qs.length := by omega
      have he2 := he.out
      rw [List.drop_length] at he2
      simp only [edFrom, List.append_nil] at he2
      have HE := Kp.mk he2
      obtain ⟨C5, k5, rfl, q1, q2, hF⟩ := Frs.of_own R.own (by rw [ecs_length]; omega)
      have HF := Kp.mk hF
      clear he he2 hF
      go_wp2
      go_ret
      exact ⟨C5, k5, l, rfl, HE.out, q1, q2, HF.out.and (R.sm.frs (.head _)), R.sm.below⟩
end Go.Proofs.Ytkggedmcdllnaaa
