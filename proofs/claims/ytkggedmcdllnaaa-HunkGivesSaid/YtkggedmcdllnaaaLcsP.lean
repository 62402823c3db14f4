/- lcs.Pairs: it hands back the pairs, in a slice of its own. -/
import Derived.RangeFuncNested
import Derived.RangeFuncBound
import Derived.RangeFuncCalls
import Derived.RangeFuncLeaves
import Derived.Shelf.Abstract
import Derived.Shelf.RegionOpen
import Derived.OwnWalkIn
import Derived.TacticsInMore
import Derived.LoopNIn
import Derived.LoopIn
import Derived.Test.YtkggedmcdllnaaaLcsS
namespace Go.Proofs.Ytkggedmcdllnaaa
open Go.RowKit Go.Shelf
attribute [local go_sem] Oper.semAt_some

/-- The pairs' cells. -/
def pcs (l : List (Nat × Nat)) : List Value := l.flatMap fun x => [.int .i64 x.1, .int .i64 x.2]
theorem pcs_snoc (l : List (Nat × Nat)) (x : Nat × Nat) : pcs (l ++ [x]) = pcs l ++ [.int .i64 x.1, .int .i64 x.2] := by simp [pcs]

theorem KeepP.of_grown {b0 : Nat} {W W' : World} {row : Option Nat} (hg : W.grownBy W' row)
    (hr : ∀ g, row = some g → b0 ≤ g ∧ ∃ cs T fr, W.heap[g]? = some (.cells cs T fr) ∧ (T = 60 ∨ T = 58)) : KeepP b0 W W' :=
  ⟨hg.size, fun k cs T fr hk hc => hg.block k (Array.getElem?_eq_some_iff.1 hk).1 (fun e => by
    obtain ⟨h1, cs', T', fr', h2, h3⟩ := hr k e.symm
    rw [hk] at h2
    cases h2
    rcases hc with hc | ⟨hc1, hc2⟩
    · omega
    · rcases h3 with h3 | h3
      · exact hc1 h3
      · exact hc2 h3)⟩

theorem KeepP.append {b0 B n : Nat} {W w1 : World} {v u : Value} {xs : List Value} {tmp : Obj} (hrow : W.ownsRow b0 60 2 v n xs) (hgrow : (W.alloc tmp).grownBy w1 v.ownBlock)
    (hv1 : Boxed w1 B 58 u) (hB : b0 ≤ B) (u' : Value) : KeepP b0 W (w1.setCell ⟨B, 0, none⟩ u') :=
  (KeepP.of_grown (World.grownBy_alloc W tmp none) (fun _ e => by cases e)).trans ((KeepP.of_grown hgrow (fun g e => by
    rcases (hrow.alloc tmp).2 with ⟨rfl, _⟩ | ⟨g2, cap2, cur2, rfl, hb3, hh3, _⟩
    · simp [Value.ownBlock] at e
    · obtain rfl : g2 = g := by simpa [Value.ownBlock] using e
      exact ⟨hb3, _, _, _, hh3, .inl rfl⟩)).trans (KeepP.of_grown (grownBy_setCell' w1 B u') (fun g e => by cases e; exact ⟨hB, _, _, _, hv1, .inr rfl⟩)))

theorem cell_two (w : World) (x y : Value) (t : TypeId) : ∀ j u, [x, y][j]? = some u → (w.alloc (.cells #[x, y] t)).cell? ((⟨w.heap.size, 0, none⟩ : Addr).add j) = some u := by
  intro j u hj
  match j, hj with
  | 0, hj => simp at hj; subst hj; simp [Addr.add]
  | 1, hj => simp at hj; subst hj; simp [Addr.add]

theorem Try.info_pair : (Try.prog.info? 60).map (fun i => (i.zero, i.size, i.bytes)) = some (some (.agg #[.int .i64 0, .int .i64 0]), 2, 16) := by kernel_rfl

theorem stops_any (n b0 : Nat) (hn1 : 1 ≤ n) (xs ys : List ByteArray) (A B : Option Addr) (c d Ba Bb : Nat) (w : World)
    (hba : Row w Ba 22 1 (fun _ => .slice A xs.length c)) (hbb : Row w Bb 22 1 (fun _ => .slice B ys.length d)) (hA : SlS b0 w A xs) (hB : SlS b0 w B ys)
    (hn : xs.length ≤ 100000) (hm : ys.length ≤ 100000) :
    SeqStopsK Fence.wide n Try.prog 50 #[.pointer (some ⟨Ba, 0, none⟩), .pointer (some ⟨Bb, 0, none⟩)] (fun x : Nat × Nat => #[pv x]) (KeepP b0)
      (fun zs => zs = Qm.pairs xs ys 0 0) (fun pre => pre <+: Qm.pairs xs ys 0 0) (Qm.pairs xs ys 0 0).length w := fun l J Jx W hW hJ _ hY h0 =>
  steps1_in n l Ba Bb b0 hn1 xs ys A B c d J Jx W hJ hY (hba.below hW) (hbb.below hW) (hA.below hW) (hB.below hW) h0 hn hm

set_option maxRecDepth 100000 in
set_option maxHeartbeats 2000000 in
theorem pairs_in (xs ys : List ByteArray) (A B : Option Addr) (c d : Nat) (w : World) (hA : SlS w.heap.size w A xs) (hB : SlS w.heap.size w B ys)
    (hn : xs.length ≤ 100000) (hm : ys.length ≤ 100000) :
    CallsIn Fence.wide 4 Try.prog 40 #[.slice A xs.length c, .slice B ys.length d] w fun e w' => ∃ v, e = .returned v ∧
      w'.ownsRow w.heap.size 60 2 v (Qm.pairs xs ys 0 0).length (pcs (Qm.pairs xs ys 0 0)) ∧ Below w.heap.size w w' := by
  obtain ⟨i0, hi, hz0, hz1, hz2⟩ := info_parts Try.info_pair
  have hN : (Qm.pairs xs ys 0 0).length ≤ 100000 := Nat.le_trans (Qm.pairs_le_left xs ys 0 0) (by omega)
  refine callsIn_of_wp_marks Try.func40 rfl trivial ?_ rfl
  simp only [Try.ntmps40, List.size_toArray, List.length_cons, List.length_nil, Nat.reduceAdd, Nat.reduceSub, Array.replicate_succ, Array.replicate_zero, List.push_toArray, List.append_toArray, List.nil_append, List.cons_append]
  gi_wp2_with (refine ⟨trivial, ?_⟩; gi_at_call 47; refine (callsIn_wide.2 (steps_any A B xs.length ys.length c d _)).mono ?_; rintro e w' ⟨rfl, rfl⟩)
  have bL := ((Boxed.new w 58 (.slice none 0 0)).alloc (.cells #[.slice A xs.length c] 22)).alloc (.cells #[.slice B ys.length d] 22)
  have rA := (Row.one (w.alloc (.cells #[.slice none 0 0] 58)) 22 (.slice A xs.length c)).alloc (.cells #[.slice B ys.length d] 22)
  have rB := Row.one ((w.alloc (.cells #[.slice none 0 0] 58)).alloc (.cells #[.slice A xs.length c] 22)) 22 (.slice B ys.length d)
  simp only [World.size_alloc] at rA rB
  have hA1 := ((hA.alloc (.cells #[.slice none 0 0] 58)).alloc (.cells #[.slice A xs.length c] 22)).alloc (.cells #[.slice B ys.length d] 22)
  have hB1 := ((hB.alloc (.cells #[.slice none 0 0] 58)).alloc (.cells #[.slice A xs.length c] 22)).alloc (.cells #[.slice B ys.length d] 22)
  have hBe : Below w.heap.size w (((w.alloc (.cells #[.slice none 0 0] 58)).alloc (.cells #[.slice A xs.length c] 22)).alloc (.cells #[.slice B ys.length d] 22)) :=
    (((Below.refl _ w).alloc (Nat.le_refl _) _).alloc (by simp) _).alloc (by simp; omega) _
  have hsz : (((w.alloc (.cells #[.slice none 0 0] 58)).alloc (.cells #[.slice A xs.length c] 22)).alloc (.cells #[.slice B ys.length d] 22)).heap.size = w.heap.size + 3 := by simp
  obtain ⟨W0, hW0⟩ : ∃ W0, ((w.alloc (.cells #[.slice none 0 0] 58)).alloc (.cells #[.slice A xs.length c] 22)).alloc (.cells #[.slice B ys.length d] 22) = W0 := ⟨_, rfl⟩
  rw [hW0] at bL rA rB hA1 hB1 hBe hsz ⊢
  clear hW0
  refine wpIn_rangeFunc_ownH rfl (by omega) (gf := 50) (lb := #[.pointer (some ⟨w.heap.size + 1, 0, none⟩), .pointer (some ⟨w.heap.size + 1 + 1, 0, none⟩)]) rfl trivial (enters_of Try.func50 (by kernel_rfl) rfl)
    (stops_any 3 w.heap.size (by omega) xs ys A B c d (w.heap.size + 1) (w.heap.size + 1 + 1) W0 rA rB hA1 hB1 hn hm) (fun h k => h.trans k) (fun W l o o' _ hl ho _ => KeepP.putObj o' hl ho) (Below.refl _ _) (fun _ => rfl)
    (fun pre W => (∃ v, Boxed W w.heap.size 58 v ∧ W.ownsRow w.heap.size 60 2 v pre.length (pcs pre) ∧ True) ∧ Below w.heap.size w W)
    (fun _ _ _ => False)
    (OwnFrom.and (Own.from (holdsRow_own w.heap.size w.heap.size 58 60 2 (fun pre : List (Nat × Nat) => pre.length) pcs (fun _ _ => True)) _) (ownFrom_below (Nat.le_refl _) (by omega)))
    (fun _ _ _ _ _ hs _ _ => hs)
    ⟨⟨_, bL, World.ownsRow_nil _ _ _ _, trivial⟩, hBe⟩
    (fun x a' W => ∃ Bx, w.heap.size < Bx ∧ Row W Bx 60 2 (fun j => if j = 0 then .int .i64 x.1 else .int .i64 x.2) ∧ a' = { tmps := #[.slice A xs.length c, .slice B ys.length d, undef, undef, .slice none 0 0, .pointer (some ⟨w.heap.size, 0, none⟩), .pointer (some ⟨Bx, 0, none⟩), .slice A xs.length c, .slice B ys.length d, .func (.func 50) #[] #[.pointer (some ⟨w.heap.size + 1, 0, none⟩), .pointer (some ⟨w.heap.size + 1 + 1, 0, none⟩)], pv x, undef, undef, undef, undef, undef], defers := [] })
    (fun x a' _ X Y row hs hg hr => by
      obtain ⟨Bx, h1, h2, h3⟩ := hs
      refine ⟨Bx, h1, h2.grown hg (fun e => ?_), h3⟩
      obtain ⟨cs, hh, _⟩ := h2
      obtain ⟨o, ho, hc⟩ := (hr Bx e.symm).2
      rw [hh] at ho; cases ho; cases hc)
    ?assign ?body ?done ?stop
  case assign =>
    rintro l pre x W K ⟨⟨v, hv, hrow, _⟩, hB2⟩ hK
    simp only [pv]
    gi_wp2
    exact hK _ _ ((KeepsOthers.alloc _ _).from _) (KeepP.of_grown (World.grownBy_alloc W _ none) (fun _ e => by cases e)) ⟨⟨v, hv.alloc _, hrow.alloc _, trivial⟩, hB2.alloc hB2.size _⟩ ⟨W.heap.size, hv.lt, Row.two W _ _ _, rfl⟩
  case body =>
    rintro l pre x a' W hl ⟨r, hr⟩ ⟨⟨v, hv, hrow, _⟩, hB2⟩ ⟨Bx, hBx, bX, rfl⟩ hlt
    have hc := hv.cell
    have hf := hv.frozen
    have hx0 := bX.cell (k := 0) (by omega)
    have hx1 := bX.cell (k := 1) (by omega)
    simp only [if_true, Nat.one_ne_zero, if_false] at hx0 hx1
    have hsW := hB2.size
    clear hr
    gi_wp2_with (gi_at_builtin; refine wpListIn_append_own _ rfl _ _ 58 rfl w.heap.size 60 i0 _ 2 16 Try.underlying58 hi hz0 hz1 hz2 rfl (by decide) _ _ _ rfl (hrow.alloc _) ⟨W.heap.size, 0, none⟩ 1 1 [.int .i64 x.1, .int .i64 x.2] rfl rfl (cell_two _ _ _ _) (by simp [Value.oneCell']) (by unfold maxLen; omega) (by omega) (by simp; omega) ?_; intro v' w1 hown' hgrow _; obtain ⟨g', cap', rfl⟩ := ownsRow_succ hown'; obtain ⟨hv1, hv2, hr2, hk2, hb2⟩ := hv.appended (by decide) hrow hsW (Nat.le_refl _) hown' hgrow; have hc1 := hv1.cell; have hf1 := hv1.frozen; have HG := Kp.mk (KeepP.append hrow hgrow hv1 (Nat.le_refl _) (.slice (some ⟨g', 0, none⟩) (pre.length + 1) cap')))
    exact ⟨hk2.from _, HG.out, ⟨_, hv2, by simpa [pcs_snoc] using hr2, trivial⟩, hB2.trans hb2⟩
  case done =>
    rintro D zs W hD rfl ⟨⟨v, hv, hrow, _⟩, hB2⟩ hK
    have cL := hv.cell
    gi_wp2
    refine ⟨by simp, .inl ⟨_, _, rfl, run_takeDeferred hK, ?_⟩⟩
    exact ⟨_, results_tmp rfl _ _ _, _, rfl, ownsRow_putObj hrow _ hK rfl, hB2.trans (belowK_b (w := w) (Nat.le_refl _) W D _ _ (by omega) hK rfl rfl)⟩
  case stop =>
    rintro D c pre W _ _ h _
    exact h.elim

/-- A slice of pairs that reads as a list. -/
def SlP (B : Nat) (w : World) (A : Option Addr) (l : List (Nat × Nat)) : Prop := Sl 60 B w A (pcs l).length (fun j => (pcs l).getD j undef)
theorem pcs_length (l : List (Nat × Nat)) : (pcs l).length = l.length * 2 := by
  induction l with
  | nil => rfl
  | cons x l ih => simp [pcs] at ih ⊢; omega
theorem pcs_at (l : List (Nat × Nat)) : ∀ k (h : k < l.length), (pcs l)[k * 2]? = some (.int .i64 l[k].1) ∧ (pcs l)[k * 2 + 1]? = some (.int .i64 l[k].2) := by
  induction l with
  | nil => intro k h; simp at h
  | cons x l ih =>
    intro k h
    cases k with
    | zero => simp [pcs]
    | succ k =>
      have h1 := ih k (by simpa using h)
      have e : pcs (x :: l) = .int .i64 x.1 :: .int .i64 x.2 :: pcs l := by simp [pcs]
      rw [e, show (k + 1) * 2 = k * 2 + 1 + 1 from by omega]
      simpa using h1
theorem SlP.at_ {B : Nat} {w : World} {A : Option Addr} {l : List (Nat × Nat)} (h : SlP B w A l) (hn : 0 < l.length) :
    ∃ g o, A = some ⟨g, o, none⟩ ∧ g < w.heap.size ∧ ∀ k (hk : k < l.length), w.cell? ⟨g, o + k * 2, none⟩ = some (.int .i64 l[k].1) ∧ w.cell? ⟨g, o + k * 2 + 1, none⟩ = some (.int .i64 l[k].2) := by
  have hl := pcs_length l
  obtain ⟨g, o, e, hb, _, hc⟩ := Sl.at3 h (by omega)
  refine ⟨g, o, e, hb, fun k hk => ?_⟩
  obtain ⟨h1, h2⟩ := pcs_at l k hk
  refine ⟨?_, ?_⟩
  · rw [hc _ (by omega), List.getD_eq_getElem?_getD, h1]; rfl
  · rw [Nat.add_assoc, hc _ (by omega), List.getD_eq_getElem?_getD, h2]; rfl
theorem pairs_any (xs ys : List ByteArray) (A B : Option Addr) (c d : Nat) (w : World) (hA : SlS w.heap.size w A xs) (hB : SlS w.heap.size w B ys)
    (hn : xs.length ≤ 100000) (hm : ys.length ≤ 100000) :
    Calls Try.prog 40 #[.slice A xs.length c, .slice B ys.length d] w fun e w' => ∃ C k, e = .returned (.slice C (Qm.pairs xs ys 0 0).length k) ∧
      SlP w.heap.size w' C (Qm.pairs xs ys 0 0) ∧ Below w.heap.size w w' :=
  (callsIn_wide.1 (pairs_in xs ys A B c d w hA hB hn hm)).mono fun e w' ⟨v, he, hown, hb⟩ => by
    have hN : (Qm.pairs xs ys 0 0).length ≤ 100000 := Nat.le_trans (Qm.pairs_le_left xs ys 0 0) (by omega)
    obtain ⟨C, k, rfl, _, _, hsl⟩ := Sl.of_own (B := w.heap.size) hown (by rw [pcs_length]; omega)
    exact ⟨C, k, he, hsl, hb⟩
end Go.Proofs.Ytkggedmcdllnaaa
