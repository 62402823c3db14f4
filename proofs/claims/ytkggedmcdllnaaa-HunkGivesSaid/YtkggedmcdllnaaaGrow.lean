/- slices.Grow from nothing, slices.Concat of three. -/
import Derived.Deep.QuietTactic
import Derived.BigQuiet
import Derived.Deep.DeepCutAuto
import Derived.Deep.LoopGhost
import Derived.Deep.RegionWith
import Derived.RegionTactic
import Derived.BigRegion
import Derived.ChangeAlike
import Derived.Lib.AppendZeros
import Derived.Test.YtkggedmcdllnaaaLaw
namespace Go.Proofs.Ytkggedmcdllnaaa
open Go.RowKit
open Go.Lib

/-- Room made for so many lines: a row of the call's own, without elements yet. -/
theorem grow_any (n : Nat) (w : World) (hn : n ≤ 1000000) :
    Calls Try.prog 46 #[.slice none 0 0, .int .i64 n] w fun e w' => ∃ v, e = .returned v ∧ w'.ownsRow w.heap.size 9 1 v 0 (scs []) ∧ Below w.heap.size w w' := by
  rcases Nat.eq_zero_or_pos n with h0 | h0
  · subst h0
    go_enter Try.func46, Try.ntmps46
    go_wp2
    go_ret
    exact ⟨_, rfl, World.ownsRow_nil _ _ _ _, Below.refl _ _⟩
  · obtain ⟨i, hi, hz0, hz1, hz2⟩ := info_parts Try.info_str
    have hrun := run_append_nil_zeros (P := Try.prog) w 22 3 22 9 i _ .i64 .i64 Try.underlying22 Try.underlying3 hi hz0 n h0 (by omega) (by omega) (by rw [hz2]; omega)
    obtain ⟨cap, hcap⟩ : ∃ cap, grownCap w n 0 9 = cap := ⟨_, rfl⟩
    have hge := grownCap_ge w n 0 9
    have hle := grownCap_le_maxLen w n 0 9 (by simp only [maxLen]; omega)
    rw [hcap] at hrun hge hle
    clear hcap
    simp only [maxLen] at hle
    have hn1 : ¬ ((n : Int) < 0) := by omega
    have hn2 : (0 : Int) < n := by omega
    go_enter Try.func46, Try.ntmps46
    go_wp2_with (at_builtin; refine Lib.wpList_append_run _ rfl (.tmp 20) (.tmp 21) 22 3 rfl (.slice none 0 0) (.int .i64 n) rfl rfl _ _ hrun ?_)
    go_ret
    refine ⟨_, rfl, ⟨by simp [scs], .inr ⟨_, cap, _, rfl, Nat.le_refl _, heap_alloc_new _ _, Nat.zero_le _, by simpa [maxLen] using hle, ?_, by simp [scs]⟩⟩, (Below.refl _ w).drew.alloc (Nat.le_refl _) _⟩
    simp [size_zeroCells]
    omega

theorem grow_at (n : Nat) (z : Int) (w : World) (hz : z = n) (hn : n ≤ 1000000) :
    Calls Try.prog 46 #[.slice none 0 0, .int .i64 z] w fun e w' => ∃ v, e = .returned v ∧ w'.ownsRow w.heap.size 9 1 v 0 (scs []) ∧ Below w.heap.size w w' := by
  subst hz
  exact grow_any n w hn

/-- Three lists of lines, one behind the other. -/
theorem concat_any (g : Nat) (A0 A1 A2 : Option Addr) (n0 n1 n2 c0 c1 c2 k : Nat) (x0 x1 x2 : List ByteArray) (w : World) (hg : g < w.heap.size)
    (e0 : w.cell? ⟨g, 0, none⟩ = some (.slice A0 n0 c0)) (e1 : w.cell? ⟨g, 1, none⟩ = some (.slice A1 n1 c1)) (e2 : w.cell? ⟨g, 2, none⟩ = some (.slice A2 n2 c2))
    (h0 : n0 = x0.length) (h1 : n1 = x1.length) (h2 : n2 = x2.length) (l0 : x0.length ≤ 100000) (l1 : x1.length ≤ 100000) (l2 : x2.length ≤ 100000)
    (s0 : SlS w.heap.size w A0 x0) (s1 : SlS w.heap.size w A1 x1) (s2 : SlS w.heap.size w A2 x2) :
    Calls Try.prog 38 #[.slice (some ⟨g, 0, none⟩) 3 k] w fun e w' => ∃ v, e = .returned v ∧ w'.ownsRow w.heap.size 9 1 v (x0 ++ x1 ++ x2).length (scs (x0 ++ x1 ++ x2)) ∧ Below w.heap.size w w' := by
  subst h0 h1 h2
  go_enter Try.func38, Try.ntmps38
  go_wp2
  refine wp_loop_rounds 4 ?_
  rw [rounds_succ]
  go_wp2
  rw [rounds_succ]
  go_wp2
  rw [rounds_succ]
  go_wp2
  rw [rounds_succ]
  go_wp2_with (go_at_call 46; refine (grow_at (x0.length + x1.length + x2.length) _ w (by omega) (by omega)).mono ?_; rintro e w1 ⟨v, rfl, hown, hb⟩)
  have f0 := (hb.cell (p := ⟨g, 0, none⟩) hg).trans e0
  have f1 := (hb.cell (p := ⟨g, 1, none⟩) hg).trans e1
  have f2 := (hb.cell (p := ⟨g, 2, none⟩) hg).trans e2
  refine wp_loop_rounds 4 ?_
  rw [rounds_succ]
  go_wp2_with (at_builtin; refine wpList_append_strs rfl (.tmp 31) (.tmp 32) 22 rfl Try.underlying22 w.heap.size v 0 [] rfl hown A0 _ _ x0 _ rfl rfl (s0.later hb) (by simp; omega) hb.size hb ?_; intro v2 w2 hown2 hb2 _)
  clear f0 f1 f2
  have f1 := (hb2.cell (p := ⟨g, 1, none⟩) hg).trans e1
  have f2 := (hb2.cell (p := ⟨g, 2, none⟩) hg).trans e2
  rw [rounds_succ]
  go_wp2_with (at_builtin; refine wpList_append_strs rfl (.tmp 31) (.tmp 32) 22 rfl Try.underlying22 w.heap.size v2 _ _ rfl hown2 A1 _ _ x1 _ rfl rfl (s1.later hb2) (by simp; omega) hb2.size hb2 ?_; intro v3 w3 hown3 hb3 _)
  clear f1 f2
  have f2 := (hb3.cell (p := ⟨g, 2, none⟩) hg).trans e2
  rw [rounds_succ]
  go_wp2_with (at_builtin; refine wpList_append_strs rfl (.tmp 31) (.tmp 32) 22 rfl Try.underlying22 w.heap.size v3 _ _ rfl hown3 A2 _ _ x2 _ rfl rfl (s2.later hb3) (by simp; omega) hb3.size hb3 ?_; intro v4 w4 hown4 hb4 _)
  rw [rounds_succ]
  go_wp2
  go_ret
  rw [List.nil_append] at hown4
  exact ⟨_, rfl, hown4, hb4⟩
end Go.Proofs.Ytkggedmcdllnaaa
