/- LcsStep: one line more, at the end of both, is one more in common; at the end of one it is at most one more: the walk of the law. -/
import Derived.Test.YtanhdcpmflmggaaAwake3
import Derived.Test.YtanhdcpmflmggaaLight
namespace Go.Proofs.Ytanhdcpmflmggaa
open Go.RowKit

set_option maxRecDepth 100000 in
set_option maxHeartbeats 1000000 in
theorem lcsStep_any (xs : List ByteArray) (A : Option Addr) (c : Nat) (ys : List ByteArray) (B : Option Addr) (d : Nat) (s : ByteArray) (w : World)
    (_ : xs.length ≤ c) (_ : c ≤ 9223372036854775807) (hxs : SlS w.heap.size w A xs) (_ : ys.length ≤ d) (_ : d ≤ 9223372036854775807) (hys : SlS w.heap.size w B ys) (_ : s.size ≤ maxLen) :
    Calls Try.prog 7 #[.slice A xs.length c, .slice B ys.length d, .string s] w fun e w' => e = .returned (.bool true) ∧ Below w.heap.size w w' := by
  have hw := awake_any w
  obtain ⟨bxs, hbxs⟩ : ∃ b, light xs 60 = b := ⟨_, rfl⟩
  obtain ⟨bys, hbys⟩ : ∃ b, light ys 60 = b := ⟨_, rfl⟩
  have Hbxs := Kp.mk hbxs
  have Hbys := Kp.mk hbys
  have HW := Kp.mk hw
  clear hw
  by_cases hall : bxs = true ∧ bys = true
  · obtain ⟨rfl, rfl⟩ := hall
    have hnxs := light_len Hbxs.out
    clear hbxs
    have hnys := light_len Hbys.out
    clear hbys
    by_cases hsb : 200 < s.size
    · go_enter Try.func7, Try.ntmps7
      go_wp2_with fail
      refine HW.out.mono ?_
      rintro e w1 ⟨rfl, hb1⟩
      have hxs1 := hxs.below hb1
      have hys1 := hys.below hb1
      go_wp2_with fail
      refine (light_any xs A c 60 w1 hxs1.wide).mono ?_
      rintro e w2 ⟨rfl, rfl⟩
      rw [Hbxs.out]
      go_wp2_with fail
      refine (light_any ys B d 60 w1 hys1.wide).mono ?_
      rintro e w2 ⟨rfl, rfl⟩
      rw [Hbys.out]
      go_wp2_with fail
      go_ret
      exact ⟨rfl, hb1⟩
    go_enter Try.func7, Try.ntmps7
    go_wp2_with fail
    refine HW.out.mono ?_
    rintro e w1 ⟨rfl, hb1⟩
    have hxs1 := hxs.below hb1
    have hys1 := hys.below hb1
    go_wp2_with fail
    refine (light_any xs A c 60 w1 hxs1.wide).mono ?_
    rintro e w2 ⟨rfl, rfl⟩
    rw [Hbxs.out]
    go_wp2_with fail
    refine (light_any ys B d 60 w1 hys1.wide).mono ?_
    rintro e w2 ⟨rfl, rfl⟩
    rw [Hbys.out]
    have hz1 := hb1.size
    have hX := hxs.later hb1
    have hY := hys.later hb1
    obtain ⟨n, hn⟩ : ∃ n, tab xs ys 0 0 = n := ⟨_, rfl⟩
    have ln := tab_left xs ys
    rw [hn] at ln
    have n0 : 0 ≤ n := by rw [← hn]; exact tab_lo _ _ _ _
    obtain ⟨one, hone⟩ : ∃ one, tab (xs ++ [s]) ys 0 0 = one := ⟨_, rfl⟩
    have hor : one = n ∨ one = n + 1 := by rw [← hone, ← hn]; exact tab_grow xs ys s
    have HN := Kp.mk hn
    have HO := Kp.mk hone
    clear hn hone
    go_wp2_with fail
    refine (many_at xs ys A B _ _ c d w w1 hb1 hX hY (by omega) (by omega) n HN.out rfl rfl).mono ?_
    rintro e w2 ⟨rfl, hb2, k2⟩
    have hz2 := hb2.size
    have hX2 := hxs.later hb2
    clear hxs1 hys1
    go_wp2_with (first
      | (at_builtin; refine wpList_append_strs rfl (.const (.slice none 0 0)) (.tmp 38) 22 rfl Try.underlying22 w.heap.size _ 0 [] rfl (World.ownsRow_nil _ _ _ _) _ _ _ xs _ rfl rfl hX2 (by simp; omega) hz2 hb2 ?_; intro v3 w3 hown3 hb3 _; have hz3 := hb3.size)
      | (at_builtin; refine wpList_append_strs rfl (.tmp 39) (.tmp 41) 22 rfl Try.underlying22 w.heap.size _ _ _ rfl (hown3.alloc _) _ _ _ [s] w.heap.size rfl rfl (SlS.lit w.heap.size w3 [s] #[.string s] rfl (by simp)) (by simp; omega) (by simp; omega) (hb3.alloc hz3 _) ?_; intro v4 w4 hown4 hb4 _; have hz4 := hb4.size; have hY4 := hys.later hb4; obtain ⟨D, e, rfl, _, _, hM⟩ := SlS.of_own (B := w.heap.size) hown4 (by simp; omega); have hMw := hM.wide)
      | (at_builtin; refine wpList_append_strs rfl (.const (.slice none 0 0)) (.tmp 43) 22 rfl Try.underlying22 w4.heap.size _ 0 [] rfl (World.ownsRow_nil _ _ _ _) _ _ _ ys _ rfl rfl hY4 (by simp; omega) (Nat.le_refl _) (Below.refl _ w4) ?_; intro v5 w5 hown5 hb5 _; have hz5 := hb5.size)
      | (at_builtin; refine wpList_append_strs rfl (.tmp 44) (.tmp 46) 22 rfl Try.underlying22 w4.heap.size _ _ _ rfl (hown5.alloc _) _ _ _ [s] w4.heap.size rfl rfl (SlS.lit w4.heap.size w5 [s] #[.string s] rfl (by simp)) (by simp; omega) (by simp; omega) (hb5.alloc hz5 _) ?_; intro v6 w6 hown6 hb6 _; have hz6 := hb6.size; obtain ⟨E, f, rfl, _, _, hN⟩ := SlS.of_own (B := w4.heap.size) hown6 (by simp; omega))
      | fail)
    have hb6' : Below w.heap.size w w6 := hb4.trans (hb6.mono hz4)
    have hM6 := hM.below hb6
    clear hown3 hown4 hown5 hown6
    refine (many_at (xs ++ [s]) ys D B _ _ _ d w w6 hb6' hM6.wide (hys.later hb6') (by simp; omega) (by omega) one HO.out (by simp) rfl).mono ?_
    rintro e w7 ⟨rfl, hb7, k7⟩
    have hM7 := hM6.below k7
    have hN7 := hN.below k7
    go_wp2_with fail
    refine (many_at (xs ++ [s]) (ys ++ [s]) D E _ _ _ _ w w7 hb7 hM7.wide hN7.wide (by simp; omega) (by simp; omega) (n + 1) ((tab_step xs ys s).trans (by rw [HN.out])) (by simp) (by simp)).mono ?_
    rintro e w8 ⟨rfl, hb8, k8⟩
    have HOR := Kp.mk hor
    by_cases ho : one = n
    · have d1 : (one == n) = true := beq_iff_eq.2 ho
      clear ho hor
      go_wp2
      go_ret
      exact ⟨rfl, hb8⟩
    · have d1 : (one == n) = false := beq_eq_false_iff_ne.2 ho
      have d2 : (one == n + 1) = true := beq_iff_eq.2 (HOR.out.resolve_left ho)
      clear ho hor
      go_wp2
      go_ret
      exact ⟨rfl, hb8⟩
  · have hbb : (bxs = false) ∨ (bxs = true ∧ bys = false) := by
      cases bxs <;> cases bys <;> simp_all
    clear hall hbxs hbys
    rcases hbb with rfl | ⟨rfl, rfl⟩
    all_goals
      go_enter Try.func7, Try.ntmps7
      go_wp2_with fail
      refine HW.out.mono ?_
      rintro e w1 ⟨rfl, hb1⟩
      have hxs1 := hxs.below hb1
      have hys1 := hys.below hb1
      go_wp2_with fail
      refine (light_any xs A c 60 w1 hxs1.wide).mono ?_
      rintro e w2 ⟨rfl, rfl⟩
      rw [Hbxs.out]
      go_wp2_with fail
      refine (light_any ys B d 60 w1 hys1.wide).mono ?_
      rintro e w2 ⟨rfl, rfl⟩
      rw [Hbys.out]
      go_wp2_with fail
      go_ret
      exact ⟨rfl, hb1⟩
end Go.Proofs.Ytanhdcpmflmggaa
