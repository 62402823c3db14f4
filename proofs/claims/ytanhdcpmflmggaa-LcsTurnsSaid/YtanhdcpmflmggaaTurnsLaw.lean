/- LcsTurns: two lists have as much in common the other way round; a list has all in common with itself, and with one that has more: the walk of the law. -/
import Derived.Test.YtanhdcpmflmggaaAwake3
import Derived.Test.YtanhdcpmflmggaaLight
namespace Go.Proofs.Ytanhdcpmflmggaa
open Go.RowKit

set_option maxRecDepth 100000 in
set_option maxHeartbeats 1000000 in
theorem lcsTurns_any (xs : List ByteArray) (A : Option Addr) (c : Nat) (ys : List ByteArray) (B : Option Addr) (d : Nat) (zs : List ByteArray) (C : Option Addr) (k : Nat) (w : World)
    (_ : xs.length ≤ c) (_ : c ≤ 9223372036854775807) (hxs : SlS w.heap.size w A xs) (_ : ys.length ≤ d) (_ : d ≤ 9223372036854775807) (hys : SlS w.heap.size w B ys) (_ : zs.length ≤ k) (_ : k ≤ 9223372036854775807) (hzs : SlS w.heap.size w C zs) :
    Calls Try.prog 6 #[.slice A xs.length c, .slice B ys.length d, .slice C zs.length k] w fun e w' => e = .returned (.bool true) ∧ Below w.heap.size w w' := by
  have hw := awake_any w
  obtain ⟨bxs, hbxs⟩ : ∃ b, light xs 60 = b := ⟨_, rfl⟩
  obtain ⟨bys, hbys⟩ : ∃ b, light ys 60 = b := ⟨_, rfl⟩
  obtain ⟨bzs, hbzs⟩ : ∃ b, light zs 60 = b := ⟨_, rfl⟩
  have Hbxs := Kp.mk hbxs
  have Hbys := Kp.mk hbys
  have Hbzs := Kp.mk hbzs
  have HW := Kp.mk hw
  clear hw
  by_cases hall : bxs = true ∧ bys = true ∧ bzs = true
  · obtain ⟨rfl, rfl, rfl⟩ := hall
    have hnxs := light_len Hbxs.out
    clear hbxs
    have hnys := light_len Hbys.out
    clear hbys
    have hnzs := light_len Hbzs.out
    clear hbzs
    go_enter Try.func6, Try.ntmps6
    go_wp2_with fail
    refine HW.out.mono ?_
    rintro e w1 ⟨rfl, hb1⟩
    have hxs1 := hxs.below hb1
    have hys1 := hys.below hb1
    have hzs1 := hzs.below hb1
    go_wp2_with fail
    refine (light_any xs A c 60 w1 hxs1.wide).mono ?_
    rintro e w2 ⟨rfl, rfl⟩
    rw [Hbxs.out]
    go_wp2_with fail
    refine (light_any ys B d 60 w1 hys1.wide).mono ?_
    rintro e w2 ⟨rfl, rfl⟩
    rw [Hbys.out]
    go_wp2_with fail
    refine (light_any zs C k 60 w1 hzs1.wide).mono ?_
    rintro e w2 ⟨rfl, rfl⟩
    rw [Hbzs.out]
    have hz1 := hb1.size
    have hX := hxs.later hb1
    have hY := hys.later hb1
    have hZ := hzs.later hb1
    clear hxs1 hys1 hzs1
    go_wp2_with (first
      | (at_builtin; refine wpList_append_strs rfl (.const (.slice none 0 0)) (.tmp 34) 22 rfl Try.underlying22 w.heap.size _ 0 [] rfl (World.ownsRow_nil _ _ _ _) _ _ _ ys _ rfl rfl hY (by simp; omega) hz1 hb1 ?_; intro v2 w2 hown2 hb2 _; have hX2 := hxs.later hb2; have hz2 := hb2.size)
      | (at_builtin; refine wpList_append_strs rfl (.tmp 35) (.tmp 36) 22 rfl Try.underlying22 w.heap.size _ _ _ rfl hown2 _ _ _ xs _ rfl rfl hX2 (by simp; omega) hz2 hb2 ?_; intro v3 w3 hown3 hb3 _; have hZ3 := hzs.later hb3; have hz3 := hb3.size)
      | (at_builtin; refine wpList_append_strs rfl (.tmp 37) (.tmp 38) 22 rfl Try.underlying22 w.heap.size _ _ _ rfl hown3 _ _ _ zs _ rfl rfl hZ3 (by simp; omega) hz3 hb3 ?_; intro v4 w4 hown4 hb4 _; obtain ⟨D, e, rfl, _, _, hM⟩ := SlS.of_own (B := w.heap.size) hown4 (by simp; omega))
      | fail)
    obtain ⟨n, hn⟩ : ∃ n, tab xs ys 0 0 = n := ⟨_, rfl⟩
    have ln := tab_left xs ys
    have rn := tab_right_le xs ys
    rw [hn] at ln rn
    have n0 : 0 ≤ n := by rw [← hn]; exact tab_lo _ _ _ _
    have HN := Kp.mk hn
    clear hn hown2 hown3 hown4
    refine (many_at xs ys A B _ _ c d w w4 hb4 (hxs.later hb4) (hys.later hb4) (by omega) (by omega) n HN.out rfl rfl).mono ?_
    rintro e w5 ⟨rfl, hb5, k5⟩
    have hM5 := hM.below k5
    go_wp2_with fail
    refine (many_at ys xs B A _ _ d c w w5 hb5 (hys.later hb5) (hxs.later hb5) (by omega) (by omega) n ((tab_comm xs ys).trans HN.out) rfl rfl).mono ?_
    rintro e w6 ⟨rfl, hb6, k6⟩
    have hM6 := hM5.below k6
    go_wp2_with fail
    refine (many_at xs xs A A _ _ c c w w6 hb6 (hxs.later hb6) (hxs.later hb6) (by omega) (by omega) _ (tab_self xs) rfl rfl).mono ?_
    rintro e w7 ⟨rfl, hb7, k7⟩
    have hM7 := hM6.below k7
    go_wp2_with fail
    refine (many_at xs (ys ++ xs ++ zs) A D _ _ c _ w w7 hb7 (hxs.later hb7) hM7.wide (by omega) (by simp; omega) _ (tab_more xs ys zs) rfl (by simp)).mono ?_
    rintro e w8 ⟨rfl, hb8, k8⟩
    go_wp2_with fail
    refine (many_at xs ys A B _ _ c d w w8 hb8 (hxs.later hb8) (hys.later hb8) (by omega) (by omega) n HN.out rfl rfl).mono ?_
    rintro e w9 ⟨rfl, hb9, k9⟩
    go_wp2_with fail
    refine (many_at xs ys A B _ _ c d w w9 hb9 (hxs.later hb9) (hys.later hb9) (by omega) (by omega) n HN.out rfl rfl).mono ?_
    rintro e w10 ⟨rfl, hb10, k10⟩
    have dl : decide (n ≤ (xs.length : Int)) = true := decide_eq_true ln
    have dr : decide (n ≤ (ys.length : Int)) = true := decide_eq_true rn
    go_wp2
    go_ret
    exact ⟨rfl, hb10⟩
  · have hbb : (bxs = false) ∨ (bxs = true ∧ bys = false) ∨ (bxs = true ∧ bys = true ∧ bzs = false) := by
      cases bxs <;> cases bys <;> cases bzs <;> simp_all
    clear hall hbxs hbys hbzs
    rcases hbb with rfl | ⟨rfl, rfl⟩ | ⟨rfl, rfl, rfl⟩
    all_goals
      go_enter Try.func6, Try.ntmps6
      go_wp2_with fail
      refine HW.out.mono ?_
      rintro e w1 ⟨rfl, hb1⟩
      have hxs1 := hxs.below hb1
      have hys1 := hys.below hb1
      have hzs1 := hzs.below hb1
      go_wp2_with fail
      refine (light_any xs A c 60 w1 hxs1.wide).mono ?_
      rintro e w2 ⟨rfl, rfl⟩
      rw [Hbxs.out]
      go_wp2_with fail
      refine (light_any ys B d 60 w1 hys1.wide).mono ?_
      rintro e w2 ⟨rfl, rfl⟩
      rw [Hbys.out]
      go_wp2_with fail
      refine (light_any zs C k 60 w1 hzs1.wide).mono ?_
      rintro e w2 ⟨rfl, rfl⟩
      rw [Hbzs.out]
      go_wp2_with fail
      go_ret
      exact ⟨rfl, hb1⟩
end Go.Proofs.Ytanhdcpmflmggaa
