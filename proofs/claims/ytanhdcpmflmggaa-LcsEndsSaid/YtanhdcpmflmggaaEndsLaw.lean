/- LcsEnds: what two lists have in common in front, and behind, they have in common; the rest between adds to it just what it has: the walk of the law. -/
import Derived.Test.YtanhdcpmflmggaaAwake3
import Derived.Test.YtanhdcpmflmggaaLight
import Derived.Test.YtanhdcpmflmggaaEnds
namespace Go.Proofs.Ytanhdcpmflmggaa
open Go.RowKit

theorem tab_ends (xs ys : List ByteArray) : tab xs ys 0 0 = (com xs ys : Nat) + (bak xs ys : Nat) + tab ((xs.take (xs.length - bak xs ys)).drop (com xs ys)) ((ys.take (ys.length - bak xs ys)).drop (com xs ys)) 0 0 := by
  obtain ⟨h1, h2, h3⟩ := bak_tail xs ys
  have hf := com_take xs ys _ (Nat.le_refl _)
  have hl := com_le xs ys
  obtain ⟨f, ef⟩ : ∃ f, com xs ys = f := ⟨_, rfl⟩
  obtain ⟨k, ek⟩ : ∃ k, bak xs ys = k := ⟨_, rfl⟩
  rw [ef, ek] at h1 h2 ⊢
  rw [ek] at h3
  rw [ef] at hf hl
  have hx := list_ends xs f k h1
  have hy := list_ends ys f k h2
  unfold tab
  rw [List.drop_zero, List.drop_zero, List.drop_zero, List.drop_zero]
  have hq : Qm.lcs xs ys = f + k + Qm.lcs ((xs.take (xs.length - k)).drop f) ((ys.take (ys.length - k)).drop f) := by
    have e1 : Qm.lcs xs ys = Qm.lcs (xs.take f ++ (xs.take (xs.length - k)).drop f ++ xs.drop (xs.length - k)) (ys.take f ++ (ys.take (ys.length - k)).drop f ++ ys.drop (ys.length - k)) := by rw [← hx, ← hy]
    rw [e1, h3, Qm.lcs_suffix, hf, Qm.lcs_prefix, List.length_take, List.length_drop]
    omega
  rw [hq]
  omega

set_option maxRecDepth 100000 in
set_option maxHeartbeats 1000000 in
theorem lcsEnds_any (xs : List ByteArray) (A : Option Addr) (c : Nat) (ys : List ByteArray) (B : Option Addr) (d : Nat) (w : World)
    (_ : xs.length ≤ c) (_ : c ≤ 9223372036854775807) (hxs : SlS w.heap.size w A xs) (_ : ys.length ≤ d) (_ : d ≤ 9223372036854775807) (hys : SlS w.heap.size w B ys) :
    Calls Try.prog 8 #[.slice A xs.length c, .slice B ys.length d] w fun e w' => e = .returned (.bool true) ∧ Below w.heap.size w w' := by
  have hw := awake_any w
  obtain ⟨bxs, hbxs⟩ : ∃ b, light xs 60 = b := ⟨_, rfl⟩
  obtain ⟨bys, hbys⟩ : ∃ b, light ys 60 = b := ⟨_, rfl⟩
  have Hbxs := Kp.mk hbxs
  have Hbys := Kp.mk hbys
  have HW := Kp.mk hw
  clear hw
  by_cases hall : bxs = true ∧ bys = true
  · obtain ⟨rfl, rfl⟩ := hall
    have hnxs := light_len Hbxs.out
    clear hbxs
    have hnys := light_len Hbys.out
    clear hbys
    go_enter Try.func8, Try.ntmps8
    go_wp2_with fail
    refine HW.out.mono ?_
    rintro e w1 ⟨rfl, hb1⟩
    have hxs1 := hxs.below hb1
    have hys1 := hys.below hb1
    go_wp2_with fail
    refine (light_any xs A c 60 w1 hxs1.wide).mono ?_
    rintro e w2 ⟨rfl, rfl⟩
    rw [Hbxs.out]
    go_wp2_with fail
    refine (light_any ys B d 60 w1 hys1.wide).mono ?_
    rintro e w2 ⟨rfl, rfl⟩
    rw [Hbys.out]
    obtain ⟨k1, k2, _⟩ := bak_tail xs ys
    have kt := tab_ends xs ys
    have hF : ∀ W : World, Below w.heap.size w W → Calls Try.prog 16 #[.slice A xs.length c, .slice B ys.length d] W fun e w' => e = .returned (.int .i64 (com xs ys : Nat)) ∧ Below W.heap.size W w' :=
      fun W hW => Front_any xs ys A B c d W (hxs.later hW) (hys.later hW) (by omega)
    have hG : ∀ W : World, Below w.heap.size w W → Calls Try.prog 17 #[.slice A xs.length c, .slice B ys.length d] W fun e w' => e = .returned (.int .i64 (bak xs ys : Nat)) ∧ Below W.heap.size W w' :=
      fun W hW => Back_any xs ys A B c d W (by omega) (by omega) (hxs.later hW) (hys.later hW) (by omega) (by omega)
    obtain ⟨f, ef⟩ : ∃ f, com xs ys = f := ⟨_, rfl⟩
    obtain ⟨k, ek⟩ : ∃ k, bak xs ys = k := ⟨_, rfl⟩
    rw [ef] at k1 k2 kt hF
    rw [ek] at k1 k2 kt hG
    obtain ⟨t, et⟩ : ∃ t, tab ((xs.take (xs.length - k)).drop f) ((ys.take (ys.length - k)).drop f) 0 0 = t := ⟨_, rfl⟩
    rw [et] at kt
    have t1 := tab_lo ((xs.take (xs.length - k)).drop f) ((ys.take (ys.length - k)).drop f) 0 0
    have t2 := tab_left ((xs.take (xs.length - k)).drop f) ((ys.take (ys.length - k)).drop f)
    have t3 : ((xs.take (xs.length - k)).drop f).length ≤ 100 := by simp; omega
    have t4 : ((ys.take (ys.length - k)).drop f).length ≤ 100 := by simp; omega
    have e1 : xs.length - k - f = ((xs.take (xs.length - k)).drop f).length := by simp
    have e2 : ys.length - k - f = ((ys.take (ys.length - k)).drop f).length := by simp
    rw [et] at t1 t2
    have t5 : t ≤ 100 := by omega
    have kt' : tab xs ys 0 0 = (f : Int) + (k : Int) + t := kt
    have HF := Kp.mk hF
    have HG := Kp.mk hG
    have HT := Kp.mk kt'
    have HE := Kp.mk et
    have HE1 := Kp.mk e1
    have HE2 := Kp.mk e2
    have HT3 := Kp.mk (Nat.le_trans t3 (by decide : 100 ≤ 100000))
    have HT4 := Kp.mk (Nat.le_trans t4 (by decide : 100 ≤ 100000))
    clear hF hG kt kt' et ef ek t2 t3 t4 e1 e2
    clear hxs1 hys1
    go_wp2_with fail
    refine (HF.out w1 hb1).mono ?_
    rintro e w2 ⟨rfl, kb2⟩
    have hb2 := hb1.trans (kb2.mono hb1.size)
    clear kb2
    go_wp2_with fail
    refine (HG.out w2 hb2).mono ?_
    rintro e w3 ⟨rfl, kb3⟩
    have hb3 := hb2.trans (kb3.mono hb2.size)
    clear kb3
    have hX := hxs.later hb3
    have hY := hys.later hb3
    have hX2 := (hX.take (k := xs.length - k) (by omega)).cut (k := f) (c := c) (by simp; omega) (by simp; omega)
    have hY2 := (hY.take (k := ys.length - k) (by omega)).cut (k := f) (c := d) (by simp; omega) (by simp; omega)
    obtain ⟨S1, g1⟩ : ∃ S, (if c = f then A else A.map (fun x => x.add f)) = S := ⟨_, rfl⟩
    obtain ⟨S2, g2⟩ : ∃ S, (if d = f then B else B.map (fun x => x.add f)) = S := ⟨_, rfl⟩
    rw [g1] at hX2
    rw [g2] at hY2
    have i1 : (f : Int) + (k : Int) ≤ xs.length := by omega
    have i2 : (f : Int) + (k : Int) ≤ ys.length := by omega
    have i3 : k ≤ xs.length := by omega
    have i4 : k ≤ ys.length := by omega
    have i5 : (xs.length : Int) - (k : Int) ≤ c := by omega
    have i6 : (ys.length : Int) - (k : Int) ≤ d := by omega
    have i7 : f ≤ xs.length - k := by omega
    have i8 : f ≤ ys.length - k := by omega
    have v1 : IntKind.i64.wrap ((f : Int) + (k : Int)) = (f : Int) + (k : Int) := IntWalk.i64_in _ (by omega)
    have v2 : IntKind.i64.wrap ((xs.length : Int) - (k : Int)) = (xs.length : Int) - (k : Int) := IntWalk.i64_in _ (by omega)
    have v3 : IntKind.i64.wrap ((ys.length : Int) - (k : Int)) = (ys.length : Int) - (k : Int) := IntWalk.i64_in _ (by omega)
    have v4 : IntKind.i64.wrap ((f : Int) + (k : Int) + t) = (f : Int) + (k : Int) + t := IntWalk.i64_in _ (by omega)
    have v5 : ((xs.length : Int) - (k : Int)).toNat = xs.length - k := by omega
    have v6 : ((ys.length : Int) - (k : Int)).toNat = ys.length - k := by omega
    have v7 : ((f : Int) + (k : Int) + t == (f : Int) + (k : Int) + t) = true := by simp
    go_wp2
    go_region_with (first
      | (go_at_call_of 14 A; refine (many_at xs ys A B _ _ c d _ _ (Below.refl _ _) hX.drew hY.drew (by omega) (by omega) _ HT.out rfl rfl).mono ?_; rintro e w4 ⟨rfl, hb4, _⟩; have hX4 := hX2.drew.later hb4; have hY4 := hY2.drew.later hb4)
      | (go_at_call 14; refine (many_at _ _ S1 S2 _ _ _ _ _ _ (Below.refl _ _) hX4 hY4 HT3.out HT4.out t HE.out HE1.out HE2.out).mono ?_; rintro e w5 ⟨rfl, hb5, _⟩))
    go_wp2
    go_ret
    have hz4 := hb4.size
    have hz3 := hb3.size
    exact ⟨rfl, hb3.trans (((Below.refl _ w3).drew.trans (hb4.trans (hb5.mono hz4))).mono hz3)⟩
  · have hbb : (bxs = false) ∨ (bxs = true ∧ bys = false) := by
      cases bxs <;> cases bys <;> simp_all
    clear hall hbxs hbys
    rcases hbb with rfl | ⟨rfl, rfl⟩
    all_goals
      go_enter Try.func8, Try.ntmps8
      go_wp2_with fail
      refine HW.out.mono ?_
      rintro e w1 ⟨rfl, hb1⟩
      have hxs1 := hxs.below hb1
      have hys1 := hys.below hb1
      go_wp2_with fail
      refine (light_any xs A c 60 w1 hxs1.wide).mono ?_
      rintro e w2 ⟨rfl, rfl⟩
      rw [Hbxs.out]
      go_wp2_with fail
      refine (light_any ys B d 60 w1 hys1.wide).mono ?_
      rintro e w2 ⟨rfl, rfl⟩
      rw [Hbys.out]
      go_wp2_with fail
      go_ret
      exact ⟨rfl, hb1⟩
end Go.Proofs.Ytanhdcpmflmggaa
