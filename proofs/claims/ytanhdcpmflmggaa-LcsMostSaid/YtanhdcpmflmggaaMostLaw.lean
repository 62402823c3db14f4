/- LcsMost: no lines of a list that stand in the other one, in order, are more than are told: the walk of the law. -/
import Derived.Test.YtanhdcpmflmggaaAwake3
import Derived.Test.YtanhdcpmflmggaaLight
namespace Go.Proofs.Ytanhdcpmflmggaa
open Go.RowKit
attribute [local go_sem] Oper.semAt_some

/-- So many lines have been picked: they stand in order in what has been passed of both. -/
def Pick (xs ys : List ByteArray) (i j n : Nat) : Prop := ∃ s : List ByteArray, s.Sublist (xs.take i) ∧ s.Sublist (ys.take j) ∧ s.length = n
theorem Pick.zero (xs ys : List ByteArray) : Pick xs ys 0 0 0 := ⟨[], by simp, by simp, rfl⟩
theorem Pick.skip {xs ys : List ByteArray} {i j n : Nat} (h : Pick xs ys i j n) : Pick xs ys (i + 1) j n := by
  obtain ⟨s, h1, h2, h3⟩ := h
  exact ⟨s, h1.trans (List.take_sublist_take_left (by omega)), h2, h3⟩
theorem Pick.take {xs ys : List ByteArray} {i j n k : Nat} (h : Pick xs ys i j n) (hi : i < xs.length) (hk : k < ys.length) (hj : j ≤ k) (e : sAt ys k = sAt xs i) : Pick xs ys (i + 1) (k + 1) (n + 1) := by
  obtain ⟨s, h1, h2, h3⟩ := h
  rw [sAt_lt hi, sAt_lt hk] at e
  refine ⟨s ++ [xs[i]], ?_, ?_, by simp [h3]⟩
  · rw [List.take_succ_eq_append_getElem hi]; exact h1.append (List.Sublist.refl _)
  · rw [List.take_succ_eq_append_getElem hk, e]; exact (h2.trans (List.take_sublist_take_left hj)).append (List.Sublist.refl _)
theorem Pick.le {xs ys : List ByteArray} {i j n : Nat} (h : Pick xs ys i j n) : n ≤ i := by
  obtain ⟨s, h1, _, h3⟩ := h
  have := h1.length_le
  simp at this; omega
theorem Pick.most {xs ys : List ByteArray} {i j n : Nat} (h : Pick xs ys i j n) : (n : Int) ≤ tab xs ys 0 0 := by
  obtain ⟨s, h1, h2, h3⟩ := h
  have := Qm.lcs_most xs ys s (h1.trans (List.take_sublist _ _)) (h2.trans (List.take_sublist _ _))
  unfold tab
  simp; omega

set_option maxRecDepth 100000 in
set_option maxHeartbeats 1000000 in
theorem lcsMost_any (xs : List ByteArray) (A : Option Addr) (c : Nat) (ys : List ByteArray) (B : Option Addr) (d : Nat) (g : Nat → Bool) (C : Option Addr) (m k : Nat) (w : World)
    (_ : xs.length ≤ c) (_ : c ≤ 9223372036854775807) (hxs : SlS w.heap.size w A xs) (_ : ys.length ≤ d) (_ : d ≤ 9223372036854775807) (hys : SlS w.heap.size w B ys) (hg : Sl 4 w.heap.size w C m (fun j => .bool (g j))) :
    Calls Try.prog 5 #[.slice A xs.length c, .slice B ys.length d, .slice C m k] w fun e w' => e = .returned (.bool true) ∧ Below w.heap.size w w' := by
  have hw := awake_any w
  obtain ⟨bxs, hbxs⟩ : ∃ b, light xs 60 = b := ⟨_, rfl⟩
  obtain ⟨bys, hbys⟩ : ∃ b, light ys 60 = b := ⟨_, rfl⟩
  have Hbxs := Kp.mk hbxs
  have Hbys := Kp.mk hbys
  have HW := Kp.mk hw
  clear hw
  by_cases hall : bxs = true ∧ bys = true
  · obtain ⟨rfl, rfl⟩ := hall
    have hnxs := light_len Hbxs.out
    clear hbxs
    have hnys := light_len Hbys.out
    clear hbys
    by_cases hsb : 100 < m
    · go_enter Try.func5, Try.ntmps5
      go_wp2_with fail
      refine HW.out.mono ?_
      rintro e w1 ⟨rfl, hb1⟩
      have hxs1 := hxs.below hb1
      have hys1 := hys.below hb1
      go_wp2_with fail
      refine (light_any xs A c 60 w1 hxs1.wide).mono ?_
      rintro e w2 ⟨rfl, rfl⟩
      rw [Hbxs.out]
      go_wp2_with fail
      refine (light_any ys B d 60 w1 hys1.wide).mono ?_
      rintro e w2 ⟨rfl, rfl⟩
      rw [Hbys.out]
      go_wp2_with fail
      go_ret
      exact ⟨rfl, hb1⟩
    go_enter Try.func5, Try.ntmps5
    go_wp2_with fail
    refine HW.out.mono ?_
    rintro e w1 ⟨rfl, hb1⟩
    have hxs1 := hxs.below hb1
    have hys1 := hys.below hb1
    go_wp2_with fail
    refine (light_any xs A c 60 w1 hxs1.wide).mono ?_
    rintro e w2 ⟨rfl, rfl⟩
    rw [Hbxs.out]
    go_wp2_with fail
    refine (light_any ys B d 60 w1 hys1.wide).mono ?_
    rintro e w2 ⟨rfl, rfl⟩
    rw [Hbys.out]
    have hz1 := hb1.size
    have hX := hxs.later hb1
    have hY := hys.later hb1
    have hG : Sl 4 w.heap.size w1 C m (fun j => .bool (g j)) := hg.below hb1
    have hm100 : m ≤ 100 := by omega
    clear hxs1 hys1
    go_wp2_with fail
    go_loopw [10, 11, 12] (fun vn vj vi wr => ∃ (n j i q : Nat), vn = .int .i64 n ∧ vj = .int .i64 j ∧ vi = .int .i64 i ∧ i ≤ xs.length ∧ i ≤ m ∧ j ≤ ys.length ∧ n ≤ i ∧ Kp (Pick xs ys i j n) ∧ wr = w1.drewN q) (fun _ _ vi _ => xs.length - (intOf vi).toNat)
    case atStart => exact ⟨0, 0, 0, 0, rfl, rfl, rfl, Nat.zero_le _, Nat.zero_le _, Nat.zero_le _, Nat.le_refl _, ⟨Pick.zero xs ys⟩, rfl⟩
    case round =>
      obtain ⟨n, j, i, q, rfl, rfl, rfl, hi, him, hj, hni, hp, rfl⟩ := hrel
      by_cases hlt : i < xs.length ∧ i < m
      · obtain ⟨hlt, hlm⟩ := hlt
        obtain ⟨gc, oc, rfl, hgc, _, hcc⟩ := Sl.at3 hG (by omega)
        have hpc := hcc i hlm
        obtain ⟨ga, oa, rfl, hga, hca⟩ := hX.at3 hlt
        have hxc := hca i hlt
        clear hcc hca
        by_cases hgi : g i = true
        · go_wp2
          go_loopw [13] (fun vk wr => ∃ k q' : Nat, vk = .int .i64 k ∧ j ≤ k ∧ k ≤ ys.length ∧ wr = w1.drewN q') (fun vk _ => ys.length - (intOf vk).toNat)
          case atStart => exact ⟨j, q, rfl, Nat.le_refl _, hj, rfl⟩
          case round =>
            obtain ⟨k', q', rfl, hjk, hk, rfl⟩ := hrel
            by_cases hkl : k' < ys.length
            · obtain ⟨gb, ob, rfl, hgb, hcb⟩ := hY.at3 hkl
              have hyc := hcb k' hkl
              clear hcb
              have b1 : (k' : Int) < (ys.length : Int) := by omega
              have b2 : (i : Int) < (xs.length : Int) := by omega
              have b3 : decide (k' < ys.length) = true := decide_eq_true hkl
              by_cases he : sAt ys k' = sAt xs i
              · have hq : ((sAt ys k').toList == (sAt xs i).toList) = true := by rw [str_beq]; exact decide_eq_true he
                have hp' := Kp.mk (hp.out.take hlt hkl hjk he)
                clear he
                go_wp2
                go_quiet (fail)
                go_wp2
                go_roundw
                case rel => exact ⟨n + 1, k' + 1, i + 1, _, by go_num, by go_num, by go_num, by omega, by omega, by omega, by omega, hp', rfl⟩
                case measure => simp [intOf]; omega
              · have hq : ((sAt ys k').toList == (sAt xs i).toList) = false := by rw [str_beq]; exact decide_eq_false he
                clear he
                go_wp2
                go_quiet (fail)
                go_wp2
                go_roundw
                case rel => exact ⟨k' + 1, _, by go_num, by omega, by omega, rfl⟩
                case measure => simp [intOf]; omega
            · have b3 : decide (k' < ys.length) = false := decide_eq_false hkl
              go_wp2
              go_quiet (fail)
              go_wp2
              go_roundw
              case rel => exact ⟨n, j, i + 1, _, rfl, rfl, by go_num, by omega, by omega, hj, by omega, ⟨hp.out.skip⟩, rfl⟩
              case measure => simp [intOf]; omega
        · have hgf : g i = false := by simpa using hgi
          clear hgi
          go_wp2
          go_roundw
          case rel => exact ⟨n, j, i + 1, q, rfl, rfl, by go_num, by omega, by omega, hj, by omega, ⟨hp.out.skip⟩, rfl⟩
          case measure => simp [intOf]; omega
      · have hbq := below_drewN hb1 q
        by_cases hl2 : i < xs.length
        · have hm2 : ¬ i < m := fun h => hlt ⟨hl2, h⟩
          clear hlt
          go_wp2_with fail
          refine (many_at xs ys A B _ _ c d w _ hbq (hxs.later hbq) (hys.later hbq) (by omega) (by omega) _ rfl rfl rfl).mono ?_
          rintro e w5 ⟨rfl, hb5, _⟩
          have hd : decide ((n : Int) ≤ tab xs ys 0 0) = true := decide_eq_true hp.out.most
          go_wp2
          go_ret
          exact ⟨rfl, hb5⟩
        · clear hlt
          go_wp2_with fail
          refine (many_at xs ys A B _ _ c d w _ hbq (hxs.later hbq) (hys.later hbq) (by omega) (by omega) _ rfl rfl rfl).mono ?_
          rintro e w5 ⟨rfl, hb5, _⟩
          have hd : decide ((n : Int) ≤ tab xs ys 0 0) = true := decide_eq_true hp.out.most
          go_wp2
          go_ret
          exact ⟨rfl, hb5⟩
  · have hbb : (bxs = false) ∨ (bxs = true ∧ bys = false) := by
      cases bxs <;> cases bys <;> simp_all
    clear hall hbxs hbys
    rcases hbb with rfl | ⟨rfl, rfl⟩
    all_goals
      go_enter Try.func5, Try.ntmps5
      go_wp2_with fail
      refine HW.out.mono ?_
      rintro e w1 ⟨rfl, hb1⟩
      have hxs1 := hxs.below hb1
      have hys1 := hys.below hb1
      go_wp2_with fail
      refine (light_any xs A c 60 w1 hxs1.wide).mono ?_
      rintro e w2 ⟨rfl, rfl⟩
      rw [Hbxs.out]
      go_wp2_with fail
      refine (light_any ys B d 60 w1 hys1.wide).mono ?_
      rintro e w2 ⟨rfl, rfl⟩
      rw [Hbys.out]
      go_wp2_with fail
      go_ret
      exact ⟨rfl, hb1⟩
end Go.Proofs.Ytanhdcpmflmggaa
