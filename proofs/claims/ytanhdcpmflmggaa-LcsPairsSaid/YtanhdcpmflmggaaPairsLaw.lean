/- LcsPairs: pairs are as many as there are lines in common, rise in both, and are of lines that are the same: the walk of the law. -/
import Derived.Test.YtanhdcpmflmggaaAwake3
import Derived.Test.YtanhdcpmflmggaaLight
namespace Go.Proofs.Ytanhdcpmflmggaa
open Go.RowKit

set_option maxRecDepth 100000 in
set_option maxHeartbeats 1000000 in
theorem lcsPairs_any (xs : List ByteArray) (A : Option Addr) (c : Nat) (ys : List ByteArray) (B : Option Addr) (d : Nat) (w : World)
    (_ : xs.length ≤ c) (_ : c ≤ 9223372036854775807) (hA : SlS w.heap.size w A xs) (_ : ys.length ≤ d) (_ : d ≤ 9223372036854775807) (hB : SlS w.heap.size w B ys) :
    Calls Try.prog 4 #[.slice A xs.length c, .slice B ys.length d] w fun e w' => e = .returned (.bool true) ∧ Below w.heap.size w w' := by
  have hw := awake_any w
  by_cases hl : light xs 60 = true ∧ light ys 60 = true
  · obtain ⟨hp, hq⟩ := hl
    have hn := light_len hp
    have hm := light_len hq
    have HP := Kp.mk hp
    have HQ := Kp.mk hq
    clear hp hq
    have HW := Kp.mk hw
    clear hw
    go_enter Try.func4, Try.ntmps4
    go_wp2_with fail
    refine HW.out.mono ?_
    rintro e w1 ⟨rfl, hb1⟩
    have hA1 := hA.below hb1
    have hB1 := hB.below hb1
    go_wp2_with fail
    refine (light_any xs A c 60 w1 hA1.wide).mono ?_
    rintro e w2 ⟨rfl, rfl⟩
    rw [HP.out]
    go_wp2_with fail
    refine (light_any ys B d 60 w1 hB1.wide).mono ?_
    rintro e w2 ⟨rfl, rfl⟩
    rw [HQ.out]
    go_wp2_with fail
    refine (pairs_any xs ys A B c d w1 hA1.wide hB1.wide (by omega) (by omega)).mono ?_
    rintro e w2 ⟨C, k, rfl, hC, hb2⟩
    obtain ⟨ps, hps⟩ : ∃ ps, ps = Qm.pairs xs ys 0 0 := ⟨_, rfl⟩
    rw [← hps] at hC ⊢
    have HPS := Kp.mk hps
    have hN : ps.length ≤ 60 := by rw [hps]; exact Nat.le_trans (Qm.pairs_le_left xs ys 0 0) (by omega)
    have hA2 := Kp.mk (hA1.below hb2)
    have hB2 := Kp.mk (hB1.below hb2)
    have hCk := Kp.mk hC
    have hz := hb2.size
    clear hps hC HP HQ HW hA1 hB1 hA hB
    go_wp2_with fail
    go_loopw [9] (fun i wr => ∃ n : Nat, n ≤ ps.length ∧ i = .int .i64 n ∧ Below w2.heap.size w2 wr) (fun i _ => ps.length - (intOf i).toNat)
    case atStart => exact ⟨0, Nat.zero_le _, rfl, Below.refl _ _⟩
    case round =>
      obtain ⟨n, hnl, rfl, hbr⟩ := hrel
      have hzr := hbr.size
      by_cases hlt : n < ps.length
      · obtain ⟨g, o, rfl, hg, hcs⟩ := hCk.out.at_ (by omega)
        have hpm := Qm.pairs_mem xs ys 0 0 (ps[n]) (by rw [← HPS.out]; exact List.getElem_mem hlt)
        obtain ⟨_, _, hi0, hj0, he⟩ := hpm
        obtain ⟨i0, hi0e⟩ : ∃ i0, i0 = ps[n].1 := ⟨_, rfl⟩
        obtain ⟨j0, hj0e⟩ : ∃ j0, j0 = ps[n].2 := ⟨_, rfl⟩
        have hc := hcs n hlt
        rw [← hi0e, ← hj0e] at hc
        simp only [← hi0e, ← hj0e] at hi0 hj0 he
        have hc0 : wr.cell? ⟨g, o + n * 2, none⟩ = some (.int .i64 i0) := (hbr.cell (p := ⟨g, o + n * 2, none⟩) hg).trans hc.1
        have hc1 : wr.cell? ⟨g, o + n * 2 + 1, none⟩ = some (.int .i64 j0) := (hbr.cell (p := ⟨g, o + n * 2 + 1, none⟩) hg).trans hc.2
        have hgr : g < wr.heap.size := by omega
        obtain ⟨ga, oa, rfl, hga, hca⟩ := (hA2.out.below hbr).at3 hi0
        obtain ⟨gb, ob, rfl, hgb, hcb⟩ := (hB2.out.below hbr).at3 hj0
        have hax := hca i0 hi0
        have hby := hcb j0 hj0
        have heq : ((sAt xs i0).toList == (sAt ys j0).toList) = true := by rw [str_beq, sAt_lt hi0, sAt_lt hj0]; exact decide_eq_true he
        have d1 : decide ((i0 : Int) < 0) = false := by simp
        have d2 : decide ((xs.length : Int) ≤ (i0 : Int)) = false := by simp; omega
        have d3 : decide ((j0 : Int) < 0) = false := by simp
        have d4 : decide ((ys.length : Int) ≤ (j0 : Int)) = false := by simp; omega
        have e2 : decide (xs.length ≤ i0) = false := by simp; omega
        have e4 : decide (ys.length ≤ j0) = false := by simp; omega
        have b1 : (i0 : Int) < (xs.length : Int) := by omega
        have b2 : (j0 : Int) < (ys.length : Int) := by omega
        have b3 : (0 : Int) ≤ (i0 : Int) := by omega
        have b4 : (0 : Int) ≤ (j0 : Int) := by omega
        have HI0 := Kp.mk hi0e
        have HJ0 := Kp.mk hj0e
        have HCS := Kp.mk hcs
        clear hc he hca hcb hcs hi0e hj0e
        by_cases hn0 : n = 0
        · have d6 : decide ((0 : Int) < (n : Int)) = false := by simp; omega
          have e6 : decide (0 < n) = false := by simp; omega
          clear hn0
          go_wp2
          go_quiet (fail)
          go_wp2
          go_roundw
          case rel => exact ⟨n + 1, by omega, by go_num, below_drewN (hbr.alloc hzr _) nq⟩
          case measure => simp [intOf]; omega
        · have hpr : ps[n - 1].1 < ps[n].1 ∧ ps[n - 1].2 < ps[n].2 := by
            have h := Qm.pairs_rise xs ys 0 0
            rw [← HPS.out] at h
            exact List.pairwise_iff_getElem.1 h (n - 1) n (by omega) hlt (by omega)
          obtain ⟨i1, hi1e⟩ : ∃ i1, i1 = ps[n - 1].1 := ⟨_, rfl⟩
          obtain ⟨j1, hj1e⟩ : ∃ j1, j1 = ps[n - 1].2 := ⟨_, rfl⟩
          rw [← hi1e, ← hj1e, ← HI0.out, ← HJ0.out] at hpr
          have hc := HCS.out (n - 1) (by omega)
          rw [← hi1e, ← hj1e] at hc
          have he0 : wr.cell? ⟨g, o + (n - 1) * 2, none⟩ = some (.int .i64 i1) := (hbr.cell (p := ⟨g, o + (n - 1) * 2, none⟩) hg).trans hc.1
          have he1 : wr.cell? ⟨g, o + (n - 1) * 2 + 1, none⟩ = some (.int .i64 j1) := (hbr.cell (p := ⟨g, o + (n - 1) * 2 + 1, none⟩) hg).trans hc.2
          have d6 : decide ((0 : Int) < (n : Int)) = true := by simp; omega
          have e6 : decide (0 < n) = true := by simp; omega
          have e7 : decide (i0 ≤ i1) = false := by simp; omega
          have e8 : decide (j0 ≤ j1) = false := by simp; omega
          have d7 : decide ((i0 : Int) ≤ (i1 : Int)) = false := by simp; omega
          have d8 : decide ((j0 : Int) ≤ (j1 : Int)) = false := by simp; omega
          have hnw : IntKind.i64.wrap ((n : Int) - 1) = (n : Int) - 1 := IntWalk.i64_in _ (by omega)
          have hnn : ((n : Int) - 1).toNat = n - 1 := by omega
          have b5 : (0 : Int) ≤ (n : Int) - 1 := by omega
          have b6 : (n : Int) - 1 < (ps.length : Int) := by omega
          clear hn0 hc hi1e hj1e hpr
          go_wp2
          go_quiet (fail)
          clear hnw hnn
          go_wp2
          go_roundw
          case rel => exact ⟨n + 1, by omega, by go_num, below_drewN (hbr.alloc hzr _) nq⟩
          case measure => simp [intOf]; omega
      · go_wp2_with fail
        refine (many_any xs ys A B c d wr (hA2.out.below hbr).wide (hB2.out.below hbr).wide (by omega) (by omega)).mono ?_
        rintro e w3 ⟨rfl, hb3⟩
        have hlen : ((ps.length : Int) == tab xs ys 0 0) = true := by
          rw [HPS.out, Qm.pairs_length]; simp [tab]
        go_wp2
        go_ret
        exact ⟨rfl, ((hb1.trans (hb2.mono hb1.size)).trans (hbr.mono (by have := hb1.size; omega))).trans (hb3.mono (by have := hb1.size; omega))⟩
  · obtain ⟨bx, hbx⟩ : ∃ b, light xs 60 = b := ⟨_, rfl⟩
    obtain ⟨by_, hby⟩ : ∃ b, light ys 60 = b := ⟨_, rfl⟩
    have hbb : bx = false ∨ (bx = true ∧ by_ = false) := by
      cases bx
      · exact .inl rfl
      · cases by_
        · exact .inr ⟨rfl, rfl⟩
        · exact absurd ⟨hbx, hby⟩ hl
    have HX := Kp.mk hbx
    have HY := Kp.mk hby
    have HW := Kp.mk hw
    clear hbx hby hl hw
    rcases hbb with rfl | ⟨rfl, rfl⟩
    all_goals
      go_enter Try.func4, Try.ntmps4
      go_wp2_with fail
      refine HW.out.mono ?_
      rintro e w1 ⟨rfl, hb1⟩
      have hA1 := hA.below hb1
      have hB1 := hB.below hb1
      go_wp2_with fail
      refine (light_any xs A c 60 w1 hA1.wide).mono ?_
      rintro e w2 ⟨rfl, rfl⟩
      rw [HX.out]
      go_wp2_with fail
      refine (light_any ys B d 60 w1 hB1.wide).mono ?_
      rintro e w2 ⟨rfl, rfl⟩
      rw [HY.out]
      go_wp2_with fail
      go_ret
      exact ⟨rfl, hb1⟩
end Go.Proofs.Ytanhdcpmflmggaa
