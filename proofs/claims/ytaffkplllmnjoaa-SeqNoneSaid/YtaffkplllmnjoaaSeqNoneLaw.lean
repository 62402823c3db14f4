/- SeqNone: nothing in the place of nothing changes nothing, within a list; all in the place of all is all: the walk of the law. -/
import Derived.Test.YtaffkplllmnjoaaAwake2
import Derived.Test.YtaffkplllmnjoaaLight
import Derived.Test.YtaffkplllmnjoaaSame
import Derived.Test.YtaffkplllmnjoaaSeqPl
namespace Go.Proofs.Ytaffkplllmnjoaa
open Go.RowKit

set_option maxRecDepth 100000 in
set_option maxHeartbeats 1000000 in
theorem seqNone_any (xs : List ByteArray) (A : Option Addr) (c : Nat) (p : Int) (ms : List ByteArray) (B : Option Addr) (d : Nat) (w : World)
    (_ : xs.length ≤ c) (_ : c ≤ 9223372036854775807) (hxs : SlS w.heap.size w A xs) (_ : -9223372036854775808 ≤ p) (_ : p ≤ 9223372036854775807) (_ : ms.length ≤ d) (_ : d ≤ 9223372036854775807) (hms : SlS w.heap.size w B ms) :
    Calls Try.prog 7 #[.slice A xs.length c, .int .i64 p, .slice B ms.length d] w fun e w' => e = .returned (.bool true) ∧ Below w.heap.size w w' := by
  have hw := awake_any w
  obtain ⟨bxs, hbxs⟩ : ∃ b, light xs 300 = b := ⟨_, rfl⟩
  obtain ⟨bms, hbms⟩ : ∃ b, light ms 300 = b := ⟨_, rfl⟩
  have Hbxs := Kp.mk hbxs
  have Hbms := Kp.mk hbms
  have HW := Kp.mk hw
  clear hw
  by_cases hall : bxs = true ∧ bms = true
  · obtain ⟨rfl, rfl⟩ := hall
    have hnxs := light_len Hbxs.out
    clear hbxs
    have hnms := light_len Hbms.out
    clear hbms
    go_enter Try.func7, Try.ntmps7
    go_wp2_with fail
    refine HW.out.mono ?_
    rintro e w1 ⟨rfl, hb1⟩
    have hxs1 := hxs.below hb1
    have hms1 := hms.below hb1
    go_wp2_with fail
    refine (light_any xs A c 300 w1 hxs1.wide).mono ?_
    rintro e w2 ⟨rfl, rfl⟩
    rw [Hbxs.out]
    go_wp2_with fail
    refine (light_any ms B d 300 w1 hms1.wide).mono ?_
    rintro e w2 ⟨rfl, rfl⟩
    rw [Hbms.out]
    clear hxs1 hms1
    have hs := stands_nil xs p
    have H1 := Kp.mk (stands_all xs)
    have H2 := Kp.mk (swpR_all xs ms)
    by_cases i0 : 0 ≤ p
    · by_cases i1 : p ≤ (xs.length : Int)
      · rw [decide_eq_true i0, decide_eq_true i1] at hs
        have HB : Kp (stands xs p [] = true) := ⟨hs⟩
        have HL : Kp (swpR xs p [] [] = xs) := ⟨swpR_nil xs p hs⟩
        clear hs
        go_wp2_with fail
        refine (Swap_all xs [] [] A none none _ _ _ c 0 0 p w1 true xs HB.out HL.out rfl rfl rfl (by omega) (hxs.later hb1) SlS.nil SlS.nil (by omega) (by simp) (by simp) (by omega) (by omega)).mono ?_
        rintro e w2 ⟨D, r, rfl, _, _, hD, kb2⟩
        have hb2 := hb1.trans (kb2.mono hb1.size)
        have hD2 := hD.wide
        clear hD
        go_wp2_with fail
        refine (Swap_all xs xs ms A A B _ _ _ c c d 0 w2 true ms H1.out H2.out rfl rfl rfl (by omega) (hxs.later hb2) (hxs.later hb2) (hms.later hb2) (by omega) (by omega) (by omega) (by omega) (by omega)).mono ?_
        rintro e w3 ⟨E, s, rfl, _, _, hE, kb3⟩
        have hb3 := hb2.trans (kb3.mono hb2.size)
        have hD3 := hD2.later kb3
        clear hD2
        go_wp2_with fail
        refine (same_at ms ms E B _ _ s d true w3 rfl rfl (by simp) hE.wide (hms.later hb3) (by omega)).mono ?_
        rintro e w4 ⟨rfl, kb4⟩
        have hb4 := hb3.trans (kb4.mono hb3.size)
        have hD4 := hD3.later kb4
        clear hD3
        go_wp2_with fail
        refine (same_at xs xs D A _ _ r c true w4 rfl rfl (by simp) hD4 (hxs.later hb4) (by omega)).mono ?_
        rintro e w5 ⟨rfl, kb5⟩
        have hb5 := hb4.trans (kb5.mono hb4.size)
        clear kb5

        go_wp2
        go_ret
        exact ⟨rfl, hb5⟩

      · rw [decide_eq_true i0, decide_eq_false i1] at hs
        have HB : Kp (stands xs p [] = false) := ⟨hs⟩
        have HL : Kp (swpR xs p [] [] = []) := ⟨by unfold swpR; rw [hs]; rfl⟩
        clear hs
        go_wp2_with fail
        refine (Swap_all xs [] [] A none none _ _ _ c 0 0 p w1 false [] HB.out HL.out rfl rfl rfl (by omega) (hxs.later hb1) SlS.nil SlS.nil (by omega) (by simp) (by simp) (by omega) (by omega)).mono ?_
        rintro e w2 ⟨D, r, rfl, _, _, hD, kb2⟩
        have hb2 := hb1.trans (kb2.mono hb1.size)
        have hD2 := hD.wide
        clear hD
        go_wp2_with fail
        refine (Swap_all xs xs ms A A B _ _ _ c c d 0 w2 true ms H1.out H2.out rfl rfl rfl (by omega) (hxs.later hb2) (hxs.later hb2) (hms.later hb2) (by omega) (by omega) (by omega) (by omega) (by omega)).mono ?_
        rintro e w3 ⟨E, s, rfl, _, _, hE, kb3⟩
        have hb3 := hb2.trans (kb3.mono hb2.size)
        have hD3 := hD2.later kb3
        clear hD2
        go_wp2_with fail
        refine (same_at ms ms E B _ _ s d true w3 rfl rfl (by simp) hE.wide (hms.later hb3) (by omega)).mono ?_
        rintro e w4 ⟨rfl, kb4⟩
        have hb4 := hb3.trans (kb4.mono hb3.size)
        have hD4 := hD3.later kb4
        clear hD3
        go_wp2_with fail
        refine (same_at [] xs D A _ _ r c _ w4 rfl rfl rfl hD4 (hxs.later hb4) (by simp)).mono ?_
        rintro e w5 ⟨rfl, kb5⟩
        have hb5 := hb4.trans (kb5.mono hb4.size)
        clear kb5

        go_wp2
        go_ret
        exact ⟨rfl, hb5⟩

    · rw [decide_eq_false i0, Bool.false_and] at hs
      have HB : Kp (stands xs p [] = false) := ⟨hs⟩
      have HL : Kp (swpR xs p [] [] = []) := ⟨by unfold swpR; rw [hs]; rfl⟩
      clear hs
      go_wp2_with fail
      refine (Swap_all xs [] [] A none none _ _ _ c 0 0 p w1 false [] HB.out HL.out rfl rfl rfl (by omega) (hxs.later hb1) SlS.nil SlS.nil (by omega) (by simp) (by simp) (by omega) (by omega)).mono ?_
      rintro e w2 ⟨D, r, rfl, _, _, hD, kb2⟩
      have hb2 := hb1.trans (kb2.mono hb1.size)
      have hD2 := hD.wide
      clear hD
      go_wp2_with fail
      refine (Swap_all xs xs ms A A B _ _ _ c c d 0 w2 true ms H1.out H2.out rfl rfl rfl (by omega) (hxs.later hb2) (hxs.later hb2) (hms.later hb2) (by omega) (by omega) (by omega) (by omega) (by omega)).mono ?_
      rintro e w3 ⟨E, s, rfl, _, _, hE, kb3⟩
      have hb3 := hb2.trans (kb3.mono hb2.size)
      have hD3 := hD2.later kb3
      clear hD2
      go_wp2_with fail
      refine (same_at ms ms E B _ _ s d true w3 rfl rfl (by simp) hE.wide (hms.later hb3) (by omega)).mono ?_
      rintro e w4 ⟨rfl, kb4⟩
      have hb4 := hb3.trans (kb4.mono hb3.size)
      have hD4 := hD3.later kb4
      clear hD3
      go_wp2_with fail
      refine (same_at [] xs D A _ _ r c _ w4 rfl rfl rfl hD4 (hxs.later hb4) (by simp)).mono ?_
      rintro e w5 ⟨rfl, kb5⟩
      have hb5 := hb4.trans (kb5.mono hb4.size)
      clear kb5

      go_wp2
      go_ret
      exact ⟨rfl, hb5⟩
  · have hbb : (bxs = false) ∨ (bxs = true ∧ bms = false) := by
      cases bxs <;> cases bms <;> simp_all
    clear hall hbxs hbms
    rcases hbb with rfl | ⟨rfl, rfl⟩
    all_goals
      go_enter Try.func7, Try.ntmps7
      go_wp2_with fail
      refine HW.out.mono ?_
      rintro e w1 ⟨rfl, hb1⟩
      have hxs1 := hxs.below hb1
      have hms1 := hms.below hb1
      go_wp2_with fail
      refine (light_any xs A c 300 w1 hxs1.wide).mono ?_
      rintro e w2 ⟨rfl, rfl⟩
      rw [Hbxs.out]
      go_wp2_with fail
      refine (light_any ms B d 300 w1 hms1.wide).mono ?_
      rintro e w2 ⟨rfl, rfl⟩
      rw [Hbms.out]
      go_wp2_with fail
      go_ret
      exact ⟨rfl, hb1⟩
end Go.Proofs.Ytaffkplllmnjoaa
