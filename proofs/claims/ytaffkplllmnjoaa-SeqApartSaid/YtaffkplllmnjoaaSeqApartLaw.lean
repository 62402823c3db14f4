/- SeqApart: two swaps of which one ends ahead of the other one may be done in either order: what comes out is the same: the walk of the law. -/
import Derived.Test.YtaffkplllmnjoaaAwake2
import Derived.Test.YtaffkplllmnjoaaLight
import Derived.Test.YtaffkplllmnjoaaSame
import Derived.Test.YtaffkplllmnjoaaSeqPl
namespace Go.Proofs.Ytaffkplllmnjoaa
open Go.RowKit

set_option maxRecDepth 100000 in
set_option maxHeartbeats 4000000 in
theorem seqApart_any (xs : List ByteArray) (A : Option Addr) (c : Nat) (p : Int) (ys : List ByteArray) (B : Option Addr) (d : Nat) (zs : List ByteArray) (C : Option Addr) (g : Nat) (gap : Int) (os : List ByteArray) (D : Option Addr) (r : Nat) (ts : List ByteArray) (E : Option Addr) (s : Nat) (w : World)
    (_ : xs.length ≤ c) (_ : c ≤ 9223372036854775807) (hxs : SlS w.heap.size w A xs) (_ : -9223372036854775808 ≤ p) (_ : p ≤ 9223372036854775807) (_ : ys.length ≤ d) (_ : d ≤ 9223372036854775807) (hys : SlS w.heap.size w B ys) (_ : zs.length ≤ g) (_ : g ≤ 9223372036854775807) (hzs : SlS w.heap.size w C zs) (_ : -9223372036854775808 ≤ gap) (_ : gap ≤ 9223372036854775807) (_ : os.length ≤ r) (_ : r ≤ 9223372036854775807) (hos : SlS w.heap.size w D os) (_ : ts.length ≤ s) (_ : s ≤ 9223372036854775807) (hts : SlS w.heap.size w E ts) :
    Calls Try.prog 5 #[.slice A xs.length c, .int .i64 p, .slice B ys.length d, .slice C zs.length g, .int .i64 gap, .slice D os.length r, .slice E ts.length s] w fun e w' => e = .returned (.bool true) ∧ Below w.heap.size w w' := by
  have hw := awake_any w
  obtain ⟨bxs, hbxs⟩ : ∃ b, light xs 100 = b := ⟨_, rfl⟩
  obtain ⟨bys, hbys⟩ : ∃ b, light ys 100 = b := ⟨_, rfl⟩
  obtain ⟨bzs, hbzs⟩ : ∃ b, light zs 100 = b := ⟨_, rfl⟩
  obtain ⟨bos, hbos⟩ : ∃ b, light os 100 = b := ⟨_, rfl⟩
  obtain ⟨bts, hbts⟩ : ∃ b, light ts 100 = b := ⟨_, rfl⟩
  have Hbxs := Kp.mk hbxs
  have Hbys := Kp.mk hbys
  have Hbzs := Kp.mk hbzs
  have Hbos := Kp.mk hbos
  have Hbts := Kp.mk hbts
  have HW := Kp.mk hw
  clear hw
  by_cases hall : bxs = true ∧ bys = true ∧ bzs = true ∧ bos = true ∧ bts = true
  · obtain ⟨rfl, rfl, rfl, rfl, rfl⟩ := hall
    have hnxs := light_len Hbxs.out
    clear hbxs
    have hnys := light_len Hbys.out
    clear hbys
    have hnzs := light_len Hbzs.out
    clear hbzs
    have hnos := light_len Hbos.out
    clear hbos
    have hnts := light_len Hbts.out
    clear hbts
    by_cases bad1 : gap < 0
    · go_enter Try.func5, Try.ntmps5
      go_wp2_with fail
      refine HW.out.mono ?_
      rintro e w1 ⟨rfl, hb1⟩
      have hxs1 := hxs.below hb1
      have hys1 := hys.below hb1
      have hzs1 := hzs.below hb1
      have hos1 := hos.below hb1
      have hts1 := hts.below hb1
      go_wp2_with fail
      refine (light_any xs A c 100 w1 hxs1.wide).mono ?_
      rintro e w2 ⟨rfl, rfl⟩
      rw [Hbxs.out]
      go_wp2_with fail
      refine (light_any ys B d 100 w1 hys1.wide).mono ?_
      rintro e w2 ⟨rfl, rfl⟩
      rw [Hbys.out]
      go_wp2_with fail
      refine (light_any zs C g 100 w1 hzs1.wide).mono ?_
      rintro e w2 ⟨rfl, rfl⟩
      rw [Hbzs.out]
      go_wp2_with fail
      refine (light_any os D r 100 w1 hos1.wide).mono ?_
      rintro e w2 ⟨rfl, rfl⟩
      rw [Hbos.out]
      go_wp2_with fail
      refine (light_any ts E s 100 w1 hts1.wide).mono ?_
      rintro e w2 ⟨rfl, rfl⟩
      rw [Hbts.out]
      go_wp2_with fail
      go_ret
      exact ⟨rfl, hb1⟩
    by_cases bad2 : 100 < gap
    · go_enter Try.func5, Try.ntmps5
      go_wp2_with fail
      refine HW.out.mono ?_
      rintro e w1 ⟨rfl, hb1⟩
      have hxs1 := hxs.below hb1
      have hys1 := hys.below hb1
      have hzs1 := hzs.below hb1
      have hos1 := hos.below hb1
      have hts1 := hts.below hb1
      go_wp2_with fail
      refine (light_any xs A c 100 w1 hxs1.wide).mono ?_
      rintro e w2 ⟨rfl, rfl⟩
      rw [Hbxs.out]
      go_wp2_with fail
      refine (light_any ys B d 100 w1 hys1.wide).mono ?_
      rintro e w2 ⟨rfl, rfl⟩
      rw [Hbys.out]
      go_wp2_with fail
      refine (light_any zs C g 100 w1 hzs1.wide).mono ?_
      rintro e w2 ⟨rfl, rfl⟩
      rw [Hbzs.out]
      go_wp2_with fail
      refine (light_any os D r 100 w1 hos1.wide).mono ?_
      rintro e w2 ⟨rfl, rfl⟩
      rw [Hbos.out]
      go_wp2_with fail
      refine (light_any ts E s 100 w1 hts1.wide).mono ?_
      rintro e w2 ⟨rfl, rfl⟩
      rw [Hbts.out]
      go_wp2_with fail
      go_ret
      exact ⟨rfl, hb1⟩
    by_cases bad3 : p < 0
    · go_enter Try.func5, Try.ntmps5
      go_wp2_with fail
      refine HW.out.mono ?_
      rintro e w1 ⟨rfl, hb1⟩
      have hxs1 := hxs.below hb1
      have hys1 := hys.below hb1
      have hzs1 := hzs.below hb1
      have hos1 := hos.below hb1
      have hts1 := hts.below hb1
      go_wp2_with fail
      refine (light_any xs A c 100 w1 hxs1.wide).mono ?_
      rintro e w2 ⟨rfl, rfl⟩
      rw [Hbxs.out]
      go_wp2_with fail
      refine (light_any ys B d 100 w1 hys1.wide).mono ?_
      rintro e w2 ⟨rfl, rfl⟩
      rw [Hbys.out]
      go_wp2_with fail
      refine (light_any zs C g 100 w1 hzs1.wide).mono ?_
      rintro e w2 ⟨rfl, rfl⟩
      rw [Hbzs.out]
      go_wp2_with fail
      refine (light_any os D r 100 w1 hos1.wide).mono ?_
      rintro e w2 ⟨rfl, rfl⟩
      rw [Hbos.out]
      go_wp2_with fail
      refine (light_any ts E s 100 w1 hts1.wide).mono ?_
      rintro e w2 ⟨rfl, rfl⟩
      rw [Hbts.out]
      go_wp2_with fail
      go_ret
      exact ⟨rfl, hb1⟩
    by_cases bad4 : 100 < p
    · go_enter Try.func5, Try.ntmps5
      go_wp2_with fail
      refine HW.out.mono ?_
      rintro e w1 ⟨rfl, hb1⟩
      have hxs1 := hxs.below hb1
      have hys1 := hys.below hb1
      have hzs1 := hzs.below hb1
      have hos1 := hos.below hb1
      have hts1 := hts.below hb1
      go_wp2_with fail
      refine (light_any xs A c 100 w1 hxs1.wide).mono ?_
      rintro e w2 ⟨rfl, rfl⟩
      rw [Hbxs.out]
      go_wp2_with fail
      refine (light_any ys B d 100 w1 hys1.wide).mono ?_
      rintro e w2 ⟨rfl, rfl⟩
      rw [Hbys.out]
      go_wp2_with fail
      refine (light_any zs C g 100 w1 hzs1.wide).mono ?_
      rintro e w2 ⟨rfl, rfl⟩
      rw [Hbzs.out]
      go_wp2_with fail
      refine (light_any os D r 100 w1 hos1.wide).mono ?_
      rintro e w2 ⟨rfl, rfl⟩
      rw [Hbos.out]
      go_wp2_with fail
      refine (light_any ts E s 100 w1 hts1.wide).mono ?_
      rintro e w2 ⟨rfl, rfl⟩
      rw [Hbts.out]
      go_wp2_with fail
      go_ret
      exact ⟨rfl, hb1⟩
    go_enter Try.func5, Try.ntmps5
    go_wp2_with fail
    refine HW.out.mono ?_
    rintro e w1 ⟨rfl, hb1⟩
    have hxs1 := hxs.below hb1
    have hys1 := hys.below hb1
    have hzs1 := hzs.below hb1
    have hos1 := hos.below hb1
    have hts1 := hts.below hb1
    go_wp2_with fail
    refine (light_any xs A c 100 w1 hxs1.wide).mono ?_
    rintro e w2 ⟨rfl, rfl⟩
    rw [Hbxs.out]
    go_wp2_with fail
    refine (light_any ys B d 100 w1 hys1.wide).mono ?_
    rintro e w2 ⟨rfl, rfl⟩
    rw [Hbys.out]
    go_wp2_with fail
    refine (light_any zs C g 100 w1 hzs1.wide).mono ?_
    rintro e w2 ⟨rfl, rfl⟩
    rw [Hbzs.out]
    go_wp2_with fail
    refine (light_any os D r 100 w1 hos1.wide).mono ?_
    rintro e w2 ⟨rfl, rfl⟩
    rw [Hbos.out]
    go_wp2_with fail
    refine (light_any ts E s 100 w1 hts1.wide).mono ?_
    rintro e w2 ⟨rfl, rfl⟩
    rw [Hbts.out]
    clear hxs1 hys1 hzs1 hos1 hts1
    obtain ⟨b1, hb1'⟩ : ∃ b, stands xs p ys = b := ⟨_, rfl⟩
    obtain ⟨b2, hb2'⟩ : ∃ b, stands xs (p + (ys.length : Int) + gap) os = b := ⟨_, rfl⟩
    obtain ⟨l1, hl1⟩ : ∃ l, swpR xs p ys zs = l := ⟨_, rfl⟩
    obtain ⟨l2, hl2⟩ : ∃ l, swpR xs (p + (ys.length : Int) + gap) os ts = l := ⟨_, rfl⟩
    have ll1 := swpR_length xs p ys zs
    have ll2 := swpR_length xs (p + (ys.length : Int) + gap) os ts
    rw [hl1] at ll1
    rw [hl2] at ll2
    have HP : Kp (b1 = true → b2 = true → ∃ l, stands l1 (p + (ys.length : Int) + gap - (ys.length : Int) + (zs.length : Int)) os = true ∧ swpR l1 (p + (ys.length : Int) + gap - (ys.length : Int) + (zs.length : Int)) os ts = l ∧ stands l2 p ys = true ∧ swpR l2 p ys zs = l) := ⟨by
      intro e1 e2
      rw [e1] at hb1'
      rw [e2] at hb2'
      obtain ⟨P, G, T, hx, hp, hq⟩ := apart_parts hb1' hb2' (by omega)
      obtain ⟨u1, u2, u3, u4, u5, u6⟩ := apart_eq P ys G os T zs ts p (p + (ys.length : Int) + gap) hp hq
      rw [← hx] at u1 u2
      rw [← hl1, ← hl2, u1, u2]
      exact ⟨_, u3, u4, u5, u6⟩⟩
    have HB1 := Kp.mk hb1'
    have HB2 := Kp.mk hb2'
    have HL1 := Kp.mk hl1
    have HL2 := Kp.mk hl2
    clear hb1' hb2' hl1 hl2
    go_wp2_with fail
    refine (Swap_all xs ys zs A B C _ _ _ c d g p w1 b1 l1 HB1.out HL1.out rfl rfl rfl (by omega) (hxs.later hb1) (hys.later hb1) (hzs.later hb1) (by omega) (by omega) (by omega) (by omega) (by omega)).mono ?_
    rintro e w2 ⟨F, u, rfl, _, _, hF, kb2⟩
    have hb2 := hb1.trans (kb2.mono hb1.size)
    have hF2 := hF.wide
    clear hF
    go_wp2_with fail
    refine (Swap_all xs os ts A D E _ _ _ c r s _ w2 b2 l2 HB2.out HL2.out rfl rfl rfl (by omega) (hxs.later hb2) (hos.later hb2) (hts.later hb2) (by omega) (by omega) (by omega) (by omega) (by omega)).mono ?_
    rintro e w3 ⟨G, v, rfl, _, _, hG, kb3⟩
    have hb3 := hb2.trans (kb3.mono hb2.size)
    have hF3 := hF2.later kb3
    have hG3 := hG.wide
    clear hF2 hG

    cases b1 with
    | false =>
      go_wp2_with fail
      go_ret
      exact ⟨rfl, hb3⟩
    | true =>
      cases b2 with
      | false =>
        go_wp2_with fail
        go_ret
        exact ⟨rfl, hb3⟩
      | true =>
        obtain ⟨l, hl⟩ := HP.out rfl rfl
        obtain ⟨h1, h2, h3, h4⟩ := hl
        have ll := swpR_length l2 p ys zs
        rw [h4] at ll
        have H1 := Kp.mk h1
        have H2 := Kp.mk h2
        have H3 := Kp.mk h3
        have H4 := Kp.mk h4
        clear h1 h2 h3 h4
        go_wp2_with fail
        refine (Swap_all l1 os ts F D E _ _ _ u r s _ w3 true l H1.out H2.out rfl rfl rfl (by omega) hF3 (hos.later hb3) (hts.later hb3) (by omega) (by omega) (by omega) (by omega) (by omega)).mono ?_
        rintro e w4 ⟨M, i, rfl, _, _, hM, kb4⟩
        have hb4 := hb3.trans (kb4.mono hb3.size)
        have hG4 := hG3.later kb4
        have hM4 := hM.wide
        clear hM hG3
        go_wp2_with fail
        refine (Swap_all l2 ys zs G B C _ _ _ v d g p w4 true l H3.out H4.out rfl rfl rfl (by omega) hG4 (hys.later hb4) (hzs.later hb4) (by omega) (by omega) (by omega) (by omega) (by omega)).mono ?_
        rintro e w5 ⟨N, j, rfl, _, _, hN, kb5⟩
        have hb5 := hb4.trans (kb5.mono hb4.size)
        have hM5 := hM4.later kb5
        have hN5 := hN.wide
        clear hN hM4
        go_wp2_with fail
        refine (same_at l l M N _ _ i j true w5 rfl rfl (by simp) hM5 hN5 (by omega)).mono ?_
        rintro e w6 ⟨rfl, kb6⟩
        have hb6 := hb5.trans (kb6.mono hb5.size)
        clear kb6

        go_wp2
        go_ret
        exact ⟨rfl, hb6⟩
  · have hbb : (bxs = false) ∨ (bxs = true ∧ bys = false) ∨ (bxs = true ∧ bys = true ∧ bzs = false) ∨ (bxs = true ∧ bys = true ∧ bzs = true ∧ bos = false) ∨ (bxs = true ∧ bys = true ∧ bzs = true ∧ bos = true ∧ bts = false) := by
      cases bxs <;> cases bys <;> cases bzs <;> cases bos <;> cases bts <;> simp_all
    clear hall hbxs hbys hbzs hbos hbts
    rcases hbb with rfl | ⟨rfl, rfl⟩ | ⟨rfl, rfl, rfl⟩ | ⟨rfl, rfl, rfl, rfl⟩ | ⟨rfl, rfl, rfl, rfl, rfl⟩
    all_goals
      go_enter Try.func5, Try.ntmps5
      go_wp2_with fail
      refine HW.out.mono ?_
      rintro e w1 ⟨rfl, hb1⟩
      have hxs1 := hxs.below hb1
      have hys1 := hys.below hb1
      have hzs1 := hzs.below hb1
      have hos1 := hos.below hb1
      have hts1 := hts.below hb1
      go_wp2_with fail
      refine (light_any xs A c 100 w1 hxs1.wide).mono ?_
      rintro e w2 ⟨rfl, rfl⟩
      rw [Hbxs.out]
      go_wp2_with fail
      refine (light_any ys B d 100 w1 hys1.wide).mono ?_
      rintro e w2 ⟨rfl, rfl⟩
      rw [Hbys.out]
      go_wp2_with fail
      refine (light_any zs C g 100 w1 hzs1.wide).mono ?_
      rintro e w2 ⟨rfl, rfl⟩
      rw [Hbzs.out]
      go_wp2_with fail
      refine (light_any os D r 100 w1 hos1.wide).mono ?_
      rintro e w2 ⟨rfl, rfl⟩
      rw [Hbos.out]
      go_wp2_with fail
      refine (light_any ts E s 100 w1 hts1.wide).mono ?_
      rintro e w2 ⟨rfl, rfl⟩
      rw [Hbts.out]
      go_wp2_with fail
      go_ret
      exact ⟨rfl, hb1⟩
end Go.Proofs.Ytaffkplllmnjoaa
