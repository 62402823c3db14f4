/- SeqBack: what is swapped, and swapped back, is as it was; what stands there then is what was put there: the walk of the law. -/
import Derived.Test.YtaffkplllmnjoaaAwake2
import Derived.Test.YtaffkplllmnjoaaLight
import Derived.Test.YtaffkplllmnjoaaSame
import Derived.Test.YtaffkplllmnjoaaSeqPl
namespace Go.Proofs.Ytaffkplllmnjoaa
open Go.RowKit

set_option maxRecDepth 100000 in
set_option maxHeartbeats 1000000 in
theorem seqBack_any (xs : List ByteArray) (A : Option Addr) (c : Nat) (p : Int) (ys : List ByteArray) (B : Option Addr) (d : Nat) (zs : List ByteArray) (C : Option Addr) (g : Nat) (w : World)
    (_ : xs.length ≤ c) (_ : c ≤ 9223372036854775807) (hxs : SlS w.heap.size w A xs) (_ : -9223372036854775808 ≤ p) (_ : p ≤ 9223372036854775807) (_ : ys.length ≤ d) (_ : d ≤ 9223372036854775807) (hys : SlS w.heap.size w B ys) (_ : zs.length ≤ g) (_ : g ≤ 9223372036854775807) (hzs : SlS w.heap.size w C zs) :
    Calls Try.prog 4 #[.slice A xs.length c, .int .i64 p, .slice B ys.length d, .slice C zs.length g] w fun e w' => e = .returned (.bool true) ∧ Below w.heap.size w w' := by
  have hw := awake_any w
  obtain ⟨bxs, hbxs⟩ : ∃ b, light xs 300 = b := ⟨_, rfl⟩
  obtain ⟨bys, hbys⟩ : ∃ b, light ys 300 = b := ⟨_, rfl⟩
  obtain ⟨bzs, hbzs⟩ : ∃ b, light zs 300 = b := ⟨_, rfl⟩
  have Hbxs := Kp.mk hbxs
  have Hbys := Kp.mk hbys
  have Hbzs := Kp.mk hbzs
  have HW := Kp.mk hw
  clear hw
  by_cases hall : bxs = true ∧ bys = true ∧ bzs = true
  · obtain ⟨rfl, rfl, rfl⟩ := hall
    have hnxs := light_len Hbxs.out
    clear hbxs
    have hnys := light_len Hbys.out
    clear hbys
    have hnzs := light_len Hbzs.out
    clear hbzs
    go_enter Try.func4, Try.ntmps4
    go_wp2_with fail
    refine HW.out.mono ?_
    rintro e w1 ⟨rfl, hb1⟩
    have hxs1 := hxs.below hb1
    have hys1 := hys.below hb1
    have hzs1 := hzs.below hb1
    go_wp2_with fail
    refine (light_any xs A c 300 w1 hxs1.wide).mono ?_
    rintro e w2 ⟨rfl, rfl⟩
    rw [Hbxs.out]
    go_wp2_with fail
    refine (light_any ys B d 300 w1 hys1.wide).mono ?_
    rintro e w2 ⟨rfl, rfl⟩
    rw [Hbys.out]
    go_wp2_with fail
    refine (light_any zs C g 300 w1 hzs1.wide).mono ?_
    rintro e w2 ⟨rfl, rfl⟩
    rw [Hbzs.out]
    obtain ⟨b, hb⟩ : ∃ b, stands xs p ys = b := ⟨_, rfl⟩
    obtain ⟨l, hl⟩ : ∃ l, swpR xs p ys zs = l := ⟨_, rfl⟩
    have ll := swpR_length xs p ys zs
    rw [hl] at ll
    clear hxs1 hys1 hzs1
    cases b with
    | false =>
      have h0 : l = [] := by rw [← hl]; unfold swpR; rw [hb]; rfl
      subst h0
      have HB := Kp.mk hb
      have HL := Kp.mk hl
      clear hb hl
      go_wp2_with fail
      refine (Swap_all xs ys zs A B C _ _ _ c d g p w1 false [] HB.out HL.out rfl rfl rfl (by omega) (hxs.later hb1) (hys.later hb1) (hzs.later hb1) (by omega) (by omega) (by omega) (by omega) (by omega)).mono ?_
      rintro e w2 ⟨D, r, rfl, _, _, _, kb2⟩
      have hb2 := hb1.trans (kb2.mono hb1.size)
      clear kb2
      go_wp2_with fail
      refine (At_any xs ys A B _ _ c d p false w2 rfl rfl HB.out (by omega) (hxs.later hb2) (hys.later hb2) (by omega) (by omega) (by omega) (by omega)).mono ?_
      rintro e w3 ⟨rfl, kb3⟩
      have hb3 := hb2.trans (kb3.mono hb2.size)
      clear kb3

      go_wp2
      go_ret
      exact ⟨rfl, hb3⟩

    | true =>
      obtain ⟨P, S, hx, hp⟩ := stands_parts hb
      have hl2 : l = P ++ zs ++ S := by rw [← hl, hx]; exact swpR_mid P ys S zs p hp
      have h1 : stands l p zs = true := by rw [hl2]; exact stands_mid P zs S p hp
      have h2 : swpR l p zs ys = xs := by rw [hl2, hx]; exact swpR_mid P zs S ys p hp
      have h3 : ((l.length : Int) == (xs.length : Int) - (ys.length : Int) + (zs.length : Int)) = true := by
        rw [hl2, hx]; simp; omega
      have HB := Kp.mk hb
      have HL := Kp.mk hl
      have H1 := Kp.mk h1
      have H2 := Kp.mk h2
      clear hb hl hx hp hl2 h1 h2
      go_wp2_with fail
      refine (Swap_all xs ys zs A B C _ _ _ c d g p w1 true l HB.out HL.out rfl rfl rfl (by omega) (hxs.later hb1) (hys.later hb1) (hzs.later hb1) (by omega) (by omega) (by omega) (by omega) (by omega)).mono ?_
      rintro e w2 ⟨D, r, rfl, _, _, hD, kb2⟩
      have hb2 := hb1.trans (kb2.mono hb1.size)

      go_wp2_with fail
      refine (Swap_all l zs ys D C B _ _ _ r g d p w2 true xs H1.out H2.out rfl rfl rfl (by omega) hD.wide (hzs.later hb2) (hys.later hb2) (by omega) (by omega) (by omega) (by omega) (by omega)).mono ?_
      rintro e w3 ⟨E, s, rfl, _, _, hE, kb3⟩
      have hb3 := hb2.trans (kb3.mono hb2.size)
      have hD3 : SlS w3.heap.size w3 D l := hD.wide.later kb3
      go_wp2_with fail
      refine (same_at xs xs E A _ _ s c true w3 rfl rfl (by simp) hE.wide (hxs.later hb3) (by omega)).mono ?_
      rintro e w4 ⟨rfl, kb4⟩
      have hb4 := hb3.trans (kb4.mono hb3.size)
      have hD4 := hD3.later kb4
      go_wp2_with fail
      refine (At_any l zs D C _ _ r g p true w4 rfl rfl H1.out (by omega) hD4 (hzs.later hb4) (by omega) (by omega) (by omega) (by omega)).mono ?_
      rintro e w5 ⟨rfl, kb5⟩
      have hb5 := hb4.trans (kb5.mono hb4.size)
      clear kb5

      go_wp2
      go_ret
      exact ⟨rfl, hb5⟩
  · have hbb : (bxs = false) ∨ (bxs = true ∧ bys = false) ∨ (bxs = true ∧ bys = true ∧ bzs = false) := by
      cases bxs <;> cases bys <;> cases bzs <;> simp_all
    clear hall hbxs hbys hbzs
    rcases hbb with rfl | ⟨rfl, rfl⟩ | ⟨rfl, rfl, rfl⟩
    all_goals
      go_enter Try.func4, Try.ntmps4
      go_wp2_with fail
      refine HW.out.mono ?_
      rintro e w1 ⟨rfl, hb1⟩
      have hxs1 := hxs.below hb1
      have hys1 := hys.below hb1
      have hzs1 := hzs.below hb1
      go_wp2_with fail
      refine (light_any xs A c 300 w1 hxs1.wide).mono ?_
      rintro e w2 ⟨rfl, rfl⟩
      rw [Hbxs.out]
      go_wp2_with fail
      refine (light_any ys B d 300 w1 hys1.wide).mono ?_
      rintro e w2 ⟨rfl, rfl⟩
      rw [Hbys.out]
      go_wp2_with fail
      refine (light_any zs C g 300 w1 hzs1.wide).mono ?_
      rintro e w2 ⟨rfl, rfl⟩
      rw [Hbzs.out]
      go_wp2_with fail
      go_ret
      exact ⟨rfl, hb1⟩
end Go.Proofs.Ytaffkplllmnjoaa
