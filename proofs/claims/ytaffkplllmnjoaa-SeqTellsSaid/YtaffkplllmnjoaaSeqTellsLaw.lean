/- SeqTells: what any lists become when any lines are swapped, and what two have in common, is what the document says: the walk of the law. -/
import Derived.Test.YtaffkplllmnjoaaAwake2
import Derived.Test.YtaffkplllmnjoaaLight
import Derived.Test.YtaffkplllmnjoaaSame
import Derived.Test.YtaffkplllmnjoaaRefSeq
import Derived.Test.YtaffkplllmnjoaaRefEnds
namespace Go.Proofs.Ytaffkplllmnjoaa
open Go.RowKit

set_option maxRecDepth 100000 in
set_option maxHeartbeats 1000000 in
theorem seqTells_any (xs : List ByteArray) (A : Option Addr) (c : Nat) (p : Int) (ys : List ByteArray) (B : Option Addr) (d : Nat) (zs : List ByteArray) (C : Option Addr) (g : Nat) (w : World)
    (_ : xs.length ≤ c) (_ : c ≤ 9223372036854775807) (hxs : SlS w.heap.size w A xs) (_ : -9223372036854775808 ≤ p) (_ : p ≤ 9223372036854775807) (_ : ys.length ≤ d) (_ : d ≤ 9223372036854775807) (hys : SlS w.heap.size w B ys) (_ : zs.length ≤ g) (_ : g ≤ 9223372036854775807) (hzs : SlS w.heap.size w C zs) :
    Calls Try.prog 3 #[.slice A xs.length c, .int .i64 p, .slice B ys.length d, .slice C zs.length g] w fun e w' => e = .returned (.bool true) ∧ Below w.heap.size w w' := by
  have hw := awake_any w
  obtain ⟨bxs, hbxs⟩ : ∃ b, light xs 300 = b := ⟨_, rfl⟩
  obtain ⟨bys, hbys⟩ : ∃ b, light ys 300 = b := ⟨_, rfl⟩
  obtain ⟨bzs, hbzs⟩ : ∃ b, light zs 300 = b := ⟨_, rfl⟩
  have Hbxs := Kp.mk hbxs
  have Hbys := Kp.mk hbys
  have Hbzs := Kp.mk hbzs
  have HW := Kp.mk hw
  clear hw
  by_cases hall : bxs = true ∧ bys = true ∧ bzs = true
  · obtain ⟨rfl, rfl, rfl⟩ := hall
    have hnxs := light_len Hbxs.out
    clear hbxs
    have hnys := light_len Hbys.out
    clear hbys
    have hnzs := light_len Hbzs.out
    clear hbzs
    go_enter Try.func3, Try.ntmps3
    go_wp2_with fail
    refine HW.out.mono ?_
    rintro e w1 ⟨rfl, hb1⟩
    have hxs1 := hxs.below hb1
    have hys1 := hys.below hb1
    have hzs1 := hzs.below hb1
    go_wp2_with fail
    refine (light_any xs A c 300 w1 hxs1.wide).mono ?_
    rintro e w2 ⟨rfl, rfl⟩
    rw [Hbxs.out]
    go_wp2_with fail
    refine (light_any ys B d 300 w1 hys1.wide).mono ?_
    rintro e w2 ⟨rfl, rfl⟩
    rw [Hbys.out]
    go_wp2_with fail
    refine (light_any zs C g 300 w1 hzs1.wide).mono ?_
    rintro e w2 ⟨rfl, rfl⟩
    rw [Hbzs.out]
    obtain ⟨b, hb⟩ : ∃ b, stands xs p ys = b := ⟨_, rfl⟩
    obtain ⟨l, hl⟩ : ∃ l, swpR xs p ys zs = l := ⟨_, rfl⟩
    have ll := swpR_length xs p ys zs
    rw [hl] at ll
    have HB := Kp.mk hb
    have HL := Kp.mk hl
    have hF1 : ∀ W : World, Below w.heap.size w W → Calls Try.prog 15 #[.slice A xs.length c, .slice B ys.length d] W fun e w' => e = .returned (.int .i64 (com xs ys : Nat)) ∧ Below W.heap.size W w' :=
      fun W hW => Front_any xs ys A B c d W (hxs.later hW) (hys.later hW) (by omega)
    have hF2 : ∀ W : World, Below w.heap.size w W → Calls Try.prog 16 #[.slice A xs.length c, .slice B ys.length d] W fun e w' => e = .returned (.int .i64 (com xs ys : Nat)) ∧ Below W.heap.size W w' :=
      fun W hW => refFront_any xs ys A B c d W (hxs.later hW) (hys.later hW) (by omega) (by omega)
    have hG1 : ∀ W : World, Below w.heap.size w W → Calls Try.prog 17 #[.slice A xs.length c, .slice B ys.length d] W fun e w' => e = .returned (.int .i64 (bak xs ys : Nat)) ∧ Below W.heap.size W w' :=
      fun W hW => Back_any xs ys A B c d W (by omega) (by omega) (hxs.later hW) (hys.later hW) (by omega) (by omega)
    have hG2 : ∀ W : World, Below w.heap.size w W → Calls Try.prog 18 #[.slice A xs.length c, .slice B ys.length d] W fun e w' => e = .returned (.int .i64 (bak xs ys : Nat)) ∧ Below W.heap.size W w' :=
      fun W hW => refBack_any xs ys A B c d W (hxs.later hW) (hys.later hW) (by omega) (by omega)
    obtain ⟨f, ef⟩ : ∃ f, com xs ys = f := ⟨_, rfl⟩
    obtain ⟨k, ek⟩ : ∃ k, bak xs ys = k := ⟨_, rfl⟩
    rw [ef] at hF1 hF2
    rw [ek] at hG1 hG2
    have HF1 := Kp.mk hF1
    have HF2 := Kp.mk hF2
    have HG1 := Kp.mk hG1
    have HG2 := Kp.mk hG2
    clear hb hl hF1 hF2 hG1 hG2 ef ek hxs1 hys1 hzs1
    go_wp2_with fail
    refine (Swap_all xs ys zs A B C _ _ _ c d g p w1 b l HB.out HL.out rfl rfl rfl (by omega) (hxs.later hb1) (hys.later hb1) (hzs.later hb1) (by omega) (by omega) (by omega) (by omega) (by omega)).mono ?_
    rintro e w2 ⟨D, r, rfl, _, _, hD, kb2⟩
    have hb2 := hb1.trans (kb2.mono hb1.size)
    go_wp2_with fail
    refine (refSwap_all xs ys zs A B C _ _ _ c d g p w2 b l HB.out HL.out rfl rfl rfl (by omega) (hxs.later hb2) (hys.later hb2) (hzs.later hb2) (by omega) (by omega) (by omega) (by omega) (by omega)).mono ?_
    rintro e w3 ⟨E, s, rfl, _, _, hE, kb3⟩
    have hb3 := hb2.trans (kb3.mono hb2.size)
    have hD3 : SlS w3.heap.size w3 D l := (SlS.below hD kb3).wide
    go_wp2_with fail
    refine (same_at l l D E _ _ r s true w3 rfl rfl (by simp) hD3 hE.wide (by omega)).mono ?_
    rintro e w4 ⟨rfl, kb4⟩
    have hb4 := hb3.trans (kb4.mono hb3.size)
    go_wp2_with fail
    refine (refAt_any xs ys A B _ _ c d p b w4 rfl rfl HB.out (hxs.later hb4) (hys.later hb4) (by omega) (by omega) (by omega) (by omega)).mono ?_
    rintro e w5 ⟨rfl, kb5⟩
    have hb5 := hb4.trans (kb5.mono hb4.size)
    go_wp2_with fail
    refine (At_any xs ys A B _ _ c d p b w5 rfl rfl HB.out (by omega) (hxs.later hb5) (hys.later hb5) (by omega) (by omega) (by omega) (by omega)).mono ?_
    rintro e w6 ⟨rfl, kb6⟩
    have hb6 := hb5.trans (kb6.mono hb5.size)
    go_wp2_with fail
    refine (HF1.out w6 hb6).mono ?_
    rintro e w7 ⟨rfl, kb7⟩
    have hb7 := hb6.trans (kb7.mono hb6.size)
    go_wp2_with fail
    refine (HF2.out w7 hb7).mono ?_
    rintro e w8 ⟨rfl, kb8⟩
    have hb8 := hb7.trans (kb8.mono hb7.size)
    go_wp2_with fail
    refine (HG1.out w8 hb8).mono ?_
    rintro e w9 ⟨rfl, kb9⟩
    have hb9 := hb8.trans (kb9.mono hb8.size)
    go_wp2_with fail
    refine (HG2.out w9 hb9).mono ?_
    rintro e w10 ⟨rfl, kb10⟩
    have hb10 := hb9.trans (kb10.mono hb9.size)
    go_wp2
    go_ret
    exact ⟨rfl, hb10⟩
  · have hbb : (bxs = false) ∨ (bxs = true ∧ bys = false) ∨ (bxs = true ∧ bys = true ∧ bzs = false) := by
      cases bxs <;> cases bys <;> cases bzs <;> simp_all
    clear hall hbxs hbys hbzs
    rcases hbb with rfl | ⟨rfl, rfl⟩ | ⟨rfl, rfl, rfl⟩
    all_goals
      go_enter Try.func3, Try.ntmps3
      go_wp2_with fail
      refine HW.out.mono ?_
      rintro e w1 ⟨rfl, hb1⟩
      have hxs1 := hxs.below hb1
      have hys1 := hys.below hb1
      have hzs1 := hzs.below hb1
      go_wp2_with fail
      refine (light_any xs A c 300 w1 hxs1.wide).mono ?_
      rintro e w2 ⟨rfl, rfl⟩
      rw [Hbxs.out]
      go_wp2_with fail
      refine (light_any ys B d 300 w1 hys1.wide).mono ?_
      rintro e w2 ⟨rfl, rfl⟩
      rw [Hbys.out]
      go_wp2_with fail
      refine (light_any zs C g 300 w1 hzs1.wide).mono ?_
      rintro e w2 ⟨rfl, rfl⟩
      rw [Hbzs.out]
      go_wp2_with fail
      go_ret
      exact ⟨rfl, hb1⟩
end Go.Proofs.Ytaffkplllmnjoaa
