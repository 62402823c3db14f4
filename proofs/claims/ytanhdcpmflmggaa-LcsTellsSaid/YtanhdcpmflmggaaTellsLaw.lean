/- LcsTells: how many lines two lists have in common, and which pairs are told, is what the document says: the walk of the law. -/
import Derived.Test.YtanhdcpmflmggaaAwake3
import Derived.Test.YtanhdcpmflmggaaLight
import Derived.Test.YtanhdcpmflmggaaRefPairs
namespace Go.Proofs.Ytanhdcpmflmggaa
open Go.RowKit

set_option maxRecDepth 100000 in
set_option maxHeartbeats 1000000 in
theorem lcsTells_any (xs : List ByteArray) (A : Option Addr) (c : Nat) (ys : List ByteArray) (B : Option Addr) (d : Nat) (w : World)
    (_ : xs.length ≤ c) (_ : c ≤ 9223372036854775807) (hxs : SlS w.heap.size w A xs) (_ : ys.length ≤ d) (_ : d ≤ 9223372036854775807) (hys : SlS w.heap.size w B ys) :
    Calls Try.prog 3 #[.slice A xs.length c, .slice B ys.length d] w fun e w' => e = .returned (.bool true) ∧ Below w.heap.size w w' := by
  have hw := awake_any w
  obtain ⟨bxs, hbxs⟩ : ∃ b, light xs 60 = b := ⟨_, rfl⟩
  obtain ⟨bys, hbys⟩ : ∃ b, light ys 60 = b := ⟨_, rfl⟩
  have Hbxs := Kp.mk hbxs
  have Hbys := Kp.mk hbys
  have HW := Kp.mk hw
  clear hw
  by_cases hall : bxs = true ∧ bys = true
  · obtain ⟨rfl, rfl⟩ := hall
    have hnxs := light_len Hbxs.out
    clear hbxs
    have hnys := light_len Hbys.out
    clear hbys
    go_enter Try.func3, Try.ntmps3
    go_wp2_with fail
    refine HW.out.mono ?_
    rintro e w1 ⟨rfl, hb1⟩
    have hxs1 := hxs.below hb1
    have hys1 := hys.below hb1
    go_wp2_with fail
    refine (light_any xs A c 60 w1 hxs1.wide).mono ?_
    rintro e w2 ⟨rfl, rfl⟩
    rw [Hbxs.out]
    go_wp2_with fail
    refine (light_any ys B d 60 w1 hys1.wide).mono ?_
    rintro e w2 ⟨rfl, rfl⟩
    rw [Hbys.out]
    obtain ⟨ps, hps⟩ : ∃ ps, Qm.pairs xs ys 0 0 = ps := ⟨_, rfl⟩
    have hN : ps.length ≤ 100000 := by rw [← hps]; exact Nat.le_trans (Qm.pairs_le_left xs ys 0 0) (by omega)
    obtain ⟨n, hn⟩ : ∃ n, tab xs ys 0 0 = n := ⟨_, rfl⟩
    have hP : ∀ W : World, Below w.heap.size w W → Calls Try.prog 12 #[.slice A xs.length c, .slice B ys.length d] W fun e w' => ∃ C k, e = .returned (.slice C ps.length k) ∧ SlP W.heap.size w' C ps ∧ Below W.heap.size W w' := by
      intro W hW
      have h := pairs_any xs ys A B c d W (hxs.later hW) (hys.later hW) (by omega) (by omega)
      rw [hps] at h
      exact h
    have hR : ∀ W : World, Below w.heap.size w W → Calls Try.prog 13 #[.slice A xs.length c, .slice B ys.length d] W fun e w' => ∃ C k, e = .returned (.slice C ps.length k) ∧ SlP W.heap.size w' C ps ∧ Below W.heap.size W w' := by
      intro W hW
      have h := refPairs_any xs ys A B c d W (hxs.later hW) (hys.later hW) (by omega) (by omega)
      rw [hps] at h
      exact h
    have hT : ∀ W : World, Below w.heap.size w W → Calls Try.prog 15 #[.slice A xs.length c, .slice B ys.length d] W fun e w' => e = .returned (.int .i64 n) ∧ Below W.heap.size W w' := by
      intro W hW
      have h := refMany_any xs ys A B c d W (hxs.later hW) (hys.later hW) (by omega) (by omega)
      rw [hn] at h
      exact h
    have HP := Kp.mk hP
    have HR := Kp.mk hR
    have HT := Kp.mk hT
    have HN := Kp.mk hn
    clear hP hR hT hps hn
    go_wp2_with fail
    refine (HP.out w1 hb1).mono ?_
    rintro e w2 ⟨C, k, rfl, hC, kb2⟩
    have hb2 := hb1.trans (kb2.mono hb1.size)
    go_wp2_with fail
    refine (HR.out w2 hb2).mono ?_
    rintro e w3 ⟨D, l, rfl, hD, kb3⟩
    have hb3 := hb2.trans (kb3.mono hb2.size)
    have hC3 : SlP w3.heap.size w3 C ps := (Sl.below hC kb3).wide
    go_wp2_with fail
    refine (refSame3_any ps C D k l w3 hC3 (Sl.wide hD) hN).mono ?_
    rintro e w4 ⟨rfl, kb4⟩
    have hb4 := hb3.trans (kb4.mono hb3.size)
    go_wp2_with fail
    refine (many_at xs ys A B _ _ c d w w4 hb4 (hxs.later hb4) (hys.later hb4) (by omega) (by omega) n HN.out rfl rfl).mono ?_
    rintro e w5 ⟨rfl, hb5, _⟩
    go_wp2_with fail
    refine (HT.out w5 hb5).mono ?_
    rintro e w6 ⟨rfl, kb6⟩
    have hb6 := hb5.trans (kb6.mono hb5.size)
    go_wp2
    go_ret
    exact ⟨rfl, hb6⟩
  · have hbb : (bxs = false) ∨ (bxs = true ∧ bys = false) := by
      cases bxs <;> cases bys <;> simp_all
    clear hall hbxs hbys
    rcases hbb with rfl | ⟨rfl, rfl⟩
    all_goals
      go_enter Try.func3, Try.ntmps3
      go_wp2_with fail
      refine HW.out.mono ?_
      rintro e w1 ⟨rfl, hb1⟩
      have hxs1 := hxs.below hb1
      have hys1 := hys.below hb1
      go_wp2_with fail
      refine (light_any xs A c 60 w1 hxs1.wide).mono ?_
      rintro e w2 ⟨rfl, rfl⟩
      rw [Hbxs.out]
      go_wp2_with fail
      refine (light_any ys B d 60 w1 hys1.wide).mono ?_
      rintro e w2 ⟨rfl, rfl⟩
      rw [Hbys.out]
      go_wp2_with fail
      go_ret
      exact ⟨rfl, hb1⟩
end Go.Proofs.Ytanhdcpmflmggaa
