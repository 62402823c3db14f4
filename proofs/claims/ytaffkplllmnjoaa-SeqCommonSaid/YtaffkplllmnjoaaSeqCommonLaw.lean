/- SeqCommon: what two lists have in common stands in both; together it is not longer than the shorter one, and behind what is in front something differs, or one ends: the walk of the law. -/
import Derived.Test.YtaffkplllmnjoaaAwake2
import Derived.Test.YtaffkplllmnjoaaLight
import Derived.Test.YtaffkplllmnjoaaSame
import Derived.Test.YtaffkplllmnjoaaSeqPl
namespace Go.Proofs.Ytaffkplllmnjoaa
open Go.RowKit

set_option maxRecDepth 100000 in
set_option maxHeartbeats 1000000 in
theorem seqCommon_any (xs : List ByteArray) (A : Option Addr) (c : Nat) (ys : List ByteArray) (B : Option Addr) (d : Nat) (w : World)
    (_ : xs.length ≤ c) (_ : c ≤ 9223372036854775807) (hxs : SlS w.heap.size w A xs) (_ : ys.length ≤ d) (_ : d ≤ 9223372036854775807) (hys : SlS w.heap.size w B ys) :
    Calls Try.prog 6 #[.slice A xs.length c, .slice B ys.length d] w fun e w' => e = .returned (.bool true) ∧ Below w.heap.size w w' := by
  have hw := awake_any w
  obtain ⟨bxs, hbxs⟩ : ∃ b, light xs 300 = b := ⟨_, rfl⟩
  obtain ⟨bys, hbys⟩ : ∃ b, light ys 300 = b := ⟨_, rfl⟩
  have Hbxs := Kp.mk hbxs
  have Hbys := Kp.mk hbys
  have HW := Kp.mk hw
  clear hw
  by_cases hall : bxs = true ∧ bys = true
  · obtain ⟨rfl, rfl⟩ := hall
    have hnxs := light_len Hbxs.out
    clear hbxs
    have hnys := light_len Hbys.out
    clear hbys
    go_enter Try.func6, Try.ntmps6
    go_wp2_with fail
    refine HW.out.mono ?_
    rintro e w1 ⟨rfl, hb1⟩
    have hxs1 := hxs.below hb1
    have hys1 := hys.below hb1
    go_wp2_with fail
    refine (light_any xs A c 300 w1 hxs1.wide).mono ?_
    rintro e w2 ⟨rfl, rfl⟩
    rw [Hbxs.out]
    go_wp2_with fail
    refine (light_any ys B d 300 w1 hys1.wide).mono ?_
    rintro e w2 ⟨rfl, rfl⟩
    rw [Hbys.out]
    clear hxs1 hys1
    obtain ⟨k1, k2, -⟩ := bak_tail xs ys
    have q1 := bak_comm xs ys
    have q2 := com_comm xs ys
    have hF : ∀ W : World, Below w.heap.size w W → Calls Try.prog 15 #[.slice A xs.length c, .slice B ys.length d] W fun e w' => e = .returned (.int .i64 (com xs ys : Nat)) ∧ Below W.heap.size W w' :=
      fun W hW => Front_any xs ys A B c d W (hxs.later hW) (hys.later hW) (by omega)
    have hF2 : ∀ W : World, Below w.heap.size w W → Calls Try.prog 15 #[.slice B ys.length d, .slice A xs.length c] W fun e w' => e = .returned (.int .i64 (com ys xs : Nat)) ∧ Below W.heap.size W w' :=
      fun W hW => Front_any ys xs B A d c W (hys.later hW) (hxs.later hW) (by omega)
    have hG : ∀ W : World, Below w.heap.size w W → Calls Try.prog 17 #[.slice A xs.length c, .slice B ys.length d] W fun e w' => e = .returned (.int .i64 (bak xs ys : Nat)) ∧ Below W.heap.size W w' :=
      fun W hW => Back_any xs ys A B c d W (by omega) (by omega) (hxs.later hW) (hys.later hW) (by omega) (by omega)
    have hG2 : ∀ W : World, Below w.heap.size w W → Calls Try.prog 17 #[.slice B ys.length d, .slice A xs.length c] W fun e w' => e = .returned (.int .i64 (bak ys xs : Nat)) ∧ Below W.heap.size W w' :=
      fun W hW => Back_any ys xs B A d c W (by omega) (by omega) (hys.later hW) (hxs.later hW) (by omega) (by omega)
    rw [← q2] at hF2
    rw [q1] at hG2
    obtain ⟨f, ef⟩ : ∃ f, com xs ys = f := ⟨_, rfl⟩
    obtain ⟨k, ek⟩ : ∃ k, bak xs ys = k := ⟨_, rfl⟩
    have s1 := stands_front xs ys f (by omega)
    have s2 := stands_back xs ys k ek _ rfl
    have s3 := com_ends xs ys f ef
    rw [ef] at k1 k2 hF hF2
    rw [ek] at k1 k2 hG hG2
    have HF := Kp.mk hF
    have HF2 := Kp.mk hF2
    have HG := Kp.mk hG
    have HG2 := Kp.mk hG2
    have H1 := Kp.mk s1
    have H2 := Kp.mk s2
    have H3 := Kp.mk s3
    have HE1 : Kp (f = (ys.take f).length) := ⟨by simp; omega⟩
    have HE2 : Kp (k = (ys.drop (ys.length - k)).length) := ⟨by simp; omega⟩
    have HE3 : Kp ((ys.take f).length ≤ 100000) := ⟨by simp; omega⟩
    have HE4 : Kp ((ys.drop (ys.length - k)).length ≤ 100000) := ⟨by simp; omega⟩
    clear hF hG hF2 hG2 ef ek q1 q2 s1 s2 s3
    go_wp2_with fail
    refine (HF.out w1 hb1).mono ?_
    rintro e w2 ⟨rfl, kb2⟩
    have hb2 := hb1.trans (kb2.mono hb1.size)
    clear kb2
    go_wp2_with fail
    refine (HG.out w2 hb2).mono ?_
    rintro e w3 ⟨rfl, kb3⟩
    have hb3 := hb2.trans (kb3.mono hb2.size)
    clear kb3

    have i1 : (f : Int) + (k : Int) ≤ xs.length := by omega
    have i2 : (f : Int) + (k : Int) ≤ ys.length := by omega
    by_cases hlt : ys.length < xs.length
    · have j1 : (ys.length : Int) < (xs.length : Int) := by omega
      go_wp2_with fail
      refine (HF2.out w3 hb3).mono ?_
      rintro e w4 ⟨rfl, kb4⟩
      have hb4 := hb3.trans (kb4.mono hb3.size)
      clear kb4
      go_wp2_with fail
      refine (HG2.out w4 hb4).mono ?_
      rintro e w5 ⟨rfl, kb5⟩
      have hb5 := hb4.trans (kb5.mono hb4.size)
      clear kb5
      have v2 : IntKind.i64.wrap ((xs.length : Int) - (k : Int)) = (xs.length : Int) - (k : Int) := IntWalk.i64_in _ (by omega)
      have v3 : IntKind.i64.wrap ((ys.length : Int) - (k : Int)) = (ys.length : Int) - (k : Int) := IntWalk.i64_in _ (by omega)
      have v6 : ((ys.length : Int) - (k : Int)).toNat = ys.length - k := by omega
      have i4 : k ≤ ys.length := by omega
      have i5 : f ≤ ys.length := by omega
      have i6 : f ≤ d := by omega
      have i7 : (0 : Int) ≤ (ys.length : Int) - (k : Int) := by omega
      have i8 : (ys.length : Int) - (k : Int) ≤ (ys.length : Int) := by omega
      have i9 : ys.length - (ys.length - k) = k := by omega
      have hY5 := (hys.later hb5).take (k := f) (by omega)
      have hZ5 := (hys.later hb5).cut (k := ys.length - k) (c := d) (by omega) (by omega)
      obtain ⟨S2, g2⟩ : ∃ S, (if d = ys.length - k then B else B.map (fun x => x.add (ys.length - k))) = S := ⟨_, rfl⟩
      rw [g2] at hZ5
      have hX5 := hxs.later hb5
      have hW5 := hys.later hb5
      have H2b : Kp (stands xs ((xs.length : Int) - (k : Int)) (ys.drop (ys.length - k)) = true) := ⟨by have := H2.out; rw [Int.ofNat_sub (by omega)] at this; exact this⟩
      by_cases hf : f = ys.length
      · have b1 : ((f : Int) == (ys.length : Int)) = true := beq_iff_eq.2 (by omega)
        clear hf
        go_wp2
        go_quiet (first
          | (go_at_call_of 14 f; exact quiet_any fun q => At_q xs (ys.take f) _ _ _ _ c d 0 true (w5.drewN q) rfl HE1.out H1.out (by omega) (hX5.drewN q) (hY5.drewN q) (by omega) HE3.out (by omega) (by omega))
          | (go_at_call_of 14 k; exact quiet_any fun q => At_q xs _ _ S2 _ _ c _ _ true (w5.drewN q) rfl HE2.out H2b.out (by omega) (hX5.drewN q) (hZ5.drewN q) (by omega) HE4.out (by omega) (by omega)))
        go_wp2
        go_ret
        exact ⟨rfl, below_drewN hb5 _⟩
      · have b1 : ((f : Int) == (ys.length : Int)) = false := beq_eq_false_iff_ne.2 (by omega)
        have b4 : f < xs.length := by omega
        have b5 : f < ys.length := by omega
        have b6 : (f : Int) < (xs.length : Int) := by omega
        have b7 : (f : Int) < (ys.length : Int) := by omega
        have b2 : ((sAt xs f).toList == (sAt ys f).toList) = false := by rw [str_beq]; exact decide_eq_false (H3.out b4 b5)
        clear hf
        obtain ⟨aa, ea, hga, ca⟩ := hX5.at_ (k := f) (by omega)
        obtain ⟨ab, eb, hgb, cb⟩ := hW5.at_ (k := f) (by omega)
        subst ea eb
        simp only [Option.map_some] at g2
        go_wp2
        go_quiet (first
          | (go_at_call_of 14 f; exact quiet_any fun q => At_q xs (ys.take f) _ _ _ _ c d 0 true (w5.drewN q) rfl HE1.out H1.out (by omega) (hX5.drewN q) (hY5.drewN q) (by omega) HE3.out (by omega) (by omega))
          | (go_at_call_of 14 k; exact quiet_any fun q => At_q xs _ _ S2 _ _ c _ _ true (w5.drewN q) rfl HE2.out H2b.out (by omega) (hX5.drewN q) (hZ5.drewN q) (by omega) HE4.out (by omega) (by omega)))
        go_wp2
        go_ret
        exact ⟨rfl, below_drewN hb5 _⟩

    · have j1 : ¬ (ys.length : Int) < (xs.length : Int) := by omega
      go_wp2_with fail
      refine (HF2.out w3 hb3).mono ?_
      rintro e w4 ⟨rfl, kb4⟩
      have hb4 := hb3.trans (kb4.mono hb3.size)
      clear kb4
      go_wp2_with fail
      refine (HG2.out w4 hb4).mono ?_
      rintro e w5 ⟨rfl, kb5⟩
      have hb5 := hb4.trans (kb5.mono hb4.size)
      clear kb5
      have v2 : IntKind.i64.wrap ((xs.length : Int) - (k : Int)) = (xs.length : Int) - (k : Int) := IntWalk.i64_in _ (by omega)
      have v3 : IntKind.i64.wrap ((ys.length : Int) - (k : Int)) = (ys.length : Int) - (k : Int) := IntWalk.i64_in _ (by omega)
      have v6 : ((ys.length : Int) - (k : Int)).toNat = ys.length - k := by omega
      have i4 : k ≤ ys.length := by omega
      have i5 : f ≤ ys.length := by omega
      have i6 : f ≤ d := by omega
      have i7 : (0 : Int) ≤ (ys.length : Int) - (k : Int) := by omega
      have i8 : (ys.length : Int) - (k : Int) ≤ (ys.length : Int) := by omega
      have i9 : ys.length - (ys.length - k) = k := by omega
      have hY5 := (hys.later hb5).take (k := f) (by omega)
      have hZ5 := (hys.later hb5).cut (k := ys.length - k) (c := d) (by omega) (by omega)
      obtain ⟨S2, g2⟩ : ∃ S, (if d = ys.length - k then B else B.map (fun x => x.add (ys.length - k))) = S := ⟨_, rfl⟩
      rw [g2] at hZ5
      have hX5 := hxs.later hb5
      have hW5 := hys.later hb5
      have H2b : Kp (stands xs ((xs.length : Int) - (k : Int)) (ys.drop (ys.length - k)) = true) := ⟨by have := H2.out; rw [Int.ofNat_sub (by omega)] at this; exact this⟩
      by_cases hf : f = xs.length
      · have b1 : ((f : Int) == (xs.length : Int)) = true := beq_iff_eq.2 (by omega)
        clear hf
        go_wp2
        go_quiet (first
          | (go_at_call_of 14 f; exact quiet_any fun q => At_q xs (ys.take f) _ _ _ _ c d 0 true (w5.drewN q) rfl HE1.out H1.out (by omega) (hX5.drewN q) (hY5.drewN q) (by omega) HE3.out (by omega) (by omega))
          | (go_at_call_of 14 k; exact quiet_any fun q => At_q xs _ _ S2 _ _ c _ _ true (w5.drewN q) rfl HE2.out H2b.out (by omega) (hX5.drewN q) (hZ5.drewN q) (by omega) HE4.out (by omega) (by omega)))
        go_wp2
        go_ret
        exact ⟨rfl, below_drewN hb5 _⟩
      · have b1 : ((f : Int) == (xs.length : Int)) = false := beq_eq_false_iff_ne.2 (by omega)
        have b4 : f < xs.length := by omega
        have b5 : f < ys.length := by omega
        have b6 : (f : Int) < (xs.length : Int) := by omega
        have b7 : (f : Int) < (ys.length : Int) := by omega
        have b2 : ((sAt xs f).toList == (sAt ys f).toList) = false := by rw [str_beq]; exact decide_eq_false (H3.out b4 b5)
        clear hf
        obtain ⟨aa, ea, hga, ca⟩ := hX5.at_ (k := f) (by omega)
        obtain ⟨ab, eb, hgb, cb⟩ := hW5.at_ (k := f) (by omega)
        subst ea eb
        simp only [Option.map_some] at g2
        go_wp2
        go_quiet (first
          | (go_at_call_of 14 f; exact quiet_any fun q => At_q xs (ys.take f) _ _ _ _ c d 0 true (w5.drewN q) rfl HE1.out H1.out (by omega) (hX5.drewN q) (hY5.drewN q) (by omega) HE3.out (by omega) (by omega))
          | (go_at_call_of 14 k; exact quiet_any fun q => At_q xs _ _ S2 _ _ c _ _ true (w5.drewN q) rfl HE2.out H2b.out (by omega) (hX5.drewN q) (hZ5.drewN q) (by omega) HE4.out (by omega) (by omega)))
        go_wp2
        go_ret
        exact ⟨rfl, below_drewN hb5 _⟩
  · have hbb : (bxs = false) ∨ (bxs = true ∧ bys = false) := by
      cases bxs <;> cases bys <;> simp_all
    clear hall hbxs hbys
    rcases hbb with rfl | ⟨rfl, rfl⟩
    all_goals
      go_enter Try.func6, Try.ntmps6
      go_wp2_with fail
      refine HW.out.mono ?_
      rintro e w1 ⟨rfl, hb1⟩
      have hxs1 := hxs.below hb1
      have hys1 := hys.below hb1
      go_wp2_with fail
      refine (light_any xs A c 300 w1 hxs1.wide).mono ?_
      rintro e w2 ⟨rfl, rfl⟩
      rw [Hbxs.out]
      go_wp2_with fail
      refine (light_any ys B d 300 w1 hys1.wide).mono ?_
      rintro e w2 ⟨rfl, rfl⟩
      rw [Hbys.out]
      go_wp2_with fail
      go_ret
      exact ⟨rfl, hb1⟩
end Go.Proofs.Ytaffkplllmnjoaa
