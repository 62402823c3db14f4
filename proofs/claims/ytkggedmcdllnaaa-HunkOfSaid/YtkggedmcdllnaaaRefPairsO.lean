/- quiltmakerref03.Pairs: the document's pairs, as a row of the call's own. -/
import Derived.Test.YtkggedmcdllnaaaRefTabO
import Derived.Test.YtkggedmcdllnaaaLcsP
namespace Go.Proofs.Ytkggedmcdllnaaa
open Go.RowKit

theorem KeepP.own {b0 n : Nat} {W w1 : World} {v : Value} {xs : List Value} {tmp : Obj} (hrow : W.ownsRow b0 60 2 v n xs) (hgrow : (W.alloc tmp).grownBy w1 v.ownBlock) : KeepP b0 W w1 :=
  (KeepP.of_grown (World.grownBy_alloc W tmp none) (fun _ e => by cases e)).trans (KeepP.of_grown hgrow (fun g e => by
    rcases (hrow.alloc tmp).2 with ⟨rfl, _⟩ | ⟨g2, cap2, cur2, rfl, hb3, hh3, _⟩
    · simp [Value.ownBlock] at e
    · obtain rfl : g2 = g := by simpa [Value.ownBlock] using e
      exact ⟨hb3, _, _, _, hh3, .inl rfl⟩))

set_option maxRecDepth 100000 in
set_option maxHeartbeats 2000000 in
theorem refPairs_own (xs ys : List ByteArray) (A B : Option Addr) (c d : Nat) (w : World) (hA : SlS w.heap.size w A xs) (hB : SlS w.heap.size w B ys)
    (hn : xs.length ≤ 100000) (hm : ys.length ≤ 100000) :
    Calls Try.prog 41 #[.slice A xs.length c, .slice B ys.length d] w fun e w' => ∃ v, e = .returned v ∧
      w'.ownsRow w.heap.size 60 2 v (Qm.pairs xs ys 0 0).length (pcs (Qm.pairs xs ys 0 0)) ∧ Below w.heap.size w w' := by
  obtain ⟨i0, hi0, hz0, hz1, hz2⟩ := info_parts Try.info_pair
  have hN : (Qm.pairs xs ys 0 0).length ≤ 100000 := Nat.le_trans (Qm.pairs_le_left xs ys 0 0) (by omega)
  go_enter Try.func41, Try.ntmps41
  go_wp2_with (go_at_call 48; refine (refTable_any xs ys A B c d w hA hB hn hm).mono ?_; rintro e w1 ⟨t, rfl, htab, hb1⟩)
  have hz := hb1.size
  go_loopw [6, 7, 8] (fun vo vi vj wr => ∃ (i j : Nat) (pre : List (Nat × Nat)), vi = .int .i64 i ∧ vj = .int .i64 j ∧ i ≤ xs.length ∧ j ≤ ys.length ∧
      Kp (pre ++ Qm.pairs xs ys i j = Qm.pairs xs ys 0 0) ∧ Kp (IsTab wr t xs ys) ∧ wr.ownsRow w.heap.size 60 2 vo pre.length (pcs pre) ∧ Below w.heap.size w wr)
    (fun _ vi vj _ => (xs.length - (intOf vi).toNat) + (ys.length - (intOf vj).toNat))
  case atStart => exact ⟨0, 0, [], rfl, rfl, Nat.zero_le _, Nat.zero_le _, ⟨rfl⟩, ⟨htab⟩, World.ownsRow_nil _ _ _ _, hb1⟩
  case round =>
    clear htab hb1 hz
    obtain ⟨i, j, pre, rfl, rfl, hi, hj, HP, HT, hrow, hb⟩ := hrel
    have hz := hb.size
    by_cases hin : i < xs.length ∧ j < ys.length
    · obtain ⟨hin, hjn⟩ := hin
      obtain ⟨ax, rfl, hax, hcx⟩ := (hA.later hb).at_ hin
      obtain ⟨ay, rfl, hay, hcy⟩ := (hB.later hb).at_ hjn
      by_cases heq : sAt xs i = sAt ys j
      · have hbq : ((sAt xs i).toList == (sAt ys j).toList) = true := by rw [str_beq]; exact decide_eq_true heq
        have hpp : Qm.pairs xs ys i j = (i, j) :: Qm.pairs xs ys (i + 1) (j + 1) := Qm.pairs_hit xs ys i j hin hjn (by rw [← sAt_lt hin, ← sAt_lt hjn]; exact heq)
        have hpre : (pre ++ [(i, j)]) ++ Qm.pairs xs ys (i + 1) (j + 1) = Qm.pairs xs ys 0 0 := by rw [← HP.out, hpp]; simp
        have hlen : pre.length < (Qm.pairs xs ys 0 0).length := by rw [← hpre]; simp
        have HPRE := Kp.mk hpre
        clear heq hpp hpre HP
        go_wp2
        go_quiet (fail)
        have hrq : (wr.drewN nq).ownsRow w.heap.size 60 2 _ pre.length (pcs pre) := hrow
        go_wp2_with (at_builtin; refine wpList_append_own _ rfl _ _ 58 rfl w.heap.size 60 i0 _ 2 16 Try.underlying58 hi0 hz0 hz1 hz2 rfl (by decide) _ _ _ rfl (hrq.alloc _) ⟨wr.heap.size, 0, none⟩ 1 1 [.int .i64 i, .int .i64 j] rfl rfl (cell_two _ _ _ _) (by simp [Value.oneCell']) (by unfold maxLen; omega) (by omega) (by simp; omega) ?_; intro v' w3 hown' hgrow _; have HK := Kp.mk (KeepP.own hrq hgrow); have hbn := ((below_drewN hb nq).alloc (by simp; omega) _).grown hgrow (by simp; omega) (fun g e => (hrq.lt g e).1))
        have hT' : IsTab (wr.drewN nq) t xs ys := HT.out
        go_roundw
        case rel => exact ⟨i + 1, j + 1, pre ++ [(i, j)], by go_num, by go_num, by omega, by omega, HPRE, ⟨HK.out.isTab hT'⟩, by simpa [pcs_snoc] using hown', hbn⟩
        case measure => simp [intOf]; omega
      · have hbq : ((sAt xs i).toList == (sAt ys j).toList) = false := by rw [str_beq]; exact decide_eq_false heq
        have hne : ¬ xs[i] = ys[j] := by rw [← sAt_lt hin, ← sAt_lt hjn]; exact heq
        obtain ⟨r, hr1, hr2⟩ := HT.out
        have hct1 := hr1.cell (k := i + 1) (by omega)
        have hct0 := hr1.cell (k := i) (by omega)
        have hcr1 := (hr2 (i + 1) (by omega)).cell (k := j) (by omega)
        have hcr0 := (hr2 i (by omega)).cell (k := j + 1) (by omega)
        have hi1 : (0 : Int) ≤ (i : Int) + 1 := by omega
        have hi2 : (i : Int) + 1 < (xs.length : Int) + 1 := by omega
        have hi3 : (i : Int) < (xs.length : Int) + 1 := by omega
        have hj1 : (0 : Int) ≤ (j : Int) + 1 := by omega
        have hj2 : (j : Int) + 1 < (ys.length : Int) + 1 := by omega
        have hj3 : (j : Int) < (ys.length : Int) + 1 := by omega
        have hiw : IntKind.i64.wrap ((i : Int) + 1) = (i : Int) + 1 := IntWalk.i64_in _ (by omega)
        have hin' : ((i : Int) + 1).toNat = i + 1 := by omega
        have hjw : IntKind.i64.wrap ((j : Int) + 1) = (j : Int) + 1 := IntWalk.i64_in _ (by omega)
        have hjn' : ((j : Int) + 1).toNat = j + 1 := by omega
        by_cases hge : tab xs ys i (j + 1) ≤ tab xs ys (i + 1) j
        · have hpp : Qm.pairs xs ys i j = Qm.pairs xs ys (i + 1) j := Qm.pairs_down xs ys i j hin hjn hne (by unfold tab at hge; omega)
          have hpre : pre ++ Qm.pairs xs ys (i + 1) j = Qm.pairs xs ys 0 0 := by rw [← HP.out, hpp]
          have HPRE := Kp.mk hpre
          have hgd : decide (tab xs ys i (j + 1) ≤ tab xs ys (i + 1) j) = true := decide_eq_true hge
          clear heq hpp hpre HP hne hr1 hr2
          go_wp2
          go_quiet (fail)
          go_wp2
          go_quiet (fail)
          clear hiw hin' hjw hjn'
          go_wp2
          go_roundw
          case rel => exact ⟨i + 1, j, pre, by go_num, rfl, by omega, by omega, HPRE, ⟨HT.out⟩, hrow, below_drewN hb _⟩
          case measure => simp [intOf]; omega
        · have hpp : Qm.pairs xs ys i j = Qm.pairs xs ys i (j + 1) := Qm.pairs_right xs ys i j hin hjn hne (by unfold tab at hge; omega)
          have hpre : pre ++ Qm.pairs xs ys i (j + 1) = Qm.pairs xs ys 0 0 := by rw [← HP.out, hpp]
          have HPRE := Kp.mk hpre
          have hgd : decide (tab xs ys i (j + 1) ≤ tab xs ys (i + 1) j) = false := decide_eq_false hge
          clear heq hpp hpre HP hne hr1 hr2
          go_wp2
          go_quiet (fail)
          go_wp2
          go_quiet (fail)
          clear hiw hin' hjw hjn'
          go_wp2
          go_roundw
          case rel => exact ⟨i, j + 1, pre, rfl, by go_num, by omega, by omega, HPRE, ⟨HT.out⟩, hrow, below_drewN hb _⟩
          case measure => simp [intOf]; omega
    · have hpp : Qm.pairs xs ys i j = [] := Qm.pairs_end xs ys i j hin
      have hpre : pre = Qm.pairs xs ys 0 0 := by rw [← HP.out, hpp]; simp
      have HPRE := Kp.mk hpre
      clear hpp hpre HP
      by_cases hi2 : i < xs.length
      · have hj2 : ¬ j < ys.length := fun h => hin ⟨hi2, h⟩
        clear hin
        go_wp2
        go_ret
        exact ⟨_, rfl, by rw [← HPRE.out]; exact hrow, hb⟩
      · clear hin
        go_wp2
        go_ret
        exact ⟨_, rfl, by rw [← HPRE.out]; exact hrow, hb⟩

end Go.Proofs.Ytkggedmcdllnaaa
