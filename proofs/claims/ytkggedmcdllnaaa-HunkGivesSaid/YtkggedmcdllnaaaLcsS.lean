/- lcs.Many; lcs.steps and what it hands back; lcs.Pairs. -/
import Derived.RangeFuncNested
import Derived.RangeFuncBound
import Derived.RangeFuncCalls
import Derived.RangeFuncLeaves
import Derived.Shelf.Abstract
import Derived.Shelf.RegionOpen
import Derived.OwnWalkIn
import Derived.TacticsInMore
import Derived.LoopNIn
import Derived.LoopIn
import Derived.Sort.QuietIn
import Derived.Test.YtkggedmcdllnaaaLcsR
namespace Go.Proofs.Ytkggedmcdllnaaa
open Go.RowKit Go.Shelf
attribute [local go_sem] Oper.semAt_some

/-- What is handed out by lcs.steps: a function that holds both lists, each in a box. -/
theorem steps_any (A B : Option Addr) (n m c d : Nat) (w : World) :
    Calls Try.prog 47 #[.slice A n c, .slice B m d] w fun e w' => e = .returned (.func (.func 50) #[] #[.pointer (some ⟨w.heap.size, 0, none⟩), .pointer (some ⟨w.heap.size + 1, 0, none⟩)]) ∧
      w' = (w.alloc (.cells #[.slice A n c] 22)).alloc (.cells #[.slice B m d] 22) := by
  go_enter Try.func47, Try.ntmps47
  go_wp2
  go_ret
  exact ⟨rfl, rfl⟩

/-- What a round of the caller's keeps: whatever lay ahead of block b0, and every block but those of pairs and of the box that holds them. -/
def KeepP (b0 : Nat) (W W' : World) : Prop :=
  W.heap.size ≤ W'.heap.size ∧ ∀ k cs T fr, W.heap[k]? = some (.cells cs T fr) → (k < b0 ∨ (T ≠ 60 ∧ T ≠ 58)) → W'.heap[k]? = W.heap[k]?
theorem KeepP.refl (b0 : Nat) (W : World) : KeepP b0 W W := ⟨Nat.le_refl _, fun _ _ _ _ _ _ => rfl⟩
theorem KeepP.trans {b0 : Nat} {A B C : World} (h : KeepP b0 A B) (k : KeepP b0 B C) : KeepP b0 A C :=
  ⟨Nat.le_trans h.1 k.1, fun j cs T fr hj hc => by
    have h1 := h.2 j cs T fr hj hc
    exact (k.2 j cs T fr (h1.trans hj) hc).trans h1⟩
theorem KeepP.putObj {b0 l : Nat} {W : World} {o : Obj} (o' : Obj) (hl : W.heap[l]? = some o) (ho : o.isCells = false) : KeepP b0 W (W.putObj l o') :=
  ⟨(grownBy_putObj' W l o').size, fun k cs T fr hk _ => (grownBy_putObj' W l o').block k (Array.getElem?_eq_some_iff.1 hk).1 (fun e => by
    cases e
    rw [hl] at hk
    cases hk
    cases ho)⟩
theorem KeepP.row {b0 : Nat} {W W' : World} (h : KeepP b0 W W') {g : Nat} {T : TypeId} {n : Nat} {f : Nat → Value} (hr : Row W g T n f) (h1 : T ≠ 60) (h2 : T ≠ 58) : Row W' g T n f := by
  obtain ⟨cs, hh, h3⟩ := hr
  exact ⟨cs, (h.2 g cs T _ hh (.inr ⟨h1, h2⟩)).trans hh, h3⟩
theorem KeepP.sl {b0 : Nat} {W W' : World} (h : KeepP b0 W W') {A : Option Addr} {xs : List ByteArray} (hs : SlS b0 W A xs) : SlS b0 W' A xs :=
  ⟨hs.1, fun hn => by
    obtain ⟨ad, e, hb, hc, hv⟩ := hs.2 hn
    have hcell : ∃ cs T fr, W.heap[ad.block]? = some (.cells cs T fr) := by
      have h0 := hv 0 hn
      unfold World.cell? at h0
      rw [block_add] at h0
      split at h0
      · exact ⟨_, _, _, by assumption⟩
      · cases h0
    obtain ⟨cs, T, fr, hh⟩ := hcell
    have hbl : W'.heap[ad.block]? = W.heap[ad.block]? := by
      refine h.2 _ cs T fr hh ?_
      rcases hc with hc | ⟨cs', fr', hc⟩
      · exact .inl hc
      · rw [hh] at hc
        cases hc
        exact .inr ⟨by decide, by decide⟩
    refine ⟨ad, e, Nat.lt_of_lt_of_le hb h.1, ?_, fun j hj => ?_⟩
    · rcases hc with hc | ⟨cs', fr', hc⟩
      · exact .inl hc
      · exact .inr ⟨cs', fr', hbl.trans hc⟩
    · rw [World.cell?_of_block (w := W) (by rw [block_add]; exact hbl)]; exact hv j hj⟩
theorem KeepP.isTab {b0 : Nat} {W W' : World} (h : KeepP b0 W W') {t : Nat} {xs ys : List ByteArray} (ht : IsTab W t xs ys) : IsTab W' t xs ys := by
  obtain ⟨r, h1, h2⟩ := ht
  exact ⟨r, h.row h1 (by decide) (by decide), fun k hk => h.row (h2 k hk) (by decide) (by decide)⟩

/-- A pair as Go's array. -/
def pv (x : Nat × Nat) : Value := .agg #[.int .i64 x.1, .int .i64 x.2]

/-- Between two pairs. -/
structure StepSt (b0 : Nat) (W : World) (t Ba Bb : Nat) (va vb : Value) (A B : Option Addr) (xs ys : List ByteArray) : Prop where
  tab : IsTab W t xs ys
  ba : Row W Ba 22 1 (fun _ => va)
  bb : Row W Bb 22 1 (fun _ => vb)
  sa : SlS b0 W A xs
  sb : SlS b0 W B ys
theorem StepSt.keep {b0 : Nat} {W W' : World} {t Ba Bb : Nat} {va vb : Value} {A B : Option Addr} {xs ys : List ByteArray} (h : StepSt b0 W t Ba Bb va vb A B xs ys) (hk : KeepP b0 W W') : StepSt b0 W' t Ba Bb va vb A B xs ys :=
  ⟨hk.isTab h.tab, hk.row h.ba (by decide) (by decide), hk.row h.bb (by decide) (by decide), hk.sl h.sa, hk.sl h.sb⟩
theorem StepSt.drewN {b0 : Nat} {W : World} {t Ba Bb : Nat} {va vb : Value} {A B : Option Addr} {xs ys : List ByteArray} (h : StepSt b0 W t Ba Bb va vb A B xs ys) (n : Nat) : StepSt b0 (W.drewN n) t Ba Bb va vb A B xs ys :=
  h.keep ⟨Nat.le_refl _, fun _ _ _ _ _ _ => rfl⟩

set_option maxRecDepth 100000 in
set_option maxHeartbeats 2000000 in
theorem steps1_in (n l Ba Bb b0 : Nat) (hn1 : 1 ≤ n) (xs ys : List ByteArray) (A B : Option Addr) (c d : Nat) (J Jx : List (Nat × Nat) → World → Prop) (W : World)
    (hJ : AbidesFrom W.heap.size J)
    (hY : ∀ pre x W1, J pre W1 → pre.length < (Qm.pairs xs ys 0 0).length → YieldAt Fence.wide (n - 1) Try.prog l #[pv x] W1 fun e W' =>
      (e = .returned (.bool true) ∧ J (pre ++ [x]) W' ∧ KeepP b0 W1 W') ∨ (e = .returned (.bool false) ∧ Jx (pre ++ [x]) W'))
    (hba : Row W Ba 22 1 (fun _ => .slice A xs.length c)) (hbb : Row W Bb 22 1 (fun _ => .slice B ys.length d)) (hA : SlS b0 W A xs) (hB : SlS b0 W B ys) (h0 : J [] W)
    (hn : xs.length ≤ 100000) (hm : ys.length ≤ 100000) :
    CallsIn Fence.wide n Try.prog 50 #[.func (.yield l) #[] #[], .pointer (some ⟨Ba, 0, none⟩), .pointer (some ⟨Bb, 0, none⟩)] W fun e W' => (∃ v, e = .returned v) ∧
      ((∃ zs, zs = Qm.pairs xs ys 0 0 ∧ J zs W') ∨ (∃ pre, pre <+: Qm.pairs xs ys 0 0 ∧ Jx pre W')) := by
  have hca := hba.cell (k := 0) (by omega)
  have hcb := hbb.cell (k := 0) (by omega)
  refine callsIn_of_wp Try.func50 rfl trivial ?_ rfl
  simp only [Try.ntmps50, List.size_toArray, List.length_cons, List.length_nil, Nat.reduceAdd, Nat.reduceSub, Array.replicate_succ, Array.replicate_zero, List.push_toArray, List.append_toArray, List.nil_append, List.cons_append]
  gi_wp2_with (refine ⟨trivial, ?_⟩; gi_at_call 51; refine (callsIn_wide.2 (rows_any xs ys A B c d W hA.wide hB.wide hn hm)).mono ?_; rintro e w1 ⟨t, rfl, htab, hbe⟩)
  have hJ1 : J [] w1 := hJ _ _ _ none h0 (grown_below hbe none) (fun _ e => by cases e)
  have hst : StepSt b0 w1 t Ba Bb (.slice A xs.length c) (.slice B ys.length d) A B xs ys := ⟨htab, hba.below hbe, hbb.below hbe, hA.below hbe, hB.below hbe⟩
  have hsz := hbe.size
  clear hca hcb hba hbb hA hB h0 htab
  gi_loopw [5, 6] (fun vi vj wr => ∃ (i j : Nat) (pre : List (Nat × Nat)), vi = .int .i64 i ∧ vj = .int .i64 j ∧ i ≤ xs.length ∧ j ≤ ys.length ∧ W.heap.size ≤ wr.heap.size ∧
      Kp (pre ++ Qm.pairs xs ys i j = Qm.pairs xs ys 0 0) ∧ Kp (J pre wr) ∧ Kp (StepSt b0 wr t Ba Bb (.slice A xs.length c) (.slice B ys.length d) A B xs ys))
    (fun vi vj _ => (xs.length - (intOf vi).toNat) + (ys.length - (intOf vj).toNat))
  case atStart => exact ⟨0, 0, [], rfl, rfl, Nat.zero_le _, Nat.zero_le _, hsz, ⟨rfl⟩, ⟨hJ1⟩, ⟨hst⟩⟩
  case round =>
    clear hst hJ1
    obtain ⟨i, j, pre, rfl, rfl, hi, hj, hwz, HP, HJ, HS⟩ := hrel
    have hca := HS.out.ba.cell (k := 0) (by omega)
    have hcb := HS.out.bb.cell (k := 0) (by omega)
    by_cases hin : i < xs.length ∧ j < ys.length
    · obtain ⟨hin, hjn⟩ := hin
      obtain ⟨ax, rfl, hax, hcx⟩ := HS.out.sa.at_ hin
      obtain ⟨ay, rfl, hay, hcy⟩ := HS.out.sb.at_ hjn
      by_cases heq : sAt xs i = sAt ys j
      · have hbq : ((sAt xs i).toList == (sAt ys j).toList) = true := by rw [str_beq]; exact decide_eq_true heq
        have hpp : Qm.pairs xs ys i j = (i, j) :: Qm.pairs xs ys (i + 1) (j + 1) := Qm.pairs_hit xs ys i j hin hjn (by rw [← sAt_lt hin, ← sAt_lt hjn]; exact heq)
        have hpre : (pre ++ [(i, j)]) ++ Qm.pairs xs ys (i + 1) (j + 1) = Qm.pairs xs ys 0 0 := by rw [← HP.out, hpp]; simp
        have hlen : pre.length < (Qm.pairs xs ys 0 0).length := by rw [← hpre]; simp
        have HPRE := Kp.mk hpre
        clear heq hpp hpre HP
        gi_wp2
        gi_quiet (fail)
        have hJq : J pre (wr.drewN nq) := hJ _ _ _ none HJ.out ⟨rfl, rfl, rfl, Nat.le_refl _, fun _ _ _ => rfl⟩ (fun _ e => by cases e)
        obtain ⟨fn, tmps, assign, body, hy, hR⟩ := hY pre (i, j) (wr.drewN nq) hJq hlen
        simp only [pv] at hy
        have HSq := Kp.mk (HS.out.drewN nq)
        clear HJ hJq HS hlen hcx hcy hca hcb
        gi_wp2
        refine hR.mono ?_
        rintro e W3 (⟨rfl, hJ3, hk3⟩ | ⟨rfl, hJx3⟩)
        · have HS3 := Kp.mk (HSq.out.keep hk3)
          have hz3 : W.heap.size ≤ W3.heap.size := Nat.le_trans hwz hk3.1
          clear HSq hk3 hR hy
          gi_wp2
          go_roundw
          case rel => exact ⟨i + 1, j + 1, pre ++ [(i, j)], by go_num, by go_num, by omega, by omega, hz3, HPRE, ⟨hJ3⟩, HS3⟩
          case measure => simp [intOf]; omega
        · clear HSq hR hy
          gi_wp2
          refine bodyPost_ret (results_none rfl _ _ _) rfl ?_
          exact ⟨⟨_, rfl⟩, .inr ⟨pre ++ [(i, j)], ⟨_, HPRE.out⟩, hJx3⟩⟩
      · have hbq : ((sAt xs i).toList == (sAt ys j).toList) = false := by rw [str_beq]; exact decide_eq_false heq
        have hne : ¬ xs[i] = ys[j] := by rw [← sAt_lt hin, ← sAt_lt hjn]; exact heq
        have HNE := Kp.mk hne
        obtain ⟨r, hr1, hr2⟩ := HS.out.tab
        have hct1 := hr1.cell (k := i + 1) (by omega)
        have hct0 := hr1.cell (k := i) (by omega)
        have hcr1 := (hr2 (i + 1) (by omega)).cell (k := j) (by omega)
        have hcr0 := (hr2 i (by omega)).cell (k := j + 1) (by omega)
        have hi0 : (0 : Int) ≤ (i : Int) + 1 := by omega
        have hi1 : (i : Int) + 1 < (xs.length : Int) + 1 := by omega
        have hi2 : (i : Int) < (xs.length : Int) + 1 := by omega
        have hj0 : (0 : Int) ≤ (j : Int) + 1 := by omega
        have hj1 : (j : Int) + 1 < (ys.length : Int) + 1 := by omega
        have hj2 : (j : Int) < (ys.length : Int) + 1 := by omega
        by_cases hge : tab xs ys i (j + 1) ≤ tab xs ys (i + 1) j
        · have hpp : Qm.pairs xs ys i j = Qm.pairs xs ys (i + 1) j := Qm.pairs_down xs ys i j hin hjn hne (by unfold tab at hge; omega)
          have hpre : pre ++ Qm.pairs xs ys (i + 1) j = Qm.pairs xs ys 0 0 := by rw [← HP.out, hpp]
          have HPRE := Kp.mk hpre
          have hgd : decide (tab xs ys i (j + 1) ≤ tab xs ys (i + 1) j) = true := decide_eq_true hge
          have hiw : IntKind.i64.wrap ((i : Int) + 1) = (i : Int) + 1 := IntWalk.i64_in _ (by omega)
          have hin' : ((i : Int) + 1).toNat = i + 1 := by omega
          have hjw : IntKind.i64.wrap ((j : Int) + 1) = (j : Int) + 1 := IntWalk.i64_in _ (by omega)
          have hjn' : ((j : Int) + 1).toNat = j + 1 := by omega
          clear heq hpp hpre HP hne hr1 hr2
          gi_wp2
          gi_quiet (fail)
          gi_wp2
          gi_quiet (fail)
          clear hiw hin' hjw hjn'
          gi_wp2
          go_roundw
          case rel => exact ⟨i + 1, j, pre, by go_num, rfl, by omega, by omega, hwz, HPRE, ⟨hJ _ _ _ none HJ.out ⟨rfl, rfl, rfl, Nat.le_refl _, fun _ _ _ => rfl⟩ (fun _ e => by cases e)⟩, ⟨HS.out.drewN _⟩⟩
          case measure => simp [intOf]; omega
        · have hpp : Qm.pairs xs ys i j = Qm.pairs xs ys i (j + 1) := Qm.pairs_right xs ys i j hin hjn hne (by unfold tab at hge; omega)
          have hpre : pre ++ Qm.pairs xs ys i (j + 1) = Qm.pairs xs ys 0 0 := by rw [← HP.out, hpp]
          have HPRE := Kp.mk hpre
          have hgd : decide (tab xs ys i (j + 1) ≤ tab xs ys (i + 1) j) = false := decide_eq_false hge
          have hiw : IntKind.i64.wrap ((i : Int) + 1) = (i : Int) + 1 := IntWalk.i64_in _ (by omega)
          have hin' : ((i : Int) + 1).toNat = i + 1 := by omega
          have hjw : IntKind.i64.wrap ((j : Int) + 1) = (j : Int) + 1 := IntWalk.i64_in _ (by omega)
          have hjn' : ((j : Int) + 1).toNat = j + 1 := by omega
          clear heq hpp hpre HP hne hr1 hr2
          gi_wp2
          gi_quiet (fail)
          gi_wp2
          gi_quiet (fail)
          clear hiw hin' hjw hjn'
          gi_wp2
          go_roundw
          case rel => exact ⟨i, j + 1, pre, rfl, by go_num, by omega, by omega, hwz, HPRE, ⟨hJ _ _ _ none HJ.out ⟨rfl, rfl, rfl, Nat.le_refl _, fun _ _ _ => rfl⟩ (fun _ e => by cases e)⟩, ⟨HS.out.drewN _⟩⟩
          case measure => simp [intOf]; omega
    · have hpp : Qm.pairs xs ys i j = [] := Qm.pairs_end xs ys i j hin
      have hpre : pre = Qm.pairs xs ys 0 0 := by rw [← HP.out, hpp]; simp
      have HPRE := Kp.mk hpre
      clear hpp hpre HP
      by_cases hi2 : i < xs.length
      · have hj2 : ¬ j < ys.length := fun h => hin ⟨hi2, h⟩
        clear hin
        gi_wp2
        go_end0
        exact ⟨⟨_, rfl⟩, .inl ⟨pre, HPRE.out, HJ.out⟩⟩
      · clear hin
        gi_wp2
        go_end0
        exact ⟨⟨_, rfl⟩, .inl ⟨pre, HPRE.out, HJ.out⟩⟩
end Go.Proofs.Ytkggedmcdllnaaa
