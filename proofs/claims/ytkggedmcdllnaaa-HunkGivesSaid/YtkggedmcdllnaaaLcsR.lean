/- lcs.rows: the table of what two lists have in common from each two places on. -/
import Derived.Deep.QuietTactic
import Derived.BigQuiet
import Derived.Deep.DeepCutAuto
import Derived.Deep.LoopGhost
import Derived.Deep.OwnRows
import Derived.StillTailTactics
import Derived.Laws.CopyOwn
import Derived.Test.YtkggedmcdllnaaaLaw
import Derived.Test.YtkggedmcdllnaaaPlain
import Derived.Test.YtkggedmcdllnaaaProg
namespace Go.Proofs.Ytkggedmcdllnaaa
open Go.RowKit Go.Deep
attribute [local go_sem] max_two_ints

/-- What two lists have in common from two places on. -/
def tab (xs ys : List ByteArray) (i j : Nat) : Int := (Qm.lcs (xs.drop i) (ys.drop j) : Nat)
theorem tab_lo (xs ys : List ByteArray) (i j : Nat) : 0 ≤ tab xs ys i j := by unfold tab; omega
theorem tab_hi (xs ys : List ByteArray) (i j : Nat) : tab xs ys i j ≤ xs.length := by
  unfold tab
  have := Qm.lcs_le_left (xs.drop i) (ys.drop j)
  simp at this; omega

/-- The row under the pen: behind place j it is row i's, up to there row i + 1's. -/
def pen (xs ys : List ByteArray) (i : Nat) (j : Int) (k : Nat) : Value := .int .i64 (if j < (k : Int) then tab xs ys i k else tab xs ys (i + 1) k)

/-- Between two rounds: t's row, the rows that it leads to, and the one below. -/
def RowsSt (xs ys : List ByteArray) (w wr : World) (iv : Int) (g : Nat) (r : Nat → Nat) : Prop :=
  Row wr w.heap.size 71 (xs.length + 1) (fun k => if iv < (k : Int) then .slice (some ⟨r k, 0, none⟩) (ys.length + 1) (ys.length + 1) else .slice none 0 0) ∧
  (∀ k : Nat, iv < (k : Int) → k ≤ xs.length → Row wr (r k) 3 (ys.length + 1) (fun j => .int .i64 (tab xs ys k j)) ∧ w.heap.size < r k) ∧
  Row wr g 3 (ys.length + 1) (fun j => .int .i64 (tab xs ys (iv + 1).toNat j)) ∧ w.heap.size < g ∧ Below w.heap.size w wr

/-- From block t on lies the whole table. -/
def IsTab (w : World) (t : Nat) (xs ys : List ByteArray) : Prop :=
  ∃ r : Nat → Nat, Row w t 71 (xs.length + 1) (fun k => .slice (some ⟨r k, 0, none⟩) (ys.length + 1) (ys.length + 1)) ∧
    ∀ k, k ≤ xs.length → Row w (r k) 3 (ys.length + 1) (fun j => .int .i64 (tab xs ys k j))
theorem IsTab.below {w w' : World} {t : Nat} {xs ys : List ByteArray} (h : IsTab w t xs ys) (hb : Below w.heap.size w w') : IsTab w' t xs ys := by
  obtain ⟨r, h1, h2⟩ := h
  exact ⟨r, h1.below hb, fun k hk => (h2 k hk).below hb⟩
theorem tab_end (xs ys : List ByteArray) (j : Nat) (i : Nat) (h : xs.length ≤ i) : tab xs ys i j = 0 := by
  unfold tab; rw [Qm.lcs_end_left _ _ _ _ h]; rfl
theorem tab_right (xs ys : List ByteArray) (i j : Nat) (h : ys.length ≤ j) : tab xs ys i j = 0 := by
  unfold tab; rw [Qm.lcs_end_right _ _ _ _ h]; rfl
theorem tab_hit (xs ys : List ByteArray) (i j : Nat) (hi : i < xs.length) (hj : j < ys.length) (h : sAt xs i = sAt ys j) : tab xs ys i j = tab xs ys (i + 1) (j + 1) + 1 := by
  unfold tab; rw [sAt_lt hi, sAt_lt hj] at h; rw [Qm.lcs_at _ _ _ _ hi hj, if_pos h]; rfl
theorem tab_miss (xs ys : List ByteArray) (i j : Nat) (hi : i < xs.length) (hj : j < ys.length) (h : sAt xs i ≠ sAt ys j) : tab xs ys i j = mxi (tab xs ys (i + 1) j) (tab xs ys i (j + 1)) := by
  unfold tab; rw [sAt_lt hi, sAt_lt hj] at h; rw [Qm.lcs_at _ _ _ _ hi hj, if_neg h]; unfold mxi; split <;> omega

theorem rows_start (xs ys : List ByteArray) (w : World) (n : Nat) (hn : xs.length = n) :
    RowsSt xs ys w ((w.alloc (.cells (madeCells #[.slice none 0 0] (xs.length + 1)) 71)).alloc (.cells (madeCells #[.int .i64 0] (ys.length + 1)) 3)) (xs.length : Int) (w.heap.size + 1) (fun _ => 0) := by
  have h1 := Row.made w 71 (.slice none 0 0) (xs.length + 1)
  have h2 := Row.made (w.alloc (.cells (madeCells #[.slice none 0 0] (xs.length + 1)) 71)) 3 (.int .i64 0) (ys.length + 1)
  rw [World.size_alloc] at h2
  refine ⟨(h1.alloc _).congr fun k hk => by rw [if_neg (by omega)], fun k hk hk2 => by omega, h2.congr fun k hk => by rw [tab_end _ _ _ _ (by omega)], by omega, ?_⟩
  exact ((Below.refl _ w).alloc (Nat.le_refl _) _).alloc (by simp) _

theorem rows_step {xs ys : List ByteArray} {w wr w2 : World} {i g : Nat} {r : Nat → Nat} {o : Obj} (hst : RowsSt xs ys w wr (i : Int) g r) (hi : i ≤ xs.length)
    (hg2 : (wr.alloc o).grownBy w2 (some wr.heap.size)) (hr2 : Row w2 wr.heap.size 3 (ys.length + 1) (fun j => .int .i64 (tab xs ys i j))) :
    RowsSt xs ys w (w2.setCell ⟨w.heap.size, i, none⟩ (.slice (some ⟨wr.heap.size, 0, none⟩) (ys.length + 1) (ys.length + 1))) ((i : Int) - 1) wr.heap.size (fun k => if k = i then wr.heap.size else r k) := by
  obtain ⟨hT, hR, hG, hg, hb⟩ := hst
  have hsz := hb.size
  have hgl := hG.lt
  have hTl := hT.lt
  refine ⟨?_, ?_, ?_, by omega, ?_⟩
  · refine (((hT.alloc o).grown hg2 (by simp; omega)).set i _).congr fun k hk => ?_
    by_cases e : k = i
    · subst e; simp only [if_true]; rw [if_pos (by omega)]
    · simp only [if_neg e]
      by_cases h : (i : Int) < (k : Int)
      · rw [if_pos h, if_pos (by omega)]
      · rw [if_neg h, if_neg (by omega)]
  · intro k hk hk2
    by_cases e : k = i
    · subst e
      simp only [if_true]
      exact ⟨hr2.far (p := ⟨w.heap.size, k, none⟩) (by simp; omega) _, by omega⟩
    · simp only [if_neg e]
      obtain ⟨h1, h2⟩ := hR k (by omega) hk2
      have h3 := h1.lt
      exact ⟨((h1.alloc o).grown hg2 (by simp; omega)).far (p := ⟨w.heap.size, i, none⟩) (by simp; omega) _, h2⟩
  · have e : ((i : Int) - 1 + 1).toNat = i := by omega
    rw [e]
    exact hr2.far (p := ⟨w.heap.size, i, none⟩) (by simp; omega) _
  · exact ((hb.alloc hsz o).grown hg2 (by simp; omega) (fun k e => by cases e; exact hsz)).setCell (by simp) _

theorem make1 {t e : TypeId} {z : Value} {bytes : Nat} (ht : Try.prog.underlying t = some (.slice e)) (hinfo : (Try.prog.info? e).map (fun i => (i.zero, i.size, i.bytes)) = some (some z, 1, bytes)) (hz1 : z.cells = #[z])
    (n : Nat) (hbytes : bytes * (n + 1) ≤ 281474976710656) (h63 : n + 1 ≤ 9223372036854775807) (w : World) :
    (Instr.makeSlice t (.int .i64 ((n : Int) + 1)) (.int .i64 ((n : Int) + 1))).run Try.prog w = .ok (.slice (some ⟨w.heap.size, 0, none⟩) (n + 1) (n + 1)) (w.alloc (.cells (madeCells #[z] (n + 1)) e)) :=
  run_make_row' t e z bytes ht hinfo hz1 .i64 .i64 (n + 1) hbytes h63 w

set_option maxHeartbeats 1000000 in
theorem rows_any (xs ys : List ByteArray) (A B : Option Addr) (c d : Nat) (w : World) (hA : SlS w.heap.size w A xs) (hB : SlS w.heap.size w B ys)
    (hn : xs.length ≤ 100000) (hm : ys.length ≤ 100000) :
    Calls Try.prog 51 #[.slice A xs.length c, .slice B ys.length d] w fun e w' => ∃ t, e = .returned (.slice (some ⟨t, 0, none⟩) (xs.length + 1) (xs.length + 1)) ∧ IsTab w' t xs ys ∧ Below w.heap.size w w' := by
  have hmk := make1 (t := 69) (e := 71) (z := .slice none 0 0) (bytes := 24) Try.underlying69 (by kernel_rfl) rfl xs.length (by omega) (by omega)
  have hmk2 := make1 (t := 71) (e := 3) (z := .int .i64 0) (bytes := 8) Try.underlying71 (by kernel_rfl) rfl ys.length (by omega) (by omega)
  go_enter Try.func51, Try.ntmps51
  go_wp2
  have hn0 : xs.length + 1 ≤ 100001 := by omega
  go_loopw [6, 7] (fun bel i wr => ∃ (iv : Int) (g : Nat) (r : Nat → Nat), bel = .slice (some ⟨g, 0, none⟩) (ys.length + 1) (ys.length + 1) ∧ i = .int .i64 iv ∧ -1 ≤ iv ∧ iv ≤ xs.length ∧ Kp (RowsSt xs ys w wr iv g r))
    (fun _ i _ => (intOf i + 1).toNat)
  case atStart => exact ⟨_, _, _, rfl, rfl, by omega, by omega, ⟨rows_start xs ys w _ rfl⟩⟩
  case round =>
    obtain ⟨iv, g, r, rfl, rfl, h0, h1, hst⟩ := hrel
    by_cases hi : 0 ≤ iv
    · obtain ⟨i, rfl⟩ := Int.eq_ofNat_of_zero_le hi
      obtain ⟨hT, hR, hG, hg, hb⟩ := hst.out
      have hsz := hG.lt
      have hrow := Row.made wr 3 (.int .i64 0) (ys.length + 1)
      have hG1 := hG.alloc (.cells (madeCells #[.int .i64 0] (ys.length + 1)) 3)
      have hG2 : Row (wr.alloc (.cells (madeCells #[.int .i64 0] (ys.length + 1)) 3)) g 3 (ys.length + 1) (fun j => .int .i64 (tab xs ys (i + 1) j)) := hG1
      clear hG1 hG
      have hA1 := (SlS.below hA hb).alloc (.cells (madeCells #[.int .i64 0] (ys.length + 1)) 3)
      have hB1 := (SlS.below hB hb).alloc (.cells (madeCells #[.int .i64 0] (ys.length + 1)) 3)
      go_wp2_with (with_reducible refine wpList_copy_rows rfl (.tmp 28) (.tmp 29) 71 71 rfl 3 Try.underlying71 (by kernel_rfl) wr.heap.size g (ys.length + 1) (ys.length + 1) (ys.length + 1) 3 _ _ rfl rfl hrow hG2 (fun _ => rfl) ?_; intro w1 hr1 hg1)
      have hRne : g ≠ wr.heap.size := by omega
      have hTne : w.heap.size ≠ wr.heap.size := by omega
      have hT1 := (hT.alloc (.cells (madeCells #[.int .i64 0] (ys.length + 1)) 3)).grown hg1 (by simpa using hTne)
      have hG3 := hG2.grown hg1 (by simpa using hRne)
      have hA2 : SlS w.heap.size w1 A xs := hA1.grown hg1 (fun k e => by cases e; exact ⟨hb.size, NotT.of_row hrow (by decide)⟩)
      have hB2 : SlS w.heap.size w1 B ys := hB1.grown hg1 (fun k e => by cases e; exact ⟨hb.size, NotT.of_row hrow (by decide)⟩)
      have hRB : w.heap.size ≤ wr.heap.size := hb.size
      have HB0 := Kp.mk hg1
      clear hrow hG2 hA1 hB1 hT hg1 hR
      obtain ⟨R, hRe⟩ : ∃ R, R = wr.heap.size := ⟨_, rfl⟩
      rw [← hRe] at hr1 hRne hTne hRB ⊢
      have HRE := Lib.hid hRe
      clear hRe
      obtain ⟨wo, hwo⟩ : ∃ wo : World, wo = wr := ⟨_, rfl⟩
      rw [← hwo] at hst HB0 HRE hb
      clear hwo
      go_loopw [9] (fun j w2 => ∃ jv : Int, j = .int .i64 jv ∧ -1 ≤ jv ∧ jv < ys.length ∧ Kp (Row w2 R 3 (ys.length + 1) (pen xs ys i jv) ∧ w1.grownBy w2 (some R))) (fun j _ => (intOf j + 1).toNat)
      case atStart =>
        exact ⟨_, rfl, by omega, by omega, ⟨hr1.congr fun k hk => by
          unfold pen
          by_cases h : (ys.length : Int) - 1 < (k : Int)
          · rw [if_pos h, tab_right _ _ _ _ (by omega), tab_right _ _ _ _ (by omega)]
          · rw [if_neg h], ⟨rfl, rfl, rfl, Nat.le_refl _, fun _ _ _ => rfl⟩⟩⟩
      case round =>
        obtain ⟨jv, rfl, hj0, hj1, hk⟩ := hrel
        by_cases hj : 0 ≤ jv ∧ i < xs.length
        · obtain ⟨hj, hin⟩ := hj
          obtain ⟨j, rfl⟩ := Int.eq_ofNat_of_zero_le hj
          obtain ⟨hw2r, hw2g⟩ := hk.out
          obtain ⟨b1, hb1⟩ : ∃ b1, b1 = tab xs ys (i + 1) j := ⟨_, rfl⟩
          obtain ⟨b2, hb2⟩ : ∃ b2, b2 = tab xs ys i (j + 1) := ⟨_, rfl⟩
          have hcb : wr.cell? ⟨g, j, none⟩ = some (.int .i64 b1) := by
            rw [hb1]; exact (hG3.grown hw2g (by simpa using hRne)).cell (by omega)
          have hcr : wr.cell? ⟨R, j + 1, none⟩ = some (.int .i64 b2) := by
            rw [hw2r.cell (by omega), hb2]; unfold pen; rw [if_pos (by omega)]
          have hcs := hw2r.cell (k := j) (by omega)
          have hfs := hw2r.free j
          have HB1 := Lib.hid hb1
          have HB2 := Lib.hid hb2
          have hjb : (j : Int) < (ys.length : Int) + 1 := by omega
          have hjb0 : (0 : Int) ≤ (j : Int) + 1 := by omega
          have hjb1 : (j : Int) + 1 < (ys.length : Int) + 1 := by omega
          have hjw : IntKind.i64.wrap ((j : Int) + 1) = (j : Int) + 1 := IntWalk.i64_in _ (by omega)
          have hjn : ((j : Int) + 1).toNat = j + 1 := by omega
          clear hb1 hb2 hk
          go_wp2
          go_still_tail 12, (by kernel_rfl)
          go_wp2
          have hw3r := (hw2r.set j (.int .i64 (mxi b1 b2))).drew
          have hw3g : w1.grownBy (wr.setCell ⟨R, j, none⟩ (.int .i64 (mxi b1 b2))).drew (some R) := grown_drew (grown_set hw2g rfl _)
          generalize (wr.setCell ⟨R, j, none⟩ (.int .i64 (mxi b1 b2))).drew = w3 at hw3r hw3g ⊢
          have hRs : ∀ k, some R = some k → w.heap.size ≤ k ∧ NotT 9 w1 k := fun k e => by cases e; exact ⟨hRB, NotT.of_row hr1 (by decide)⟩
          obtain ⟨ax, rfl, hax, hcx⟩ := (hA2.grown hw3g hRs).at_ hin
          obtain ⟨ay, rfl, hay, hcy⟩ := (hB2.grown hw3g hRs).at_ (show j < ys.length by omega)
          clear hjw hjn hcb hcr hcs hfs hw2r hw2g hRs
          by_cases heq : sAt xs i = sAt ys j
          · have hbq : ((sAt xs i).toList == (sAt ys j).toList) = true := by rw [str_beq]; exact decide_eq_true heq
            have HEQ := Lib.hid heq
            clear heq
            have hcb2 : w3.cell? ⟨g, j + 1, none⟩ = some (.int .i64 (tab xs ys (i + 1) (j + 1))) := (hG3.grown hw3g (by simpa using hRne)).cell (by omega)
            have hlo := tab_lo xs ys (i + 1) (j + 1)
            have hhi := tab_hi xs ys (i + 1) (j + 1)
            have hcs := hw3r.cell (k := j) (by omega)
            have hfs := hw3r.free j
            go_quiet (fail)
            go_wp2
            go_roundw
            case rel => exact ⟨_, rfl, by omega, by omega, ⟨((hw3r.drewN nq).set j _).congr fun k hk => by
              unfold pen
              by_cases e : k = j
              · subst e; simp only [if_true]; rw [if_pos (by omega), tab_hit xs ys i k hin (by omega) HEQ.out]
              · simp only [if_neg e]
                by_cases h : (j : Int) < (k : Int)
                · rw [if_pos h, if_pos (by omega)]
                · rw [if_neg h, if_neg (by omega)], grown_set (grown_drewN hw3g nq) rfl _⟩⟩
            case measure => first | (simp [intOf]; done) | (simp [intOf]; omega)
          · have hbq : ((sAt xs i).toList == (sAt ys j).toList) = false := by rw [str_beq]; exact decide_eq_false heq
            have HEQ := Lib.hid heq
            clear heq
            go_quiet (fail)
            go_wp2
            go_roundw
            case rel => exact ⟨_, rfl, by omega, by omega, ⟨(hw3r.drewN nq).congr fun k hk => by
              unfold pen
              by_cases e : k = j
              · subst e; simp only [if_true]; rw [if_pos (by omega), tab_miss xs ys i k hin (by omega) HEQ.out, HB1.out, HB2.out]
              · simp only [if_neg e]
                by_cases h : (j : Int) < (k : Int)
                · rw [if_pos h, if_pos (by omega)]
                · rw [if_neg h, if_neg (by omega)], grown_drewN hw3g nq⟩⟩
            case measure => first | (simp [intOf]; done) | (simp [intOf]; omega)
        · have hfin : Kp (Row wr R 3 (ys.length + 1) (fun k => .int .i64 (tab xs ys i k)) ∧ w1.grownBy wr (some R)) := ⟨hk.out.1.congr fun k hk' => by
            unfold pen
            by_cases h : jv < (k : Int)
            · rw [if_pos h]
            · have : xs.length ≤ i := by omega
              rw [if_neg h, tab_end _ _ _ _ this, tab_end _ _ _ _ (by omega)], hk.out.2⟩
          clear hk
          have hcT := (hT1.grown hfin.out.2 (by simpa using hTne)).cell (k := i) (by omega)
          have hfT := (hT1.grown hfin.out.2 (by simpa using hTne)).free i
          simp only [Int.lt_irrefl, if_false] at hcT
          by_cases hj2 : 0 ≤ jv
          · have hin : ¬ i < xs.length := fun h => hj ⟨hj2, h⟩
            clear hj
            go_wp2
            go_roundw
            case rel =>
              obtain ⟨hf1, hf2⟩ := hfin.out
              have hre : R = wo.heap.size := HRE.out
              subst hre
              exact ⟨_, _, _, rfl, rfl, by omega, by omega, ⟨rows_step hst.out (by omega) (grown_trans HB0.out hf2) hf1⟩⟩
            case measure => first | (simp [intOf]; done) | (simp [intOf]; omega)
          · clear hj
            go_wp2
            go_roundw
            case rel =>
              obtain ⟨hf1, hf2⟩ := hfin.out
              have hre : R = wo.heap.size := HRE.out
              subst hre
              exact ⟨_, _, _, rfl, rfl, by omega, by omega, ⟨rows_step hst.out (by omega) (grown_trans HB0.out hf2) hf1⟩⟩
            case measure => first | (simp [intOf]; done) | (simp [intOf]; omega)
    · go_wp2
      go_ret
      obtain ⟨hT, hR, _, _, hb⟩ := hst.out
      exact ⟨_, rfl, ⟨r, hT.congr fun k hk => by rw [if_pos (by omega)], fun k hk => (hR k (by omega) hk).1⟩, hb⟩
end Go.Proofs.Ytkggedmcdllnaaa
