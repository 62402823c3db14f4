/- The document's diff: quiltmakerref04.Apply and Cost. -/
import Derived.Test.YtgbkbcdplcehmaaDapp
import Derived.Test.YtgbkbcdplcehmaaEdLaw
namespace Go.Proofs.Ytgbkbcdplcehmaa
open Go.RowKit

theorem w64_two (s a b : Int) : wrap64 (wrap64 (wrap64 s + a) + b) = wrap64 (s + (a + b)) := by
  unfold wrap64; omega
set_option maxHeartbeats 1000000 in
theorem rcost_any (l : List EdA) (C : Option Addr) (k : Nat) (w : World) (h : EdL C l w) (hn : l.length ≤ 1000000) :
    Calls Try.prog 21 #[.slice C l.length k] w fun e w' => e = .returned (.int .i64 (wrap64 (cost (eds l)))) ∧ Below w.heap.size w w' := by
  have hl : ∀ i (hi : i < l.length), l[i].2.2.2.2.length ≤ 9223372036854775807 := fun i hi => (h.2 l[i] (List.getElem_mem hi)).1
  have HL := Kp.mk hl
  go_enter Try.func21, Try.ntmps21
  go_wp2
  clear hl
  go_loopw [3, 4] (fun vn vi wr => ∃ i q0 : Nat, vi = .int .i64 i ∧ i ≤ l.length ∧ vn = .int .i64 (wrap64 (cost (eds (l.take i)))) ∧ wr = w.drewN q0) (fun _ vi _ => l.length - (intOf vi).toNat)
  case atStart => exact ⟨0, 0, rfl, Nat.zero_le _, by rw [List.take_zero]; simp [eds, cost, wrap64], rfl⟩
  case round =>
    obtain ⟨i, q0, rfl, hi, rfl, rfl⟩ := hrel
    by_cases hlt : i < l.length
    · obtain ⟨g, o, rfl, hg, hc⟩ := h.at_ (by omega)
      obtain ⟨d0, d1, d2⟩ := hc i hlt
      have ht := eds_take l i hlt
      have hw := cost_snoc (eds (l.take i)) (l[i].1, l[i].2.1, l[i].2.2.2.2)
      rw [← ht] at hw
      have hx := HL.out i hlt
      obtain ⟨x, ex⟩ : ∃ x, l[i] = x := ⟨_, rfl⟩
      rw [ex] at d0 d1 d2 hw hx
      obtain ⟨x0, x1, xa, xc, xs⟩ := x
      obtain ⟨s, es⟩ : ∃ s, cost (eds (l.take i)) = s := ⟨_, rfl⟩
      rw [es]
      have HW := Kp.mk hw
      have ES := Kp.mk es
      have b1 : (0 : Int) ≤ (i : Int) := by omega
      have b2 : (i : Int) < (l.length : Int) := by omega
      clear hc d0 ht hw ex es
      go_wp2
      go_region
      go_wp2
      go_roundw
      case rel => exact ⟨i + 1, _, by go_num, by omega, by rw [HW.out, ES.out, w64_two], rfl⟩
      case measure => simp [intOf]; omega
    · obtain rfl : i = l.length := by omega
      rw [List.take_length]
      go_wp2
      go_ret
      exact ⟨rfl, below_drewN (Below.refl _ _) _⟩
set_option maxHeartbeats 4000000 in
theorem rapply_any (xs : List ByteArray) (l : List EdA) (A C : Option Addr) (c k : Nat) (w : World) (hA : SlS w.heap.size w A xs) (hC : EdL C l w) (hn : xs.length ≤ 100000) (hm : l.length ≤ 100000) (hs : ∀ e ∈ l, e.2.2.2.2.length ≤ 1000000) (hc : xs.length ≤ c) (hc2 : c ≤ 9223372036854775807)
    (r : Option (List ByteArray)) (hr : apR xs (eds l) = r) :
    Calls Try.prog 18 #[.slice A xs.length c, .slice C l.length k] w (Dapp r w) := by
  have HS := Kp.mk hs
  have S := (Sm.start w).argL hA
  have R0 := Rw.start S 9 1
  have HR := Kp.mk hr
  have HC := Kp.mk hC
  clear hs hr S
  go_enter Try.func18, Try.ntmps18
  go_wp2
  go_loopw [6, 7, 8] (fun vo vp vi wr => ∃ (n p : Nat) (out : List ByteArray), vi = .int .i64 n ∧ n ≤ l.length ∧ vp = .int .i64 p ∧ p ≤ xs.length ∧ out.length ≤ n * 1100000 ∧ Kp (apGo xs ((eds l).drop n) (decide (n = 0)) p out = r) ∧
    Rw w wr [] [(0, LnX A xs)] 9 1 vo out.length (scs out)) (fun _ _ vi _ => l.length - (intOf vi).toNat)
  case atStart => exact ⟨0, 0, [], rfl, Nat.zero_le _, rfl, Nat.zero_le _, by simp, ⟨by rw [← HR.out]; rfl⟩, R0⟩
  case round =>
    obtain ⟨n, p, out, rfl, h1, rfl, h2, h3, he, R⟩ := hrel
    by_cases hlt : n < l.length
    · obtain ⟨g, o, rfl, hg, hcell⟩ := hC.at_ (by omega)
      obtain ⟨c0, c1, c2⟩ := hcell n hlt
      have hnew := hC.2 _ (List.getElem_mem hlt)
      have hsz := HS.out _ (List.getElem_mem hlt)
      have hget : (eds l)[n]? = some (l[n].1, l[n].2.1, l[n].2.2.2.2) := by simp [eds, List.getElem?_eq_getElem hlt]
      obtain ⟨x, ex⟩ : ∃ x, l[n] = x := ⟨_, rfl⟩
      obtain ⟨x0, x1, xa, xc, ys⟩ := x
      rw [ex] at c0 c1 c2 hnew hsz hget
      simp only [] at c0 c1 c2 hnew hsz hget
      have hB := R.sm.below
      have d0 := (hB.cell (p := ⟨g, o + n * 3, none⟩) hg).trans c0
      have d1 := (hB.cell (p := ⟨g, o + n * 3 + 1, none⟩) hg).trans c1
      have d2 := (hB.cell (p := ⟨g, o + n * 3 + 2, none⟩) hg).trans c2
      have he2 := he.out
      have hlt2 : n < (eds l).length := by rw [eds_length]; exact hlt
      rw [List.drop_eq_getElem_cons hlt2, show (eds l)[n] = (x0, x1, ys) from by have := List.getElem?_eq_getElem hlt2; rw [hget] at this; injection this with this; exact this.symm] at he2
      simp only [apGo] at he2
      obtain ⟨b, hok⟩ : ∃ b, edOk xs.length (decide (n = 0)) p (x0, x1, ys) = b := ⟨_, rfl⟩
      rw [hok] at he2
      have HE := Kp.mk he2
      have HN := Kp.mk hnew
      clear hcell c0 c1 c2 hget ex he he2 hnew hlt2
      cases b with
      | false =>
        obtain rfl : r = none := by have := HE.out; simpa using this.symm
        have hf := edOk_false _ _ _ _ hok
        simp only [decide_eq_true_eq, decide_eq_false_iff_not] at hf
        have hf2 : x0 < (p : Int) ∨ ((p : Int) ≤ x0 ∧ (0 : Int) < (n : Int) ∧ x0 = p) ∨ ((p : Int) ≤ x0 ∧ ¬ (0 : Int) < (n : Int) ∧ (xs.length : Int) < x0) ∨ ((p : Int) ≤ x0 ∧ (0 : Int) < (n : Int) ∧ x0 ≠ p ∧ (xs.length : Int) < x0) ∨
            ((p : Int) ≤ x0 ∧ ¬ (0 : Int) < (n : Int) ∧ x0 ≤ (xs.length : Int) ∧ x1 < 0) ∨ ((p : Int) ≤ x0 ∧ (0 : Int) < (n : Int) ∧ x0 ≠ p ∧ x0 ≤ (xs.length : Int) ∧ x1 < 0) ∨
            ((p : Int) ≤ x0 ∧ ¬ (0 : Int) < (n : Int) ∧ x0 ≤ (xs.length : Int) ∧ 0 ≤ x1 ∧ (xs.length : Int) - x0 < x1) ∨ ((p : Int) ≤ x0 ∧ (0 : Int) < (n : Int) ∧ x0 ≠ p ∧ x0 ≤ (xs.length : Int) ∧ 0 ≤ x1 ∧ (xs.length : Int) - x0 < x1) := by omega
        clear hf hok HE
        rcases hf2 with f1 | ⟨f1, f2, f3⟩ | ⟨f1, f2, f3⟩ | ⟨f1, f2, f3, f4⟩ | ⟨f1, f2, f3, f4⟩ | ⟨f1, f2, f3, f4, f5⟩ | ⟨f1, f2, f3, f4, f5⟩ | ⟨f1, f2, f3, f4, f5, f6⟩
        all_goals
          try (have f3b : (x0 == (p : Int)) = false := beq_eq_false_iff_ne.2 f3)
          go_wp2
          go_ret2
          exact ⟨none, 0, rfl, Nat.le_refl _, by omega, LnX.nil_frs _ _ _, R.sm.below.alloc R.sm.below.size _⟩
      | true =>
        obtain ⟨f0, f1, f2, f3, f4⟩ := edOk_true _ _ _ _ hok
        simp only [decide_eq_true_eq, decide_eq_false_iff_not] at f0 f1 f2 f3 f4
        obtain ⟨q, rfl⟩ : ∃ q : Nat, x0 = q := ⟨x0.toNat, by omega⟩
        obtain ⟨m, rfl⟩ : ∃ m : Nat, x1 = m := ⟨x1.toNat, by omega⟩
        have f0b : ¬ (0 : Int) < (n : Int) ∨ ((0 : Int) < (n : Int) ∧ (q : Int) ≠ p) := by omega
        have he3 := HE.out
        simp only [if_true] at he3
        have e1 : ((q : Int) + (m : Int)).toNat = q + m := by omega
        rw [e1, Int.toNat_natCast] at he3
        have HE3 := Kp.mk he3
        have HE4 : Kp (decide (n + 1 = 0) = false) := ⟨by simp⟩
        clear f0 hok HE he3 e1
        have b1 : (0 : Int) ≤ (p : Int) := by omega
        have b2 : (p : Int) ≤ (q : Int) := by omega
        have b3 : (q : Int) ≤ (c : Int) := by omega
        have hqx : q ≤ xs.length := by omega
        have hlen : ((xs.take q).drop p).length = q - p := by rw [List.length_drop, List.length_take]; omega
        obtain ⟨zs, hzs⟩ : ∃ zs, (xs.take q).drop p = zs := ⟨_, rfl⟩
        obtain ⟨S1, g1⟩ : ∃ S, (if c = p then A else A.map (fun x => x.add p)) = S := ⟨_, rfl⟩
        have hsl : ∀ W, Below w.heap.size w W → SlS W.heap.size W S1 zs := fun W hW => by
          have h1 := ((hA.later hW).take hqx).cut (k := p) (c := c) (by rw [List.length_take]; omega) (by rw [List.length_take]; omega)
          rw [g1, hzs] at h1
          exact h1
        rw [hzs] at hlen
        rw [hzs] at HE3
        have HSL := Kp.mk hsl
        have HLEN := Kp.mk hlen
        clear hsl hlen hzs
        rcases f0b with f5 | ⟨f5, f6⟩
        rotate_left
        · obtain rfl : A.map (fun x => x.add p) = S1 := by rw [← g1, if_neg (by omega)]
          clear g1
          try (have f6b : ((q : Int) == (p : Int)) = false := beq_eq_false_iff_ne.2 f6)
          have T1 : True := trivial
          have v1 : IntKind.i64.wrap ((q : Int) + (m : Int)) = (q : Int) + (m : Int) := IntWalk.i64_in _ (by omega)
          have R1 := R.new 35 #[.int .i64 q, .int .i64 m, .slice xa ys.length xc]
          go_wp2_with (first
            | (at_builtin; have _t := T1; refine wpList_strs_rw rfl _ _ _ rfl Try.underlying22 _ rfl out R1 _ (q - p) (c - p) zs rfl HLEN.out.symm (HSL.out _ R1.sm.below) (by rw [HLEN.out]; omega) ?_; intro v2 w2 R2; clear T1 _t; have t3 : w2.cell? ⟨wr.heap.size, 0, none⟩ = some (.int .i64 q) := R2.sm.cell ix0 0; have t5 : w2.cell? ⟨wr.heap.size, 2, none⟩ = some (.slice xa ys.length xc) := R2.sm.cell ix0 2)
            | (at_builtin; refine wpList_strs_rw rfl _ _ _ rfl Try.underlying22 _ rfl (out ++ zs) R2 xa ys.length xc ys rfl rfl (HN.out.ln.later R2.sm.below) (by rw [List.length_append, HLEN.out]; omega) ?_; intro v3 w3 R3; have t6 : w3.cell? ⟨wr.heap.size, 0, none⟩ = some (.int .i64 q) := R3.sm.cell ix0 0; have t7 : w3.cell? ⟨wr.heap.size, 1, none⟩ = some (.int .i64 m) := R3.sm.cell ix0 1))
          go_roundw
          case rel => exact ⟨n + 1, q + m, out ++ zs ++ ys, by go_num, by omega, by go_num, by omega, by rw [List.length_append, List.length_append, HLEN.out]; omega, ⟨by rw [HE4.out]; exact HE3.out⟩, R3.drop⟩
          case measure => simp [intOf]; omega
        all_goals
          try (have f6b : ((q : Int) == (p : Int)) = false := beq_eq_false_iff_ne.2 f6)
          have T1 : True := trivial
          have v1 : IntKind.i64.wrap ((q : Int) + (m : Int)) = (q : Int) + (m : Int) := IntWalk.i64_in _ (by omega)
          have R1 := R.new 35 #[.int .i64 q, .int .i64 m, .slice xa ys.length xc]
          go_wp2_with (first
            | (at_builtin; have _t := T1; refine wpList_strs_rw rfl _ _ _ rfl Try.underlying22 _ rfl out R1 _ (q - p) (c - p) zs rfl HLEN.out.symm (HSL.out _ R1.sm.below) (by rw [HLEN.out]; omega) ?_; intro v2 w2 R2; clear T1 _t; have t3 : w2.cell? ⟨wr.heap.size, 0, none⟩ = some (.int .i64 q) := R2.sm.cell ix0 0; have t5 : w2.cell? ⟨wr.heap.size, 2, none⟩ = some (.slice xa ys.length xc) := R2.sm.cell ix0 2)
            | (at_builtin; refine wpList_strs_rw rfl _ _ _ rfl Try.underlying22 _ rfl (out ++ zs) R2 xa ys.length xc ys rfl rfl (HN.out.ln.later R2.sm.below) (by rw [List.length_append, HLEN.out]; omega) ?_; intro v3 w3 R3; have t6 : w3.cell? ⟨wr.heap.size, 0, none⟩ = some (.int .i64 q) := R3.sm.cell ix0 0; have t7 : w3.cell? ⟨wr.heap.size, 1, none⟩ = some (.int .i64 m) := R3.sm.cell ix0 1))
          go_roundw
          case rel => exact ⟨n + 1, q + m, out ++ zs ++ ys, by go_num, by omega, by go_num, by omega, by rw [List.length_append, List.length_append, HLEN.out]; omega, ⟨by rw [HE4.out]; exact HE3.out⟩, R3.drop⟩
          case measure => simp [intOf]; omega
    · obtain rfl : n = l.length := by omega
      have he2 := he.out
      rw [List.drop_eq_nil_of_le (by rw [eds_length]; omega)] at he2
      simp only [apGo] at he2
      obtain rfl := he2
      obtain ⟨S1, g1⟩ : ∃ S, (if c = p then A else A.map (fun x => x.add p)) = S := ⟨_, rfl⟩
      have hsl := (hA.later R.sm.below).cut h2 hc
      rw [g1] at hsl
      have hlen : (xs.drop p).length = xs.length - p := List.length_drop
      have HL := Kp.mk hlen
      have HSL := Kp.mk hsl
      have b1 : (0 : Int) ≤ (p : Int) := by omega
      have b2 : (p : Int) ≤ (xs.length : Int) := by omega
      clear hlen hsl he
      go_wp2_with (at_builtin; refine wpList_strs_rw rfl _ _ _ rfl Try.underlying22 _ rfl out R S1 (xs.length - p) (c - p) (xs.drop p) rfl HL.out.symm HSL.out (by rw [HL.out]; omega) ?_; intro v2 w2 R2; obtain ⟨D, k2, rfl, q1, q2, hF⟩ := Frs.own_ln R2.own (by rw [List.length_append, HL.out]; omega); have HF := Kp.mk hF; clear hF)
      go_ret2
      exact ⟨D, k2, by simp, q1, q2, HF.out, R2.sm.below⟩
theorem rapply_gen (xs : List ByteArray) (l : List EdA) (A C : Option Addr) (c k : Nat) (w : World) (r : Option (List ByteArray)) (z : List ByteArray) (i : Bool) (hr : apR xs (eds l) = r) (hz : r.getD [] = z) (hi : r.isSome = i) (hA : SlS w.heap.size w A xs) (hC : EdL C l w) (hn : xs.length ≤ 100000) (hm : l.length ≤ 100000) (hs : ∀ e ∈ l, e.2.2.2.2.length ≤ 1000000) (hc : xs.length ≤ c) (hc2 : c ≤ 9223372036854775807) :
    Calls Try.prog 18 #[.slice A xs.length c, .slice C l.length k] w fun e w' => ∃ D r', e = .returned (.tuple #[.slice D z.length r', .bool i]) ∧ Frs w.heap.size (LnX D z) w' ∧ Below w.heap.size w w' := by
  subst hz hi
  refine (rapply_any xs l A C c k w hA hC hn hm hs hc hc2 _ hr).mono ?_
  rintro e w' ⟨D, r', rfl, _, _, hF, hb⟩
  exact ⟨D, r', rfl, hF, hb⟩
end Go.Proofs.Ytgbkbcdplcehmaa
