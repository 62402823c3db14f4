/- DiffApart: between two edits there is a line that stays; each takes something away, or puts something there: the walk of the law. -/
import Derived.Test.YtgbkbcdplcehmaaAwake4
import Derived.Test.YtgbkbcdplcehmaaEdLaw
import Derived.Test.YtgbkbcdplcehmaaLight
import Derived.Test.YtgbkbcdplcehmaaSame
namespace Go.Proofs.Ytgbkbcdplcehmaa
open Go.RowKit

set_option maxRecDepth 100000 in
set_option maxHeartbeats 4000000 in
theorem diffApart_any (xs : List ByteArray) (A : Option Addr) (c : Nat) (ys : List ByteArray) (B : Option Addr) (d : Nat) (w : World)
    (_ : xs.length ≤ c) (_ : c ≤ 9223372036854775807) (hA : SlS w.heap.size w A xs) (_ : ys.length ≤ d) (_ : d ≤ 9223372036854775807) (hB : SlS w.heap.size w B ys) :
    Calls Try.prog 6 #[.slice A xs.length c, .slice B ys.length d] w fun e w' => e = .returned (.bool true) ∧ Below w.heap.size w w' := by
  have S := ((Sm.start w).argL hA).argL hB
  obtain ⟨bxs, lxs⟩ : ∃ b, light xs 60 = b := ⟨_, rfl⟩
  have Lxs := Kp.mk lxs
  obtain ⟨bys, lys⟩ : ∃ b, light ys 60 = b := ⟨_, rfl⟩
  have Lys := Kp.mk lys
  clear hA hB
  by_cases hall : bxs = true ∧ bys = true
  · obtain ⟨rfl, rfl⟩ := hall
    have nxs := light_len lxs
    clear lxs
    have nys := light_len lys
    clear lys
    have T1 : True := trivial
    go_enter Try.func6, Try.ntmps6
    go_wp2_with (first
      | (go_at_call 11; refine (awake4_any _).mono ?_; rintro e w1 ⟨rfl, hb⟩; replace S := S.call hb; clear hb)
      | (go_at_call_of 12 A; refine (light_any xs A _ 60 _ (S.ln me1)).mono ?_; rintro e w1 ⟨rfl, rfl⟩; rw [Lxs.out])
      | (go_at_call_of 12 B; refine (light_any ys B _ 60 _ (S.ln me0)).mono ?_; rintro e w1 ⟨rfl, rfl⟩; rw [Lys.out])
      | (go_at_call 14; have _t := T1; refine (edits_any xs ys _ _ _ _ _ (S.ln me1) (S.ln me0) (by omega) (by omega) (by assumption) (by assumption)).mono ?_; rintro e w1 ⟨C1, k1, l1, rfl, he1, -, -, hF, hb⟩; replace S := S.made hb hF; have hl1 : l1.length ≤ xs.length + 1 := (by rw [← eds_length, he1]; exact edits_length _ _); have HE1 := Kp.mk he1; clear hF hb he1 T1 _t))
    have hE := S.get me0
    obtain ⟨wo, hwo⟩ : ∃ wo : World, wo = w1 := ⟨_, rfl⟩
    subst hwo
    go_loopw [9] (fun vi wr => ∃ i q0 : Nat, vi = .int .i64 i ∧ i ≤ l1.length ∧ wr = wo.drewN q0) (fun vi _ => l1.length - (intOf vi).toNat)
    case atStart => exact ⟨0, 0, rfl, Nat.zero_le _, rfl⟩
    case round =>
      obtain ⟨i, q0, rfl, hi, rfl⟩ := hrel
      by_cases hlt : i < l1.length
      · obtain ⟨g, o, rfl, hg, hc⟩ := EdL.at_ hE (by omega)
        obtain ⟨c0, c1, c2⟩ := hc i hlt
        obtain ⟨f0, f1, f2, f3, f4⟩ := eds_get HE1.out i hlt
        have ha := fun m (hm : m < i) => eds_apart HE1.out m i hlt hm
        obtain ⟨x, ex⟩ : ∃ x, l1[i] = x := ⟨_, rfl⟩
        obtain ⟨x0, x1, xa, xc, us⟩ := x
        rw [ex] at c0 c1 c2 f0 f1 f2 f3 f4 ha
        simp only [] at c0 c1 c2 f0 f1 f2 f3 f4 ha
        have b1 : (0 : Int) ≤ (i : Int) := by omega
        have b2 : (i : Int) < (l1.length : Int) := by omega
        have v1 : IntKind.i64.wrap (x1 + (us.length : Int)) = x1 + (us.length : Int) := IntWalk.i64_in _ (by omega)
        have v2 : IntKind.i64.wrap (x0 + x1) = x0 + x1 := IntWalk.i64_in _ (by omega)
        by_cases h0 : 0 < i
        · obtain ⟨m, hm⟩ : ∃ m, m + 1 = i := ⟨i - 1, by omega⟩
          obtain ⟨d0, d1, d2⟩ := hc m (by omega)
          obtain ⟨k0, k1, k2, k3, k4⟩ := eds_get HE1.out m (by omega)
          have ha2 := ha m (by omega)
          obtain ⟨y, ey⟩ : ∃ y, l1[m] = y := ⟨_, rfl⟩
          obtain ⟨y0, y1, ya, yc, zs⟩ := y
          rw [ey] at d0 d1 d2 k0 k1 k2 k3 k4 ha2
          simp only [] at d0 d1 d2 k0 k1 k2 k3 k4 ha2
          have v3 : IntKind.i64.wrap ((i : Int) - 1) = (m : Int) := by rw [IntWalk.i64_in _ (by omega)]; omega
          have v4 : IntKind.i64.wrap (y0 + y1) = y0 + y1 := IntWalk.i64_in _ (by omega)
          have b3 : decide ((0 : Int) < (i : Int)) = true := decide_eq_true (by omega)
          have b4 : (m : Int) < (l1.length : Int) := by omega
          have b5 : (0 : Int) ≤ (m : Int) := by omega
          have t1 : decide (x1 + (us.length : Int) < 1) = false := decide_eq_false (by omega)
          have t2 : decide (x0 ≤ y0 + y1) = false := decide_eq_false (by omega)
          have t3 : decide ((xs.length : Int) < x0 + x1) = false := decide_eq_false (by omega)
          clear hc ha ex ey hE hm
          go_wp2
          go_region
          go_wp2
          go_roundw
          case rel => exact ⟨i + 1, _, by go_num, by omega, rfl⟩
          case measure => simp [intOf]; omega
        · have b3 : decide ((0 : Int) < (i : Int)) = false := decide_eq_false (by omega)
          have t1 : decide (x1 + (us.length : Int) < 1) = false := decide_eq_false (by omega)
          have t3 : decide ((xs.length : Int) < x0 + x1) = false := decide_eq_false (by omega)
          clear hc ha ex hE
          go_wp2
          go_region
          go_wp2
          go_roundw
          case rel => exact ⟨i + 1, _, by go_num, by omega, rfl⟩
          case measure => simp [intOf]; omega
      · obtain rfl : i = l1.length := by omega
        go_wp2
        go_ret
        exact ⟨rfl, below_drewN S.below _⟩
  · have hbb : (bxs = false) ∨ (bxs = true ∧ bys = false) := by
      clear S lxs Lxs lys Lys
      cases bxs <;> cases bys <;> simp_all
    clear hall lxs lys
    rcases hbb with rfl | ⟨rfl, rfl⟩
    all_goals
      go_enter Try.func6, Try.ntmps6
      go_wp2_with (first
        | (go_at_call 11; refine (awake4_any _).mono ?_; rintro e w1 ⟨rfl, hb⟩; replace S := S.call hb; clear hb)
        | (go_at_call_of 12 A; refine (light_any xs A _ 60 _ (S.ln me1)).mono ?_; rintro e w1 ⟨rfl, rfl⟩; rw [Lxs.out])
        | (go_at_call_of 12 B; refine (light_any ys B _ 60 _ (S.ln me0)).mono ?_; rintro e w1 ⟨rfl, rfl⟩; rw [Lys.out]))
      go_ret
      exact ⟨rfl, S.below⟩
end Go.Proofs.Ytgbkbcdplcehmaa
