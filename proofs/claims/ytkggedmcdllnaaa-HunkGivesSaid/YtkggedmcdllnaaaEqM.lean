/- slices.Equal at layer 2's own lists. -/
import Derived.Deep.QuietTactic
import Derived.BigQuiet
import Derived.Deep.DeepCutAuto
import Derived.Deep.LoopGhost
import Derived.Deep.RegionWith
import Derived.RegionTactic
import Derived.BigRegion
import Derived.ChangeAlike
import Derived.Lib.AppendZeros
import Derived.Test.YtkggedmcdllnaaaLaw
namespace Go.Proofs.Ytkggedmcdllnaaa
open Go.RowKit

theorem equalM_at_q (xs ys : List ByteArray) (A B : Option Addr) (n m c d : Nat) (b : Bool) (w : World) (hx : n = xs.length) (hy : m = ys.length) (hb : decide (xs = ys) = b) (hA : SlS w.heap.size w A xs) (hB : SlS w.heap.size w B ys) (hn : xs.length ≤ 100000) :
    Calls Try.prog 42 #[.slice A n c, .slice B m d] w fun e w' => e = .returned (.bool b) ∧ ∃ q, w' = w.drewN q := by
  subst hx hy hb
  by_cases hl : xs.length = ys.length
  · have hd : (decide ((xs.length : Int) = (ys.length : Int))) = true := decide_eq_true (by omega)
    have HL := Kp.mk hl
    go_enter Try.func42, Try.ntmps42
    go_wp2
    clear hl hd
    go_loopw [13] (fun vi wr => ∃ i q : Nat, vi = .int .i64 i ∧ i ≤ xs.length ∧ Kp (∀ j, j < i → sAt xs j = sAt ys j) ∧ wr = w.drewN q) (fun vi _ => xs.length - (intOf vi).toNat)
    case atStart => exact ⟨0, 0, rfl, Nat.zero_le _, ⟨fun j hj => absurd hj (by omega)⟩, rfl⟩
    case round =>
      obtain ⟨i, q, rfl, hi, hall, rfl⟩ := hrel
      by_cases hlt : i < xs.length
      · obtain ⟨ax, rfl, hax, hcx⟩ := hA.at_ hlt
        obtain ⟨ay, rfl, hay, hcy⟩ := hB.at_ (show i < ys.length by rw [← HL.out]; exact hlt)
        have b1 : (i : Int) < (xs.length : Int) := by omega
        have b2 : (i : Int) < (ys.length : Int) := by have := HL.out; omega
        by_cases heq : sAt xs i = sAt ys i
        · have hbq : ((sAt xs i).toList == (sAt ys i).toList) = true := by rw [str_beq]; exact decide_eq_true heq
          have HE := Kp.mk heq
          clear heq
          go_wp2
          go_quiet (fail)
          go_wp2
          go_roundw
          case rel => exact ⟨i + 1, _, by go_num, by omega, ⟨fun j hj => by
            by_cases e : j = i
            · subst e; exact HE.out
            · exact hall.out j (by omega)⟩, rfl⟩
          case measure => simp [intOf]; omega
        · have hbq : ((sAt xs i).toList == (sAt ys i).toList) = false := by rw [str_beq]; exact decide_eq_false heq
          have HC : Kp (decide (xs = ys) = false) := ⟨decide_eq_false fun e => heq (by rw [e])⟩
          clear heq
          go_wp2
          go_quiet (fail)
          go_wp2
          go_ret
          exact ⟨ret_bool (by rw [HC.out]), _, by rw [World.drewN_drewN]⟩
      · have hlt2 : ¬ i < ys.length := by rw [← HL.out]; exact hlt
        have HC : Kp (decide (xs = ys) = true) := ⟨decide_eq_true (List.ext_getElem HL.out fun j h1 h2 => by
          rw [← sAt_lt h1, ← sAt_lt h2]; exact hall.out j (by omega))⟩
        go_wp2
        go_ret
        exact ⟨ret_bool (by rw [HC.out]), _, rfl⟩
  · have hd : (decide ((xs.length : Int) = (ys.length : Int))) = false := decide_eq_false (by omega)
    have HC : Kp (decide (xs = ys) = false) := ⟨decide_eq_false fun e => hl (by rw [e])⟩
    go_enter Try.func42, Try.ntmps42
    go_wp2
    go_ret
    exact ⟨ret_bool (by rw [HC.out]), 0, rfl⟩
theorem equalM_at (xs ys : List ByteArray) (A B : Option Addr) (n m c d : Nat) (b : Bool) (w : World) (hx : n = xs.length) (hy : m = ys.length) (hb : decide (xs = ys) = b) (hA : SlS w.heap.size w A xs) (hB : SlS w.heap.size w B ys) (hn : xs.length ≤ 100000) :
    Calls Try.prog 42 #[.slice A n c, .slice B m d] w fun e w' => e = .returned (.bool b) ∧ Below w.heap.size w w' :=
  (equalM_at_q xs ys A B n m c d b w hx hy hb hA hB hn).mono fun _ _ h => ⟨h.1, by obtain ⟨q, hq⟩ := h.2; rw [hq]; exact below_drewN (Below.refl _ _) q⟩
end Go.Proofs.Ytkggedmcdllnaaa
