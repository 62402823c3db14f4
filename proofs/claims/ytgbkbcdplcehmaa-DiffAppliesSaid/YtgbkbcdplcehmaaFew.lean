/- quiltmakerlaw04.Few: are there at most 60 edits, of at most 60 lines? -/
import Derived.Test.YtgbkbcdplcehmaaOpenE
import Derived.Test.YtgbkbcdplcehmaaLight
import Derived.Test.YtgbkbcdplcehmaaLit
namespace Go.Proofs.Ytgbkbcdplcehmaa
open Go.RowKit

def fews (l : List EdA) : Bool := l.all fun e => light e.2.2.2.2 60
theorem fews_take (l : List EdA) (i : Nat) (h : i < l.length) : fews (l.take (i + 1)) = (fews (l.take i) && light l[i].2.2.2.2 60) := by
  unfold fews
  rw [List.take_succ_eq_append_getElem h, List.all_append]
  simp
theorem fews_not (l : List EdA) (i : Nat) (h : i < l.length) (hb : light l[i].2.2.2.2 60 = false) : fews l = false := by
  unfold fews
  rw [List.all_eq_false]
  exact ⟨l[i], List.getElem_mem h, by simp [hb]⟩
theorem few_no (C : Option Addr) (n k : Nat) (w : World) (hn : 60 < n) (h : n ≤ 9223372036854775807) :
    Calls Try.prog 16 #[.slice C n k] w fun e w' => e = .returned (.bool false) ∧ Below w.heap.size w w' := by
  go_enter Try.func16, Try.ntmps16
  have t1 : (60 : Int) < (n : Int) := by omega
  go_wp2
  go_ret
  exact ⟨rfl, Below.refl _ _⟩
set_option maxHeartbeats 1000000 in
theorem few_any (l : List EdA) (C : Option Addr) (k : Nat) (w : World) (h : EdL C l w) (hn : l.length ≤ 60) :
    Calls Try.prog 16 #[.slice C l.length k] w fun e w' => e = .returned (.bool (fews l)) ∧ Below w.heap.size w w' := by
  have S0 := (Sm.start w).argF h.frs
  clear h
  go_enter Try.func16, Try.ntmps16
  have t1 : ¬ (60 : Int) < (l.length : Int) := by omega
  go_wp2
  clear t1
  go_loopw [3] (fun vi wr => ∃ i : Nat, vi = .int .i64 i ∧ i ≤ l.length ∧ fews (l.take i) = true ∧ Sm w wr [] [(0, EdL C l)]) (fun vi _ => l.length - (intOf vi).toNat)
  case atStart => exact ⟨0, rfl, Nat.zero_le _, rfl, S0⟩
  case round =>
    obtain ⟨i, rfl, hi, ht, S⟩ := hrel
    by_cases hlt : i < l.length
    · obtain ⟨g, o, rfl, hg, hc⟩ := EdL.at_ (S.get me0) (by omega)
      obtain ⟨c0, c1, c2⟩ := hc i hlt
      have hs := ((S.get me0).2 l[i] (List.getElem_mem hlt)).ln
      have hx := fews_take l i hlt
      have hy := fews_not l i hlt
      obtain ⟨b, eb⟩ : ∃ b, light l[i].2.2.2.2 60 = b := ⟨_, rfl⟩
      rw [ht, eb] at hx
      rw [eb] at hy
      have HX := Kp.mk hx
      have HY := Kp.mk hy
      have EB := Kp.mk eb
      obtain ⟨x, ex⟩ : ∃ x, l[i] = x := ⟨_, rfl⟩
      rw [ex] at c2 hs EB
      obtain ⟨x0, x1, xa, xc, xs⟩ := x
      clear hc c0 c1 hx hy eb ex ht
      cases b
      · go_wp2_with (first
          | (go_at_call 12; refine (light_any xs xa xc 60 _ hs).mono ?_; rintro e w1 ⟨rfl, rfl⟩; rw [EB.out]))
        go_ret
        exact ⟨by rw [HY.out trivial]; rfl, S.below⟩
      · go_wp2_with (first
          | (go_at_call 12; refine (light_any xs xa xc 60 _ hs).mono ?_; rintro e w1 ⟨rfl, rfl⟩; rw [EB.out]))
        go_roundw
        case rel => exact ⟨i + 1, by go_num, by omega, by rw [HX.out]; rfl, S⟩
        case measure => simp [intOf]; omega
    · obtain rfl : i = l.length := by omega
      rw [List.take_length] at ht
      have HT := Kp.mk ht
      clear ht
      go_wp2
      go_ret
      exact ⟨by rw [HT.out]; rfl, S.below⟩
/-- Edits that come in: read where they are not too many. -/
def EdM (C : Option Addr) (l : List EdA) (w : World) : Prop := l.length ≤ 1000000 → EdL C l w
theorem EdM.frs {C : Option Addr} {l : List EdA} {w : World} (h : EdM C l w) : Frs 0 (EdM C l) w := by
  by_cases hl : l.length ≤ 1000000
  · obtain ⟨D, k1, k2, k3⟩ := (h hl).frs
    exact ⟨D, fun w1 w2 hd hs h1 _ => k1 w1 w2 hd hs (h1 hl), k2, h⟩
  · exact ⟨fun _ => False, fun _ _ _ _ _ e => absurd e hl, fun d hd => hd.elim, h⟩
theorem few_both (l : List EdA) (C : Option Addr) (k : Nat) (w : World) (b : Bool) (hb : (decide (l.length ≤ 60) && fews l) = b) (h : EdM C l w) (hn : l.length ≤ 9223372036854775807) :
    Calls Try.prog 16 #[.slice C l.length k] w fun e w' => e = .returned (.bool b) ∧ Below w.heap.size w w' := by
  subst hb
  by_cases hl : l.length ≤ 60
  · rw [decide_eq_true hl, Bool.true_and]
    exact few_any l C k w (h (by omega)) hl
  · rw [decide_eq_false hl, Bool.false_and]
    exact few_no C l.length k w (by omega) hn
theorem few_out {l : List EdA} (h : (decide (l.length ≤ 60) && fews l) = true) : l.length ≤ 60 ∧ ∀ e ∈ l, e.2.2.2.2.length ≤ 60 := by
  simp only [Bool.and_eq_true, decide_eq_true_eq, fews, List.all_eq_true] at h
  exact ⟨h.1, fun e he => by have := light_len (h.2 e he); omega⟩
end Go.Proofs.Ytgbkbcdplcehmaa
