/- diff.Cost: how many lines edits take away, and put there; the document's answer. -/
import Derived.Deep.QuietTactic
import Derived.BigQuiet
import Derived.Deep.LoopGhost
import Derived.Test.YtgbkbcdplcehmaaEdits
namespace Go.Proofs.Ytgbkbcdplcehmaa
open Go.RowKit

/-- What edits cost. -/
def cost (l : List (Int × Int × List ByteArray)) : Int := (l.map fun e => e.2.1 + (e.2.2.length : Int)).sum
theorem ecs_at (l : List EdA) : ∀ k (h : k < l.length), (ecs l)[k * 3]? = some (.int .i64 l[k].1) ∧ (ecs l)[k * 3 + 1]? = some (.int .i64 l[k].2.1) ∧ (ecs l)[k * 3 + 2]? = some (.slice l[k].2.2.1 l[k].2.2.2.2.length l[k].2.2.2.1) := by
  induction l with
  | nil => intro k h; simp at h
  | cons x l ih =>
    intro k h
    cases k with
    | zero => simp [ecs]
    | succ k =>
      have h1 := ih k (by simpa using h)
      have e : ecs (x :: l) = [.int .i64 x.1, .int .i64 x.2.1, .slice x.2.2.1 x.2.2.2.2.length x.2.2.2.1] ++ ecs l := by simp [ecs]
      rw [e]
      refine ⟨?_, ?_, ?_⟩
      · rw [List.getElem?_append_right (by simp; omega), show (k + 1) * 3 - ([Value.int .i64 x.1, .int .i64 x.2.1, .slice x.2.2.1 x.2.2.2.2.length x.2.2.2.1] : List Value).length = k * 3 from by simp; omega]
        simpa using h1.1
      · rw [List.getElem?_append_right (by simp; omega), show (k + 1) * 3 + 1 - ([Value.int .i64 x.1, .int .i64 x.2.1, .slice x.2.2.1 x.2.2.2.2.length x.2.2.2.1] : List Value).length = k * 3 + 1 from by simp; omega]
        simpa using h1.2.1
      · rw [List.getElem?_append_right (by simp; omega), show (k + 1) * 3 + 2 - ([Value.int .i64 x.1, .int .i64 x.2.1, .slice x.2.2.1 x.2.2.2.2.length x.2.2.2.1] : List Value).length = k * 3 + 2 from by simp; omega]
        simpa using h1.2.2
theorem EdL.at_ {C : Option Addr} {l : List EdA} {w : World} (h : EdL C l w) (hn : 0 < l.length) :
    ∃ g o, C = some ⟨g, o, none⟩ ∧ g < w.heap.size ∧ ∀ k (hk : k < l.length), w.cell? ⟨g, o + k * 3, none⟩ = some (.int .i64 l[k].1) ∧ w.cell? ⟨g, o + k * 3 + 1, none⟩ = some (.int .i64 l[k].2.1) ∧
      w.cell? ⟨g, o + k * 3 + 2, none⟩ = some (.slice l[k].2.2.1 l[k].2.2.2.2.length l[k].2.2.2.1) := by
  have hl := ecs_length l
  obtain ⟨g, o, e, hb, _, hc⟩ := Sl.at3 (SlX.sl (T := 35) h.1) (by omega)
  refine ⟨g, o, e, hb, fun k hk => ?_⟩
  obtain ⟨h0, h1, h2⟩ := ecs_at l k hk
  have c0 := hc (k * 3) (by omega)
  have c1 := hc (k * 3 + 1) (by omega)
  have c2 := hc (k * 3 + 2) (by omega)
  rw [List.getD_eq_getElem?_getD, h0] at c0
  rw [List.getD_eq_getElem?_getD, h1] at c1
  rw [List.getD_eq_getElem?_getD, h2] at c2
  exact ⟨c0, c1, c2⟩
theorem w64_both (a b : Int) : wrap64 (wrap64 a + wrap64 b) = wrap64 (a + b) := by unfold wrap64; omega
theorem cost_snoc (l : List (Int × Int × List ByteArray)) (e : Int × Int × List ByteArray) : cost (l ++ [e]) = cost l + (e.2.1 + (e.2.2.length : Int)) := by simp [cost]
theorem eds_take (l : List EdA) (k : Nat) (h : k < l.length) : eds (l.take (k + 1)) = eds (l.take k) ++ [(l[k].1, l[k].2.1, l[k].2.2.2.2)] := by
  rw [List.take_succ_eq_append_getElem h, eds_snoc]
set_option maxHeartbeats 1000000 in
theorem cost_any (l : List EdA) (C : Option Addr) (k : Nat) (w : World) (h : EdL C l w) (hn : l.length ≤ 1000000) :
    Calls Try.prog 20 #[.slice C l.length k] w fun e w' => e = .returned (.int .i64 (wrap64 (cost (eds l)))) ∧ Below w.heap.size w w' := by
  have hl : ∀ i (hi : i < l.length), l[i].2.2.2.2.length ≤ 9223372036854775807 := fun i hi => (h.2 l[i] (List.getElem_mem hi)).1
  have HL := Kp.mk hl
  go_enter Try.func20, Try.ntmps20
  go_wp2
  clear hl
  go_loopw [3, 8] (fun vn vi wr => ∃ i : Nat, vi = .int .i64 i ∧ i ≤ l.length ∧ vn = .int .i64 (wrap64 (cost (eds (l.take i)))) ∧ Below w.heap.size w wr) (fun _ vi _ => l.length - (intOf vi).toNat)
  case atStart => exact ⟨0, rfl, Nat.zero_le _, by rw [List.take_zero]; simp [eds, cost, wrap64], Below.refl _ _⟩
  case round =>
    obtain ⟨i, rfl, hi, rfl, hb⟩ := hrel
    by_cases hlt : i < l.length
    · obtain ⟨g, o, rfl, hg, hc⟩ := h.at_ (by omega)
      obtain ⟨c0, c1, c2⟩ := hc i hlt
      have d0 := (hb.cell (p := ⟨g, o + i * 3, none⟩) hg).trans c0
      have d1 := (hb.cell (p := ⟨g, o + i * 3 + 1, none⟩) hg).trans c1
      have d2 := (hb.cell (p := ⟨g, o + i * 3 + 2, none⟩) hg).trans c2
      have ht := eds_take l i hlt
      have hw := cost_snoc (eds (l.take i)) (l[i].1, l[i].2.1, l[i].2.2.2.2)
      rw [← ht] at hw
      have hx := HL.out i hlt
      obtain ⟨x, ex⟩ : ∃ x, l[i] = x := ⟨_, rfl⟩
      rw [ex] at d0 d1 d2 hw hx
      obtain ⟨x0, x1, xa, xc, xs⟩ := x
      obtain ⟨s, es⟩ : ∃ s, cost (eds (l.take i)) = s := ⟨_, rfl⟩
      rw [es]
      have HW := Kp.mk hw
      have ES := Kp.mk es
      clear hc c0 c1 c2 ht hw ex es
      go_wp2
      go_roundw
      case rel => exact ⟨i + 1, by go_num, by omega, by rw [HW.out, ES.out, w64_both], hb.alloc hb.size _⟩
      case measure => simp [intOf]; omega
    · obtain rfl : i = l.length := by omega
      rw [List.take_length]
      go_wp2
      go_ret
      exact ⟨rfl, hb⟩
end Go.Proofs.Ytgbkbcdplcehmaa
