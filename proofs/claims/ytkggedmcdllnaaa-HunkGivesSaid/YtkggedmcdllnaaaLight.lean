/- quiltmakerlaw01.Light: whether there are at most so many lines, of at most 200 bytes. -/
import Derived.Test.YtkggedmcdllnaaaWord
import Derived.Test.YtkggedmcdllnaaaProg
namespace Go.Proofs.Ytkggedmcdllnaaa
open Go.RowKit

def light (xs : List ByteArray) (most : Int) : Bool := decide ((xs.length : Int) ≤ most) && (List.range xs.length).all (fun j => decide ((sAt xs j).size ≤ 200))
theorem light_len {xs : List ByteArray} {most : Int} (h : light xs most = true) : (xs.length : Int) ≤ most := by
  simp [light] at h; exact h.1

set_option maxHeartbeats 400000 in
theorem light_any (xs : List ByteArray) (A : Option Addr) (c : Nat) (most : Int) (w : World) (h : SlS w.heap.size w A xs) :
    Calls Try.prog 9 #[.slice A xs.length c, .int .i64 most] w fun e w' => e = .returned (.bool (light xs most)) ∧ w = w' := by
  have hb := h.1
  by_cases hm : (most : Int) < (xs.length : Int)
  · have he : light xs most = false := by simp [light]; omega
    have HE := Lib.hid he
    clear he
    go_enter Try.func9, Try.ntmps9
    go_wp2
    go_ret
    exact ⟨ret_bool HE.out.symm, rfl⟩
  · go_enter Try.func9, Try.ntmps9
    go_wp2
    go_loop [5] (fun i => ∃ k : Nat, k ≤ xs.length ∧ i = .int .i64 k ∧ Kp (∀ j, j < k → (sAt xs j).size ≤ 200)) (fun i => xs.length - (intOf i).toNat)
    case atStart => exact ⟨0, Nat.zero_le _, rfl, ⟨fun j hj => absurd hj (by omega)⟩⟩
    case round =>
      obtain ⟨k, hk, rfl, hall⟩ := hrel
      by_cases hlt : k < xs.length
      · obtain ⟨ad, rfl, hab, hcell⟩ := h.at_ hlt
        by_cases hs : (sAt xs k).size ≤ 200
        · go_wp2
          go_round
          case rel => exact ⟨k + 1, by omega, by go_num, ⟨fun j hj => by
            by_cases e : j = k
            · subst e; exact hs
            · exact hall.out j (by omega)⟩⟩
          case measure => simp [intOf]; omega
        · have he : light xs most = false := by
            simp only [light, Bool.and_eq_false_iff]
            right
            rw [List.all_eq_false]
            exact ⟨k, List.mem_range.2 hlt, by simpa using hs⟩
          have HE := Lib.hid he
          clear he
          go_wp2
          go_ret
          exact ⟨ret_bool HE.out.symm, rfl⟩
      · have he : light xs most = true := by
          simp only [light, Bool.and_eq_true, decide_eq_true_eq, List.all_eq_true, List.mem_range]
          exact ⟨by omega, fun j hj => hall.out j (by omega)⟩
        have HE := Lib.hid he
        clear he
        go_wp2
        go_ret
        exact ⟨ret_bool HE.out.symm, rfl⟩
end Go.Proofs.Ytkggedmcdllnaaa
