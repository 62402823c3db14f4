/- slices.Clone at lists of lines . -/
import Derived.Lib.SliceRun
import Derived.RegionTactic
import Derived.BigRegion
import Derived.ChangeAlike
import Derived.Test.YtkggedmcdllnaaaLaw
namespace Go.Proofs.Ytkggedmcdllnaaa
open Go.RowKit

set_option maxHeartbeats 1000000 in
theorem cloneS_any (xs : List ByteArray) (A : Option Addr) (c : Nat) (w : World) (hA : SlS w.heap.size w A xs) (hn : xs.length ≤ 100000) :
    Calls Try.prog 26 #[.slice A xs.length c] w fun e w' => ∃ v, e = .returned v ∧ w'.ownsRow w.heap.size 9 1 v xs.length (scs xs) ∧ Below w.heap.size w w' := by
  have hnil := fun (W : World) (ad : Addr) (n m : Nat) => Lib.run_eql_slice_nil (P := Try.prog) W 22 9 (some ad) n m 0 0 Try.underlying22
  have hnil2 := fun (W : World) (n m : Nat) => Lib.run_eql_slice_nil (P := Try.prog) W 22 9 none n m 0 0 Try.underlying22
  cases A with
  | none =>
    have h0 : xs = [] := by
      rcases Nat.eq_zero_or_pos xs.length with h | h
      · exact List.eq_nil_of_length_eq_zero h
      · obtain ⟨ad, e, _⟩ := hA.2 h
        cases e
    subst h0
    go_enter Try.func26, Try.ntmps26
    go_wp2
    go_ret
    exact ⟨_, rfl, World.ownsRow_nil _ _ _ _, Below.refl _ _⟩
  | some ad =>
    go_enter Try.func26, Try.ntmps26
    have ho := World.ownsRow_made (base := w.heap.size) (e := 9) (size := 1) w #[] 0 (Nat.le_refl _) (by simp [maxLen]) rfl
    have hb0 : Below w.heap.size w (w.alloc (.cells #[] 9)) := (Below.refl _ w).alloc (Nat.le_refl _) _
    have hA1 := hA.alloc (.cells #[] 9)
    go_wp2_with (at_builtin; refine wpList_append_strs rfl _ _ 22 rfl Try.underlying22 w.heap.size _ 0 [] rfl ho _ _ _ xs _ rfl rfl hA1 (by simp; omega) (by simp) hb0 ?_; intro v2 w2 hown2 hb2 _)
    go_ret
    exact ⟨_, rfl, hown2, hb2⟩
end Go.Proofs.Ytkggedmcdllnaaa
