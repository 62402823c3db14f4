/- What comes in by a row, read as a list: a slice of strings, a string. No function of the program is walked here. -/
import Derived.WalkKit
import Derived.ProofKit
import Derived.OpenShut
import Derived.ShutString
import Derived.ChangeOld
import Derived.Below
import Derived.SizedLaws
import Derived.SliceStrings
import Derived.Test.YtkggedmcdllnaaaWord
import Derived.Test.YtkggedmcdllnaaaProg
namespace Go.Proofs.Ytkggedmcdllnaaa
open Go.ChangeShapes Go.WideShapes Go.ChangeAt Go.RowKit

section
variable {H : Type} {enc : TypeId × Value → H} {W : World} {base : Nat} {r : Reach}
theorem open_strs {v : Value} {d : DataW H} {p : List MemPlace} (hv : Value.okWide Try.prog W r base 22 v)
    (h : DataW.Trod enc Try.prog W 0 (fun _ => true) true 22 v d p) :
    ∃ (A : Option Addr) (c : Nat) (xs : List ByteArray), v = .slice A xs.length c ∧ xs.length ≤ c ∧ c ≤ 9223372036854775807 ∧ SlS W.heap.size W A xs ∧ (∀ x ∈ p, x.block < W.heap.size) := by
  obtain ⟨a, len, cap, rfl⟩ := okWide_slice Try.underlying22 hv
  obtain ⟨fuel, hf⟩ := h
  have lt := DataW.trod_lt fuel _ _ _ hf
  rcases open_strings Try.underlying22 Try.underlying9 (by kernel_rfl) hf with ⟨hcs, _⟩ | ⟨x, l, c, ss, hcs, _, hl, hm, hz, _, hcell, _⟩
  · simp [Value.cells] at hcs
    obtain ⟨rfl, rfl, rfl⟩ := hcs
    exact ⟨none, 0, [], rfl, Nat.le_refl _, by omega, Sl.zero _, lt⟩
  · simp [Value.cells] at hcs
    obtain ⟨rfl, rfl, rfl⟩ := hcs
    simp only [maxLen] at hm
    have hlen : (ss.take len).length = len := by
      rw [List.length_take, hz]
      simp; omega
    refine ⟨_, cap, ss.take len, by rw [hlen], by omega, by omega, ⟨by omega, fun hn => ?_⟩, lt⟩
    have hcl : ∀ j, j < (ss.take len).length → W.cell? (x.add j) = some (.string (sAt (ss.take len) j)) := fun j hj => by
      rw [hcell j (by simp at hj; omega)]
      simp only [sAt, List.getD_eq_getElem?_getD, List.getElem?_take, if_pos (show j < len by omega)]
    have hb : x.block < W.heap.size := by
      have := World.block_lt_of_cell? W _ (hcl 0 hn)
      rwa [block_add] at this
    exact ⟨x, rfl, hb, .inl hb, hcl⟩
end
end Go.Proofs.Ytkggedmcdllnaaa
