/- A slice of bools that comes in by a row. No function of the program is walked here. -/
import Derived.Deep.Grids
import Derived.Test.YtanhdcpmflmggaaOpen
namespace Go.Proofs.Ytanhdcpmflmggaa
open Go.ChangeShapes Go.WideShapes Go.ChangeAt Go.RowKit Go.Deep

theorem open_bls {H : Type} {enc : TypeId × Value → H} {W : World} {base : Nat} {r : Reach} {v : Value} {d : DataW H} {p : List MemPlace} (hv : Value.okWide Try.prog W r base 31 v)
    (h : DataW.Trod enc Try.prog W 0 (fun _ => true) true 31 v d p) :
    ∃ (A : Option Addr) (m k : Nat) (g : Nat → Bool), v = .slice A m k ∧ Sl 4 W.heap.size W A m (fun j => .bool (g j)) ∧ (∀ x ∈ p, x.block < W.heap.size) := by
  obtain ⟨a, len, cap, rfl⟩ := okWide_slice Try.underlying31 hv
  obtain ⟨fuel, hf⟩ := h
  have lt := DataW.trod_lt fuel _ _ _ hf
  rcases open_bools Try.underlying31 Try.underlying4 (by kernel_rfl) hf with ⟨hcs, _⟩ | ⟨x, l, c, g, hcs, _, hl, hm, _, hcell⟩
  · simp [Value.cells] at hcs
    obtain ⟨rfl, rfl, rfl⟩ := hcs
    exact ⟨none, 0, 0, fun _ => false, rfl, Sl.zero _, lt⟩
  · simp [Value.cells] at hcs
    obtain ⟨rfl, rfl, rfl⟩ := hcs
    simp only [maxLen] at hm
    refine ⟨_, len, cap, g, rfl, ⟨by omega, fun hn => ?_⟩, lt⟩
    have hb : x.block < W.heap.size := by
      have := World.block_lt_of_cell? W _ (hcell 0 (by omega))
      rwa [block_add] at this
    exact ⟨x, rfl, hb, .inl hb, fun j hj => hcell j (by omega)⟩
end Go.Proofs.Ytanhdcpmflmggaa
