/- Laws for the walk over the words of memory: copy between two rows of the call's own, append, make. No function of the program. -/
import Derived.Laws.CopyOwn
import Derived.Laws.AppendOwnNone
import Derived.Deep.OwnRows
import Derived.OwnWalk
import Derived.Maps.AppendAt
import Derived.Test.YtanhdcpmflmggaaWord
namespace Go.Proofs.Ytanhdcpmflmggaa
open Go.RowKit Go.Deep
section
variable {P : Program} {w : World} {ops : Array Oper} {rest : List Oper} {o : Oper} {a : Act} {Q : Exit → Act → World → Prop}

/-- copy of a whole row over another one of the same length. -/
theorem wpList_copy_rows (hgd : o.guard = none) (d s : Operand) (dT sT : TypeId)
    (ho : o.op = .call { callee := .builtin .copy, args := #[d, s], argTypes := #[dT, sT] }) (elem : TypeId) (hu : P.underlying dT = some (.slice elem)) (hsz : (P.info? elem).map (·.size) = some 1)
    (g g' n c c' : Nat) (T : TypeId) (f f' : Nat → Value) (hd : a.eval d = .slice (some ⟨g, 0, none⟩) n c) (hs : a.eval s = .slice (some ⟨g', 0, none⟩) n c')
    (hr : Row w g T n f) (hr' : Row w g' T n f') (h1 : ∀ k, (f' k).oneCell' = true)
    (h : ∀ w', Row w' g T n f' → w.grownBy w' (some g) → wpList P ops Q rest (a.put o.dst (goInt n)) w') : wpList P ops Q (o :: rest) a w := by
  obtain ⟨cs, hc1, hc2, hc3⟩ := hr
  have hl : ((List.range n).map f').length = n := by simp
  have hk := wpList_copy_own (P := P) (w := w) (ops := ops) (rest := rest) (o := o) (a := a) (Q := Q) hgd d s dT sT ho elem hu hsz g 0 n c ⟨g', 0, none⟩ n c' hd hs cs T hc1 ((List.range n).map f')
    (by rw [hl]; exact (Nat.min_self n).symm)
    (fun j v hj => by
      rw [List.getElem?_map] at hj
      obtain ⟨i, hi, rfl⟩ := Option.map_eq_some_iff.1 hj
      obtain ⟨hlt, rfl⟩ := List.getElem?_eq_some_iff.1 hi
      rw [add_plain]
      have hjn : j < n := by simpa using hlt
      simpa using hr'.cell hjn)
    (by rw [hl, hc2]; omega) (fun v hv => by
      obtain ⟨i, _, rfl⟩ := List.mem_map.1 hv
      exact h1 i)
  rw [hl] at hk
  refine hk (h _ ⟨_, setRow_heap w g _ _ T _ hc1, ?_, ?_⟩ ⟨rfl, rfl, rfl, by simp [World.setRow], fun k _ hne => setRow_other w g k _ (fun e => hne (by rw [e]))⟩)
  · simp [hc2]
  · intro k hk2
    have hkl : k < ((List.range n).map f').length := by simpa using hk2
    simp only [List.take_zero, List.nil_append, List.getElem?_toArray]
    rw [List.getElem?_append_left hkl]
    simp [hk2]
end
end Go.Proofs.Ytanhdcpmflmggaa
