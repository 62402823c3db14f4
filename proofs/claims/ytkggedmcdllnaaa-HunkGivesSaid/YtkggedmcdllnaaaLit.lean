/- Lists of three lines that are written out. -/
import Derived.Test.YtkggedmcdllnaaaEd
namespace Go.Proofs.Ytkggedmcdllnaaa
open Go.RowKit

theorem Frs.lit (w : World) (xs : List ByteArray) (cs : Array Value) (hc : cs = (scs xs).toArray) (hl : xs.length ≤ 1000) : Frs w.heap.size (LnX (some ⟨w.heap.size, 0, none⟩) xs) (w.alloc (.cells cs 9)) := by
  subst hc
  refine ⟨_, dep_sl _ _ _, fun d hd => ?_, by omega, fun _ => ⟨_, rfl, ?_, fun j hj => ?_⟩⟩
  · obtain ⟨_, ad, e, rfl⟩ := hd
    injection e with e
    subst e
    exact ⟨Nat.le_refl _, by rw [World.size_alloc]; exact Nat.lt_succ_self _⟩
  · rw [World.size_alloc]; exact Nat.lt_succ_self _
  · rw [add_plain, cell_of_row _ _ j _ _ (0, 0) (heap_alloc_new w _)]
    simp [scs, List.getElem?_eq_getElem hj, sAt_lt hj]
theorem run_str3 (w : World) (x y z : ByteArray) : (Instr.buildSlice 22 3 #[(0, .string x), (1, .string y), (2, .string z)]).run Try.prog w = .ok (.slice (some ⟨w.heap.size, 0, none⟩) 3 3) (w.alloc (.cells #[.string x, .string y, .string z] 9)) := by simp [go_sem]
theorem wpList_str3 {w0 w : World} {L : List Bl} {M : List Mf} {ops : Array Oper} {rest : List Oper} {o : Oper} {a : Act} {Q : Exit → Act → World → Prop} (hgd : o.guard = none) (x y z : ByteArray)
    (ho : o.op = .buildSlice 22 3 #[(0, .const (.string x)), (1, .const (.string y)), (2, .const (.string z))]) (S : Sm w0 w L M)
    (h : ∀ g w', Sm w0 w' L ((w0.heap.size, LnX (some ⟨g, 0, none⟩) [x, y, z]) :: M) → wpList Try.prog ops Q rest (a.put o.dst (.slice (some ⟨g, 0, none⟩) 3 3)) w') : wpList Try.prog ops Q (o :: rest) a w :=
  wpList_plain hgd fun _ hK => by
    unfold Oper.wp execOp
    simp only [ho, Sem.run_bind, List.map_toArray, List.map_cons, List.map_nil, Act.eval, run_str3, Sem.run_pure, Result.andThen_ok]
    exact hK _ _ (h _ _ (S.made ((Below.refl _ w).alloc (Nat.le_refl _) _) (Frs.lit w [x, y, z] _ rfl (by simp))))
theorem me0 {α : Type} {b : α} {l : List α} : b ∈ b :: l := .head _
theorem me1 {α : Type} {a0 b : α} {l : List α} : b ∈ a0 :: b :: l := .tail _ me0
theorem me2 {α : Type} {a0 a1 b : α} {l : List α} : b ∈ a0 :: a1 :: b :: l := .tail _ me1
theorem me3 {α : Type} {a0 a1 a2 b : α} {l : List α} : b ∈ a0 :: a1 :: a2 :: b :: l := .tail _ me2
theorem me4 {α : Type} {a0 a1 a2 a3 b : α} {l : List α} : b ∈ a0 :: a1 :: a2 :: a3 :: b :: l := .tail _ me3
theorem me5 {α : Type} {a0 a1 a2 a3 a4 b : α} {l : List α} : b ∈ a0 :: a1 :: a2 :: a3 :: a4 :: b :: l := .tail _ me4
theorem me6 {α : Type} {a0 a1 a2 a3 a4 a5 b : α} {l : List α} : b ∈ a0 :: a1 :: a2 :: a3 :: a4 :: a5 :: b :: l := .tail _ me5
theorem me7 {α : Type} {a0 a1 a2 a3 a4 a5 a6 b : α} {l : List α} : b ∈ a0 :: a1 :: a2 :: a3 :: a4 :: a5 :: a6 :: b :: l := .tail _ me6
theorem me8 {α : Type} {a0 a1 a2 a3 a4 a5 a6 a7 b : α} {l : List α} : b ∈ a0 :: a1 :: a2 :: a3 :: a4 :: a5 :: a6 :: a7 :: b :: l := .tail _ me7
theorem me9 {α : Type} {a0 a1 a2 a3 a4 a5 a6 a7 a8 b : α} {l : List α} : b ∈ a0 :: a1 :: a2 :: a3 :: a4 :: a5 :: a6 :: a7 :: a8 :: b :: l := .tail _ me8
theorem me10 {α : Type} {a0 a1 a2 a3 a4 a5 a6 a7 a8 a9 b : α} {l : List α} : b ∈ a0 :: a1 :: a2 :: a3 :: a4 :: a5 :: a6 :: a7 :: a8 :: a9 :: b :: l := .tail _ me9
theorem me11 {α : Type} {a0 a1 a2 a3 a4 a5 a6 a7 a8 a9 a10 b : α} {l : List α} : b ∈ a0 :: a1 :: a2 :: a3 :: a4 :: a5 :: a6 :: a7 :: a8 :: a9 :: a10 :: b :: l := .tail _ me10
theorem me12 {α : Type} {a0 a1 a2 a3 a4 a5 a6 a7 a8 a9 a10 a11 b : α} {l : List α} : b ∈ a0 :: a1 :: a2 :: a3 :: a4 :: a5 :: a6 :: a7 :: a8 :: a9 :: a10 :: a11 :: b :: l := .tail _ me11
theorem me13 {α : Type} {a0 a1 a2 a3 a4 a5 a6 a7 a8 a9 a10 a11 a12 b : α} {l : List α} : b ∈ a0 :: a1 :: a2 :: a3 :: a4 :: a5 :: a6 :: a7 :: a8 :: a9 :: a10 :: a11 :: a12 :: b :: l := .tail _ me12
theorem me14 {α : Type} {a0 a1 a2 a3 a4 a5 a6 a7 a8 a9 a10 a11 a12 a13 b : α} {l : List α} : b ∈ a0 :: a1 :: a2 :: a3 :: a4 :: a5 :: a6 :: a7 :: a8 :: a9 :: a10 :: a11 :: a12 :: a13 :: b :: l := .tail _ me13
theorem me15 {α : Type} {a0 a1 a2 a3 a4 a5 a6 a7 a8 a9 a10 a11 a12 a13 a14 b : α} {l : List α} : b ∈ a0 :: a1 :: a2 :: a3 :: a4 :: a5 :: a6 :: a7 :: a8 :: a9 :: a10 :: a11 :: a12 :: a13 :: a14 :: b :: l := .tail _ me14
theorem me16 {α : Type} {a0 a1 a2 a3 a4 a5 a6 a7 a8 a9 a10 a11 a12 a13 a14 a15 b : α} {l : List α} : b ∈ a0 :: a1 :: a2 :: a3 :: a4 :: a5 :: a6 :: a7 :: a8 :: a9 :: a10 :: a11 :: a12 :: a13 :: a14 :: a15 :: b :: l := .tail _ me15
theorem me17 {α : Type} {a0 a1 a2 a3 a4 a5 a6 a7 a8 a9 a10 a11 a12 a13 a14 a15 a16 b : α} {l : List α} : b ∈ a0 :: a1 :: a2 :: a3 :: a4 :: a5 :: a6 :: a7 :: a8 :: a9 :: a10 :: a11 :: a12 :: a13 :: a14 :: a15 :: a16 :: b :: l := .tail _ me16
theorem me18 {α : Type} {a0 a1 a2 a3 a4 a5 a6 a7 a8 a9 a10 a11 a12 a13 a14 a15 a16 a17 b : α} {l : List α} : b ∈ a0 :: a1 :: a2 :: a3 :: a4 :: a5 :: a6 :: a7 :: a8 :: a9 :: a10 :: a11 :: a12 :: a13 :: a14 :: a15 :: a16 :: a17 :: b :: l := .tail _ me17
theorem me19 {α : Type} {a0 a1 a2 a3 a4 a5 a6 a7 a8 a9 a10 a11 a12 a13 a14 a15 a16 a17 a18 b : α} {l : List α} : b ∈ a0 :: a1 :: a2 :: a3 :: a4 :: a5 :: a6 :: a7 :: a8 :: a9 :: a10 :: a11 :: a12 :: a13 :: a14 :: a15 :: a16 :: a17 :: a18 :: b :: l := .tail _ me18
theorem me20 {α : Type} {a0 a1 a2 a3 a4 a5 a6 a7 a8 a9 a10 a11 a12 a13 a14 a15 a16 a17 a18 a19 b : α} {l : List α} : b ∈ a0 :: a1 :: a2 :: a3 :: a4 :: a5 :: a6 :: a7 :: a8 :: a9 :: a10 :: a11 :: a12 :: a13 :: a14 :: a15 :: a16 :: a17 :: a18 :: a19 :: b :: l := .tail _ me19
theorem me21 {α : Type} {a0 a1 a2 a3 a4 a5 a6 a7 a8 a9 a10 a11 a12 a13 a14 a15 a16 a17 a18 a19 a20 b : α} {l : List α} : b ∈ a0 :: a1 :: a2 :: a3 :: a4 :: a5 :: a6 :: a7 :: a8 :: a9 :: a10 :: a11 :: a12 :: a13 :: a14 :: a15 :: a16 :: a17 :: a18 :: a19 :: a20 :: b :: l := .tail _ me20
theorem me22 {α : Type} {a0 a1 a2 a3 a4 a5 a6 a7 a8 a9 a10 a11 a12 a13 a14 a15 a16 a17 a18 a19 a20 a21 b : α} {l : List α} : b ∈ a0 :: a1 :: a2 :: a3 :: a4 :: a5 :: a6 :: a7 :: a8 :: a9 :: a10 :: a11 :: a12 :: a13 :: a14 :: a15 :: a16 :: a17 :: a18 :: a19 :: a20 :: a21 :: b :: l := .tail _ me21
theorem me23 {α : Type} {a0 a1 a2 a3 a4 a5 a6 a7 a8 a9 a10 a11 a12 a13 a14 a15 a16 a17 a18 a19 a20 a21 a22 b : α} {l : List α} : b ∈ a0 :: a1 :: a2 :: a3 :: a4 :: a5 :: a6 :: a7 :: a8 :: a9 :: a10 :: a11 :: a12 :: a13 :: a14 :: a15 :: a16 :: a17 :: a18 :: a19 :: a20 :: a21 :: a22 :: b :: l := .tail _ me22
theorem me24 {α : Type} {a0 a1 a2 a3 a4 a5 a6 a7 a8 a9 a10 a11 a12 a13 a14 a15 a16 a17 a18 a19 a20 a21 a22 a23 b : α} {l : List α} : b ∈ a0 :: a1 :: a2 :: a3 :: a4 :: a5 :: a6 :: a7 :: a8 :: a9 :: a10 :: a11 :: a12 :: a13 :: a14 :: a15 :: a16 :: a17 :: a18 :: a19 :: a20 :: a21 :: a22 :: a23 :: b :: l := .tail _ me23
end Go.Proofs.Ytkggedmcdllnaaa
