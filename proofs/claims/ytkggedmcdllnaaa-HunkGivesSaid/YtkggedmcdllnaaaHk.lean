/- Hunks in memory: a block of three cells, and a result that lies in one. -/
import Derived.Laws.ResultCell
import Derived.Handy
import Derived.Test.YtkggedmcdllnaaaLaw
namespace Go.Proofs.Ytkggedmcdllnaaa
open Go.RowKit

/-- A hunk's block. -/
def HkAt (w : World) (g : Nat) (v0 v1 v2 : Value) : Prop := Row w g 24 3 (fun k => if k = 0 then v0 else if k = 1 then v1 else v2)
section
variable {w w' : World} {g : Nat} {v0 v1 v2 : Value}
theorem HkAt.new (w : World) (v0 v1 v2 : Value) : HkAt (w.alloc (.cells #[v0, v1, v2] 24)) w.heap.size v0 v1 v2 := Row.new w _ _ 3 _ rfl (fun k hk => by
  have h : k = 0 ∨ k = 1 ∨ k = 2 := by omega
  rcases h with rfl | rfl | rfl <;> rfl)
theorem HkAt.lt (h : HkAt w g v0 v1 v2) : g < w.heap.size := Row.lt h
theorem HkAt.alloc (h : HkAt w g v0 v1 v2) (o : Obj) : HkAt (w.alloc o) g v0 v1 v2 := Row.alloc h o
theorem HkAt.drew (h : HkAt w g v0 v1 v2) : HkAt w.drew g v0 v1 v2 := h
theorem HkAt.below (h : HkAt w g v0 v1 v2) (hb : Below w.heap.size w w') : HkAt w' g v0 v1 v2 := Row.below h hb
theorem HkAt.far (h : HkAt w g v0 v1 v2) {p : Addr} (hp : g ≠ p.block) (u : Value) : HkAt (w.setCell p u) g v0 v1 v2 := Row.far h hp u
theorem HkAt.c0 (h : HkAt w g v0 v1 v2) : w.cell? ⟨g, 0, none⟩ = some v0 := Row.cell h (by decide)
theorem HkAt.c1 (h : HkAt w g v0 v1 v2) : w.cell? ⟨g, 1, none⟩ = some v1 := Row.cell h (by decide)
theorem HkAt.c2 (h : HkAt w g v0 v1 v2) : w.cell? ⟨g, 2, none⟩ = some v2 := Row.cell h (by decide)
theorem HkAt.free (h : HkAt w g v0 v1 v2) (k : Nat) : w.frozen? ⟨g, k, none⟩ = false := Row.free h k
theorem HkAt.set0 (h : HkAt w g v0 v1 v2) (u : Value) : HkAt (w.setCell ⟨g, 0, none⟩ u) g u v1 v2 := (Row.set h 0 u).congr fun k _ => by by_cases e : k = 0 <;> simp [e]
theorem HkAt.set1 (h : HkAt w g v0 v1 v2) (u : Value) : HkAt (w.setCell ⟨g, 1, none⟩ u) g v0 u v2 := (Row.set h 1 u).congr fun k _ => by by_cases e : k = 1 <;> by_cases e' : k = 0 <;> simp [e, e'] <;> omega
theorem HkAt.set2 (h : HkAt w g v0 v1 v2) (u : Value) : HkAt (w.setCell ⟨g, 2, none⟩ u) g v0 v1 u := (Row.set h 2 u).congr fun k hk => by
  have h : k = 0 ∨ k = 1 ∨ k = 2 := by omega
  rcases h with rfl | rfl | rfl <;> simp
theorem HkAt.setAll (h : HkAt w g v0 v1 v2) (u0 u1 u2 : Value) : HkAt (((w.setCell ⟨g, 0, none⟩ u0).setCell ⟨g, 1, none⟩ u1).setCell ⟨g, 2, none⟩ u2) g u0 u1 u2 := ((h.set0 u0).set1 u1).set2 u2
theorem HkAt.notStr (h : HkAt w g v0 v1 v2) : NotT 9 w g := NotT.of_row h (by decide)
end
/-- What lines lie elsewhere stay, where a hunk's block of the call's own is written. -/
theorem SlS.setHk {B : Nat} {w : World} {A : Option Addr} {xs : List ByteArray} (h : SlS B w A xs) {g : Nat} {v0 v1 v2 : Value} (hk : HkAt w g v0 v1 v2) (hB : B ≤ g) (u0 u1 u2 : Value) :
    SlS B (((w.setCell ⟨g, 0, none⟩ u0).setCell ⟨g, 1, none⟩ u1).setCell ⟨g, 2, none⟩ u2) A xs :=
  SlS.grown h (row := some g) (grown_set (grown_set (grown_set (World.grownBy.refl w (some g)) (p := ⟨g, 0, none⟩) rfl u0) (p := ⟨g, 1, none⟩) rfl u1) (p := ⟨g, 2, none⟩) rfl u2) (fun k e => by cases e; exact ⟨hB, hk.notStr⟩)
theorem below_setHk {B : Nat} {a w : World} (h : Below B a w) {g : Nat} (hB : B ≤ g) (u0 u1 u2 : Value) : Below B a (((w.setCell ⟨g, 0, none⟩ u0).setCell ⟨g, 1, none⟩ u1).setCell ⟨g, 2, none⟩ u2) :=
  ((h.setCell hB u0).setCell hB u1).setCell hB u2
theorem HkAt.farHk {w : World} {g h : Nat} {v0 v1 v2 : Value} (k : HkAt w g v0 v1 v2) (hne : g ≠ h) (y0 y1 y2 : Value) : HkAt (((w.setCell ⟨h, 0, none⟩ y0).setCell ⟨h, 1, none⟩ y1).setCell ⟨h, 2, none⟩ y2) g v0 v1 v2 :=
  ((k.far (p := ⟨h, 0, none⟩) hne y0).far (p := ⟨h, 1, none⟩) hne y1).far (p := ⟨h, 2, none⟩) hne y2
/-- Two blocks of hunks, both written. -/
theorem HkAt.setOther {w : World} {g h : Nat} {v0 v1 v2 u0 u1 u2 : Value} (k : HkAt w g v0 v1 v2) (k' : HkAt w h u0 u1 u2) (hne : g ≠ h) (y0 y1 y2 : Value) :
    HkAt (((w.setCell ⟨h, 0, none⟩ y0).setCell ⟨h, 1, none⟩ y1).setCell ⟨h, 2, none⟩ y2) g v0 v1 v2 ∧ HkAt (((w.setCell ⟨h, 0, none⟩ y0).setCell ⟨h, 1, none⟩ y1).setCell ⟨h, 2, none⟩ y2) h y0 y1 y2 :=
  ⟨((k.far (p := ⟨h, 0, none⟩) hne y0).far (p := ⟨h, 1, none⟩) hne y1).far (p := ⟨h, 2, none⟩) hne y2, k'.setAll y0 y1 y2⟩
/-- Two blocks of hunks, the first one written, then the second one. -/
theorem HkAt.setBoth {w : World} {g h : Nat} {v0 v1 v2 u0 u1 u2 : Value} (k : HkAt w g v0 v1 v2) (k' : HkAt w h u0 u1 u2) (hne : g ≠ h) (x0 x1 x2 y0 y1 y2 : Value) :
    HkAt ((((((w.setCell ⟨g, 0, none⟩ x0).setCell ⟨g, 1, none⟩ x1).setCell ⟨g, 2, none⟩ x2).setCell ⟨h, 0, none⟩ y0).setCell ⟨h, 1, none⟩ y1).setCell ⟨h, 2, none⟩ y2) g x0 x1 x2 ∧
    HkAt ((((((w.setCell ⟨g, 0, none⟩ x0).setCell ⟨g, 1, none⟩ x1).setCell ⟨g, 2, none⟩ x2).setCell ⟨h, 0, none⟩ y0).setCell ⟨h, 1, none⟩ y1).setCell ⟨h, 2, none⟩ y2) h y0 y1 y2 :=
  (k.setAll x0 x1 x2).setOther (((k'.far (p := ⟨g, 0, none⟩) (Ne.symm hne) x0).far (p := ⟨g, 1, none⟩) (Ne.symm hne) x1).far (p := ⟨g, 2, none⟩) (Ne.symm hne) x2) hne y0 y1 y2
theorem load_hk (w : World) (g : Nat) (v0 v1 v2 : Value) (h : HkAt w g v0 v1 v2) : (loadVar 24 ⟨g, 0, none⟩).run Try.prog w = .ok (.agg #[v0, v1, v2]) w := by
  have h0 := h.c0
  have h1 := h.c1
  have h2 := h.c2
  simp [loadVar, go_sem, h0, h1, h2]
theorem results_h1 {fn : Func} {p : Tmp} (hr : fn.results = #[.cell p 24]) (tmps : Array Value) (w : World) (g : Nat) (v0 v1 v2 : Value) (hp : tmps[p]?.getD undef = .pointer (some ⟨g, 0, none⟩)) (h : HkAt w g v0 v1 v2) :
    (results fn tmps).run Try.prog w = .ok (.agg #[v0, v1, v2]) w := by
  simp only [results, hr]
  simp [hp, asAddr, load_hk w g v0 v1 v2 h]
theorem results_h2 {fn : Func} {p q u : Tmp} (hr : fn.results = #[.cell p 24, .cell q 24, .tmp u]) (tmps : Array Value) (w : World) (g g' : Nat) (v0 v1 v2 u0 u1 u2 : Value) (hp : tmps[p]?.getD undef = .pointer (some ⟨g, 0, none⟩)) (hq : tmps[q]?.getD undef = .pointer (some ⟨g', 0, none⟩)) (h : HkAt w g v0 v1 v2) (h' : HkAt w g' u0 u1 u2) (vu : Value) (hu : tmps[u]?.getD undef = vu) :
    (results fn tmps).run Try.prog w = .ok (.tuple #[.agg #[v0, v1, v2], .agg #[u0, u1, u2], vu]) w := by
  simp only [results, hr]
  simp [Sem.run_bind, Result.andThen, hp, hq, hu, asAddr, load_hk w g v0 v1 v2 h, load_hk w g' u0 u1 u2 h']
end Go.Proofs.Ytkggedmcdllnaaa
