/- What a call knows of memory, in one word: blocks of its own that are known whole, lists of lines. Laws of the walk over it. -/
import Derived.Laws.Rows
import Derived.Laws.Tables
import Derived.Laws.CopyRow
import Derived.Test.YtkggedmcdllnaaaLaw
namespace Go.Proofs.Ytkggedmcdllnaaa
open Go.RowKit

/-- Block g is just the cells cs of type T. -/
def Blk (w : World) (g : Nat) (T : TypeId) (cs : Array Value) : Prop := w.heap[g]? = some (.cells cs T (0, 0))
theorem Blk.lt {w : World} {g : Nat} {T : TypeId} {cs : Array Value} (h : Blk w g T cs) : g < w.heap.size := (Array.getElem?_eq_some_iff.1 h).1
theorem Blk.notStr {w : World} {g : Nat} {T : TypeId} {cs : Array Value} (h : Blk w g T cs) (hT : T ≠ 9) : NotT 9 w g := by
  intro cs' fr h2
  rw [h] at h2
  injection h2 with h2
  injection h2 with _ ht
  exact hT ht

abbrev Bl := Nat × TypeId × Array Value
abbrev Ln := Nat × Option Addr × List ByteArray
structure St (w0 w : World) (L : List Bl) (M : List Ln) : Prop where
  below : Below w0.heap.size w0 w
  blk : ∀ (i : Nat) (b : Bl), L[i]? = some b → w0.heap.size ≤ b.1 ∧ b.2.1 ≠ 9 ∧ Blk w b.1 b.2.1 b.2.2
  dis : ∀ (i j : Nat) (b c : Bl), L[i]? = some b → L[j]? = some c → b.1 = c.1 → i = j
  lin : ∀ m ∈ M, m.1 ≤ w0.heap.size ∧ SlS m.1 w m.2.1 m.2.2
section
variable {w0 w w' : World} {L : List Bl} {M : List Ln}
theorem St.start (w : World) : St w w [] [] := ⟨Below.refl _ _, fun i b h => by simp at h, fun i j b c h => by simp at h, fun m h => by simp at h⟩
theorem St.addB (h : St w0 w L M) {B : Nat} (hB : B ≤ w0.heap.size) {A : Option Addr} {xs : List ByteArray} (hA : SlS B w A xs) : St w0 w L ((B, A, xs) :: M) :=
  ⟨h.below, h.blk, h.dis, fun m hm => by
    rcases List.mem_cons.1 hm with rfl | hm
    · exact ⟨hB, hA⟩
    · exact h.lin m hm⟩
theorem St.add (h : St w0 w L M) {A : Option Addr} {xs : List ByteArray} (hA : SlS w0.heap.size w A xs) : St w0 w L ((w0.heap.size, A, xs) :: M) := h.addB (Nat.le_refl _) hA
theorem St.add0 (h : St w0 w L M) {A : Option Addr} {xs : List ByteArray} (hA : SlS 0 w A xs) : St w0 w L ((0, A, xs) :: M) := h.addB (Nat.zero_le _) hA
theorem St.call (h : St w0 w L M) (hb : Below w.heap.size w w') : St w0 w' L M :=
  ⟨h.below.trans (hb.mono h.below.size), fun i b hi => by
    obtain ⟨h1, h2, h3⟩ := h.blk i b hi
    exact ⟨h1, h2, (hb.block b.1 h3.lt).trans h3⟩, h.dis, fun m hm => ⟨(h.lin m hm).1, Sl.below (h.lin m hm).2 hb⟩⟩
theorem St.drew (h : St w0 w L M) : St w0 w.drew L M := ⟨h.below.drew, h.blk, h.dis, h.lin⟩
theorem St.drewN (h : St w0 w L M) (n : Nat) : St w0 (w.drewN n) L M := ⟨below_drewN h.below n, h.blk, h.dis, h.lin⟩
theorem St.new (h : St w0 w L M) (T : TypeId) (cs : Array Value) (hT : T ≠ 9) : St w0 (w.alloc (.cells cs T)) ((w.heap.size, T, cs) :: L) M :=
  ⟨h.below.alloc h.below.size _, fun i b hi => by
    cases i with
    | zero =>
      obtain rfl : (w.heap.size, T, cs) = b := by simpa using hi
      exact ⟨h.below.size, hT, heap_alloc_new w _⟩
    | succ i =>
      obtain ⟨h1, h2, h3⟩ := h.blk i b (by simpa using hi)
      exact ⟨h1, h2, (Below.heap_alloc w _ _ h3.lt).trans h3⟩,
   fun i j b c hi hj e => by
    cases i with
    | zero =>
      cases j with
      | zero => rfl
      | succ j =>
        obtain rfl : (w.heap.size, T, cs) = b := by simpa using hi
        have := (h.blk j c (by simpa using hj)).2.2.lt
        simp only at e
        omega
    | succ i =>
      cases j with
      | zero =>
        obtain rfl : (w.heap.size, T, cs) = c := by simpa using hj
        have := (h.blk i b (by simpa using hi)).2.2.lt
        simp only at e
        omega
      | succ j => rw [h.dis i j b c (by simpa using hi) (by simpa using hj) e],
   fun m hm => ⟨(h.lin m hm).1, Sl.alloc (h.lin m hm).2 _⟩⟩
/-- A block that is written, whatever its cells are then. -/
theorem St.wrote (h : St w0 w L M) {i : Nat} {g : Nat} {T : TypeId} {cs : Array Value} (hi : L[i]? = some (g, T, cs)) (cs' : Array Value) (hg : w.grownBy w' (some g)) (hb : Blk w' g T cs') : St w0 w' (L.set i (g, T, cs')) M := by
  obtain ⟨h1, h2, h3⟩ := h.blk i _ hi
  have hlt : i < L.length := (List.getElem?_eq_some_iff.1 hi).1
  have hfst : ∀ (j : Nat) (b : Bl), (L.set i (g, T, cs'))[j]? = some b → ∃ b', L[j]? = some b' ∧ b'.1 = b.1 := fun j b hj => by
    by_cases e : i = j
    · subst e
      rw [List.getElem?_set_self hlt] at hj
      exact ⟨_, hi, by injection hj with hj; rw [← hj]⟩
    · rw [List.getElem?_set_ne e] at hj
      exact ⟨b, hj, rfl⟩
  refine ⟨h.below.grown hg h.below.size (fun k e => by cases e; exact h1), fun j b hj => ?_, fun j k b c hj hk e => ?_, fun m hm => ?_⟩
  · by_cases e : i = j
    · subst e
      rw [List.getElem?_set_self hlt] at hj
      injection hj with hj
      subst hj
      exact ⟨h1, h2, hb⟩
    · rw [List.getElem?_set_ne e] at hj
      obtain ⟨k1, k2, k3⟩ := h.blk j b hj
      refine ⟨k1, k2, (hg.block b.1 k3.lt ?_).trans k3⟩
      intro e2
      injection e2 with e2
      exact e (h.dis i j _ b hi hj e2.symm)
  · obtain ⟨b', hb', eb⟩ := hfst j b hj
    obtain ⟨c', hc', ec⟩ := hfst k c hk
    exact h.dis j k b' c' hb' hc' (by rw [eb, ec, e])
  · exact ⟨(h.lin m hm).1, SlS.grown (h.lin m hm).2 hg (fun k e => by cases e; exact ⟨Nat.le_trans (h.lin m hm).1 h1, h3.notStr h2⟩)⟩
theorem Blk.set {w : World} {g : Nat} {T : TypeId} {cs : Array Value} (h : Blk w g T cs) (k : Nat) (v : Value) : Blk (w.setCell ⟨g, k, none⟩ v) g T (cs.setIfInBounds k v) := by
  simp [Blk, World.setCell, Array.getElem?_modify, show w.heap[g]? = _ from h]
theorem St.set (h : St w0 w L M) {i : Nat} {g : Nat} {T : TypeId} {cs : Array Value} (hi : L[i]? = some (g, T, cs)) (k : Nat) (v : Value) : St w0 (w.setCell ⟨g, k, none⟩ v) (L.set i (g, T, cs.setIfInBounds k v)) M :=
  h.wrote hi _ (grown_set (World.grownBy.refl w (some g)) (p := ⟨g, k, none⟩) rfl v) ((h.blk i _ hi).2.2.set k v)
theorem St.at_ (h : St w0 w L M) {i : Nat} {g : Nat} {T : TypeId} {cs : Array Value} (hi : L[i]? = some (g, T, cs)) : Blk w g T cs := (h.blk i _ hi).2.2
end
/-- Succeeds, as a step, at a list of operations alone. -/
theorem wpList_hd {P : Program} {ops : Array Oper} {Q : Exit → Act → World → Prop} {l : List Oper} {a : Act} {w : World} (h : wpList P ops Q l a w) : wpList P ops Q l a w := h
theorem ix0 {α : Type} {b : α} {l : List α} : (b :: l)[0]? = some b := rfl
theorem ix1 {α : Type} {a0 b : α} {l : List α} : (a0 :: b :: l)[1]? = some b := rfl
theorem ix2 {α : Type} {a0 a1 b : α} {l : List α} : (a0 :: a1 :: b :: l)[2]? = some b := rfl
theorem ix3 {α : Type} {a0 a1 a2 b : α} {l : List α} : (a0 :: a1 :: a2 :: b :: l)[3]? = some b := rfl
theorem ix4 {α : Type} {a0 a1 a2 a3 b : α} {l : List α} : (a0 :: a1 :: a2 :: a3 :: b :: l)[4]? = some b := rfl
theorem ix5 {α : Type} {a0 a1 a2 a3 a4 b : α} {l : List α} : (a0 :: a1 :: a2 :: a3 :: a4 :: b :: l)[5]? = some b := rfl
theorem ix6 {α : Type} {a0 a1 a2 a3 a4 a5 b : α} {l : List α} : (a0 :: a1 :: a2 :: a3 :: a4 :: a5 :: b :: l)[6]? = some b := rfl
theorem ix7 {α : Type} {a0 a1 a2 a3 a4 a5 a6 b : α} {l : List α} : (a0 :: a1 :: a2 :: a3 :: a4 :: a5 :: a6 :: b :: l)[7]? = some b := rfl
theorem ix8 {α : Type} {a0 a1 a2 a3 a4 a5 a6 a7 b : α} {l : List α} : (a0 :: a1 :: a2 :: a3 :: a4 :: a5 :: a6 :: a7 :: b :: l)[8]? = some b := rfl
theorem ix9 {α : Type} {a0 a1 a2 a3 a4 a5 a6 a7 a8 b : α} {l : List α} : (a0 :: a1 :: a2 :: a3 :: a4 :: a5 :: a6 :: a7 :: a8 :: b :: l)[9]? = some b := rfl
theorem ix10 {α : Type} {a0 a1 a2 a3 a4 a5 a6 a7 a8 a9 b : α} {l : List α} : (a0 :: a1 :: a2 :: a3 :: a4 :: a5 :: a6 :: a7 :: a8 :: a9 :: b :: l)[10]? = some b := rfl
theorem ix11 {α : Type} {a0 a1 a2 a3 a4 a5 a6 a7 a8 a9 a10 b : α} {l : List α} : (a0 :: a1 :: a2 :: a3 :: a4 :: a5 :: a6 :: a7 :: a8 :: a9 :: a10 :: b :: l)[11]? = some b := rfl
theorem ix12 {α : Type} {a0 a1 a2 a3 a4 a5 a6 a7 a8 a9 a10 a11 b : α} {l : List α} : (a0 :: a1 :: a2 :: a3 :: a4 :: a5 :: a6 :: a7 :: a8 :: a9 :: a10 :: a11 :: b :: l)[12]? = some b := rfl
theorem ix13 {α : Type} {a0 a1 a2 a3 a4 a5 a6 a7 a8 a9 a10 a11 a12 b : α} {l : List α} : (a0 :: a1 :: a2 :: a3 :: a4 :: a5 :: a6 :: a7 :: a8 :: a9 :: a10 :: a11 :: a12 :: b :: l)[13]? = some b := rfl
theorem ix14 {α : Type} {a0 a1 a2 a3 a4 a5 a6 a7 a8 a9 a10 a11 a12 a13 b : α} {l : List α} : (a0 :: a1 :: a2 :: a3 :: a4 :: a5 :: a6 :: a7 :: a8 :: a9 :: a10 :: a11 :: a12 :: a13 :: b :: l)[14]? = some b := rfl
theorem ix15 {α : Type} {a0 a1 a2 a3 a4 a5 a6 a7 a8 a9 a10 a11 a12 a13 a14 b : α} {l : List α} : (a0 :: a1 :: a2 :: a3 :: a4 :: a5 :: a6 :: a7 :: a8 :: a9 :: a10 :: a11 :: a12 :: a13 :: a14 :: b :: l)[15]? = some b := rfl
theorem ix16 {α : Type} {a0 a1 a2 a3 a4 a5 a6 a7 a8 a9 a10 a11 a12 a13 a14 a15 b : α} {l : List α} : (a0 :: a1 :: a2 :: a3 :: a4 :: a5 :: a6 :: a7 :: a8 :: a9 :: a10 :: a11 :: a12 :: a13 :: a14 :: a15 :: b :: l)[16]? = some b := rfl
theorem ix17 {α : Type} {a0 a1 a2 a3 a4 a5 a6 a7 a8 a9 a10 a11 a12 a13 a14 a15 a16 b : α} {l : List α} : (a0 :: a1 :: a2 :: a3 :: a4 :: a5 :: a6 :: a7 :: a8 :: a9 :: a10 :: a11 :: a12 :: a13 :: a14 :: a15 :: a16 :: b :: l)[17]? = some b := rfl
theorem ix18 {α : Type} {a0 a1 a2 a3 a4 a5 a6 a7 a8 a9 a10 a11 a12 a13 a14 a15 a16 a17 b : α} {l : List α} : (a0 :: a1 :: a2 :: a3 :: a4 :: a5 :: a6 :: a7 :: a8 :: a9 :: a10 :: a11 :: a12 :: a13 :: a14 :: a15 :: a16 :: a17 :: b :: l)[18]? = some b := rfl
theorem ix19 {α : Type} {a0 a1 a2 a3 a4 a5 a6 a7 a8 a9 a10 a11 a12 a13 a14 a15 a16 a17 a18 b : α} {l : List α} : (a0 :: a1 :: a2 :: a3 :: a4 :: a5 :: a6 :: a7 :: a8 :: a9 :: a10 :: a11 :: a12 :: a13 :: a14 :: a15 :: a16 :: a17 :: a18 :: b :: l)[19]? = some b := rfl

section
variable {P : Program} {w0 w : World} {L : List Bl} {M : List Ln} {ops : Array Oper} {rest : List Oper} {o : Oper} {a : Act} {Q : Exit → Act → World → Prop} {K : Act → World → Prop}
theorem run_box (T : TypeId) (v : Value) : (Instr.box T v).run P w = .ok (.pointer (some ⟨w.heap.size, 0, none⟩)) (w.alloc (.cells v.cells T)) := by
  simp only [Sem.run_bind, Instr.box, newVar, newRow, run_newObj_alloc, Sem.run_pure, Result.andThen_ok]
/-- A parameter's box, a composite literal's: a new block. -/
theorem wp_st_box (T : TypeId) (x : Operand) (ho : o.op = .box T x) (cs : Array Value) (hx : (a.eval x).cells = cs) (hT : T ≠ 9) (S : St w0 w L M)
    (h : ∀ g w', St w0 w' ((g, T, cs) :: L) M → K (a.put o.dst (.pointer (some ⟨g, 0, none⟩))) w') : o.wp P a w K Q := by
  unfold Oper.wp execOp
  simp only [ho, Sem.run_bind, run_box, Sem.run_pure, Result.andThen_ok, hx]
  exact h _ _ (S.new T cs hT)
theorem wp_st_alloc (T : TypeId) (ho : o.op = .alloc T) (z : Value) (hz : (P.info? T).map (·.zero) = some (some z)) (hT : T ≠ 9) (S : St w0 w L M)
    (h : ∀ g w', St w0 w' ((g, T, z.cells) :: L) M → K (a.put o.dst (.pointer (some ⟨g, 0, none⟩))) w') : o.wp P a w K Q := by
  have hz2 : (zeroValue T).run P w = .ok z w := by
    cases hq : P.info? T with
    | none => simp [hq] at hz
    | some i =>
      simp only [hq, Option.map_some, Option.some.injEq] at hz
      simp [zeroValue, typeInfo, hq, hz]
  unfold Oper.wp execOp
  simp only [ho, Sem.run_bind, Instr.alloc, hz2, newVar, newRow, run_newObj_alloc, Sem.run_pure, Result.andThen_ok]
  exact h _ _ (S.new T z.cells hT)
theorem wp_st_load (T : TypeId) (x : Operand) (ho : o.op = .load T x) (g : Nat) (hx : a.eval x = .pointer (some ⟨g, 0, none⟩)) (S : St w0 w L M) (i : Nat) (T' : TypeId) (cs : Array Value) (hi : L[i]? = some (g, T', cs))
    (d : TypeDesc) (hu : P.underlying T = some d) (hd : (match d with | .struct _ | .array _ _ => true | _ => false) = true) (hs : (P.info? T).map (·.size) = some cs.size)
    (h : K (a.put o.dst (.agg cs)) w) : o.wp P a w K Q := wp_load_row T x ho g hx T' cs (0, 0) d (S.at_ hi) hu hd hs h
/-- One cell of a block. -/
theorem wp_st_cell (T : TypeId) (x : Operand) (ho : o.op = .load T x) (g k : Nat) (hx : a.eval x = .pointer (some ⟨g, k, none⟩)) (S : St w0 w L M) (i : Nat) (T' : TypeId) (cs : Array Value) (hi : L[i]? = some (g, T', cs))
    (d : TypeDesc) (hu : P.underlying T = some d) (hd : (match d with | .struct _ | .array _ _ => true | _ => false) = false) (v : Value) (hv : cs[k]? = some v)
    (h : K (a.put o.dst v) w) : o.wp P a w K Q := by
  have hc : w.cell? ⟨g, k, none⟩ = some v := by rw [cell_of_row w g k cs T' (0, 0) (S.at_ hi)]; exact hv
  have hagg : (isAgg T).run P w = .ok false w := by
    unfold isAgg
    rw [Sem.run_bind, run_underlying hu w]
    cases d <;> simp_all
  have hl : (loadVar T ⟨g, k, none⟩).run P w = .ok v w := by
    simp [loadVar, Sem.run_bind, hagg, hc]
  unfold Oper.wp execOp
  simp only [ho, hx, Instr.loadAt, Instr.sureAddr, Sem.run_bind, Sem.run_pure, Result.andThen_ok, hl]
  exact h
theorem wp_st_store (T : TypeId) (x y : Operand) (ho : o.op = .store T x y) (g : Nat) (hx : a.eval x = .pointer (some ⟨g, 0, none⟩)) (S : St w0 w L M) (i : Nat) (T' : TypeId) (cs cs' : Array Value) (hi : L[i]? = some (g, T', cs))
    (hy : (a.eval y).cells = cs') (hs : (P.info? T).map (·.size) = some cs'.size) (hl : cs'.size = cs.size) (h1 : cs'.all (·.oneCell') = true)
    (h : ∀ w', St w0 w' (L.set i (g, T', cs')) M → K (a.put o.dst undef) w') : o.wp P a w K Q := by
  have hg := S.at_ hi
  have hst := run_storeCells_from (P := P) g T' cs'.toList 0 cs w hg (by simp [hl]) (fun v hv => by
    rw [Array.all_eq_true] at h1
    obtain ⟨j, hj, e⟩ := List.mem_iff_getElem.1 hv
    have := h1 j (by simpa using hj)
    rw [← e]
    simpa using this)
  simp only [List.take_zero, List.nil_append, Array.toArray_toList] at hst
  have hv : (storeVar T ⟨g, 0, none⟩ (a.eval y)).run P w = .ok () (w.setRow g cs') := by
    cases hq : P.info? T with
    | none => simp [hq] at hs
    | some i =>
      have hs' : i.size = cs'.size := by simpa [hq] using hs
      simp [storeVar, sizeOf, typeInfo, hq, hy, hs', hst]
  unfold Oper.wp execOp
  simp only [ho, hx, Instr.storeAt, Instr.sureAddr, Sem.run_bind, Sem.run_pure, Result.andThen_ok, hv]
  refine h _ (S.wrote hi cs' ⟨rfl, rfl, rfl, by simp [World.setRow], fun k _ hne => setRow_other w g k _ (fun e => hne (by rw [e]))⟩ ?_)
  exact setRow_heap w g _ _ T' _ hg
theorem wp_st_storec (T : TypeId) (x y : Operand) (ho : o.op = .store T x y) (g k : Nat) (hx : a.eval x = .pointer (some ⟨g, k, none⟩)) (S : St w0 w L M) (i : Nat) (T' : TypeId) (cs : Array Value) (hi : L[i]? = some (g, T', cs))
    (v : Value) (hy : a.eval y = v) (hs : (P.info? T).map (·.size) = some 1) (hl : k < cs.size) (h1 : v.oneCell' = true)
    (h : ∀ w', St w0 w' (L.set i (g, T', cs.setIfInBounds k v)) M → K (a.put o.dst undef) w') : o.wp P a w K Q := by
  have hg := S.at_ hi
  have hc : w.cell? ⟨g, k, none⟩ = some cs[k] := by rw [cell_of_row w g k cs T' (0, 0) hg]; exact Array.getElem?_eq_getElem hl
  have hf : w.frozen? ⟨g, k, none⟩ = false := frozen_of_row w g k cs T' hg
  have hcs : v.cells = #[v] := by cases v <;> simp_all [Value.cells, Value.oneCell']
  have hv : (storeVar T ⟨g, k, none⟩ v).run P w = .ok () (w.setCell ⟨g, k, none⟩ v) := by
    cases hq : P.info? T with
    | none => simp [hq] at hs
    | some i =>
      have hs' : i.size = 1 := by simpa [hq] using hs
      simp [storeVar, sizeOf, typeInfo, hq, hs', hcs, storeCells, add_zero, run_store P w _ v _ h1, hc, hf]
  unfold Oper.wp execOp
  simp only [ho, hx, hy, Instr.storeAt, Instr.sureAddr, Sem.run_bind, Sem.run_pure, Result.andThen_ok, hv]
  exact h _ (S.set hi k v)
theorem wpList_st_box (hgd : o.guard = none) (T : TypeId) (x : Operand) (ho : o.op = .box T x) (cs : Array Value) (hx : (a.eval x).cells = cs) (hT : T ≠ 9) (S : St w0 w L M)
    (h : ∀ g w', St w0 w' ((g, T, cs) :: L) M → wpList P ops Q rest (a.put o.dst (.pointer (some ⟨g, 0, none⟩))) w') : wpList P ops Q (o :: rest) a w :=
  wpList_plain hgd fun _ hK => wp_st_box T x ho cs hx hT S fun g w' S' => hK _ _ (h g w' S')
theorem wpList_st_alloc (hgd : o.guard = none) (T : TypeId) (ho : o.op = .alloc T) (z : Value) (hz : (P.info? T).map (·.zero) = some (some z)) (hT : T ≠ 9) (S : St w0 w L M)
    (h : ∀ g w', St w0 w' ((g, T, z.cells) :: L) M → wpList P ops Q rest (a.put o.dst (.pointer (some ⟨g, 0, none⟩))) w') : wpList P ops Q (o :: rest) a w :=
  wpList_plain hgd fun _ hK => wp_st_alloc T ho z hz hT S fun g w' S' => hK _ _ (h g w' S')
theorem wpList_st_load (hgd : o.guard = none) (T : TypeId) (x : Operand) (ho : o.op = .load T x) (g : Nat) (hx : a.eval x = .pointer (some ⟨g, 0, none⟩)) (S : St w0 w L M) (i : Nat) (T' : TypeId) (cs : Array Value) (hi : L[i]? = some (g, T', cs))
    (d : TypeDesc) (hu : P.underlying T = some d) (hd : (match d with | .struct _ | .array _ _ => true | _ => false) = true) (hs : (P.info? T).map (·.size) = some cs.size)
    (h : wpList P ops Q rest (a.put o.dst (.agg cs)) w) : wpList P ops Q (o :: rest) a w :=
  wpList_plain hgd fun _ hK => wp_st_load T x ho g hx S i T' cs hi d hu hd hs (hK _ _ h)
theorem wpList_st_cell (hgd : o.guard = none) (T : TypeId) (x : Operand) (ho : o.op = .load T x) (g k : Nat) (hx : a.eval x = .pointer (some ⟨g, k, none⟩)) (S : St w0 w L M) (i : Nat) (T' : TypeId) (cs : Array Value) (hi : L[i]? = some (g, T', cs))
    (d : TypeDesc) (hu : P.underlying T = some d) (hd : (match d with | .struct _ | .array _ _ => true | _ => false) = false) (v : Value) (hv : cs[k]? = some v)
    (h : wpList P ops Q rest (a.put o.dst v) w) : wpList P ops Q (o :: rest) a w :=
  wpList_plain hgd fun _ hK => wp_st_cell T x ho g k hx S i T' cs hi d hu hd v hv (hK _ _ h)
theorem wpList_st_store (hgd : o.guard = none) (T : TypeId) (x y : Operand) (ho : o.op = .store T x y) (g : Nat) (hx : a.eval x = .pointer (some ⟨g, 0, none⟩)) (S : St w0 w L M) (i : Nat) (T' : TypeId) (cs cs' : Array Value) (hi : L[i]? = some (g, T', cs))
    (hy : (a.eval y).cells = cs') (hs : (P.info? T).map (·.size) = some cs'.size) (hl : cs'.size = cs.size) (h1 : cs'.all (·.oneCell') = true)
    (h : ∀ w', St w0 w' (L.set i (g, T', cs')) M → wpList P ops Q rest (a.put o.dst undef) w') : wpList P ops Q (o :: rest) a w :=
  wpList_plain hgd fun _ hK => wp_st_store T x y ho g hx S i T' cs cs' hi hy hs hl h1 fun w' S' => hK _ _ (h w' S')
theorem wpList_st_storec (hgd : o.guard = none) (T : TypeId) (x y : Operand) (ho : o.op = .store T x y) (g k : Nat) (hx : a.eval x = .pointer (some ⟨g, k, none⟩)) (S : St w0 w L M) (i : Nat) (T' : TypeId) (cs : Array Value) (hi : L[i]? = some (g, T', cs))
    (v : Value) (hy : a.eval y = v) (hs : (P.info? T).map (·.size) = some 1) (hl : k < cs.size) (h1 : v.oneCell' = true)
    (h : ∀ w', St w0 w' (L.set i (g, T', cs.setIfInBounds k v)) M → wpList P ops Q rest (a.put o.dst undef) w') : wpList P ops Q (o :: rest) a w :=
  wpList_plain hgd fun _ hK => wp_st_storec T x y ho g k hx S i T' cs hi v hy hs hl h1 fun w' S' => hK _ _ (h w' S')
end
end Go.Proofs.Ytkggedmcdllnaaa
