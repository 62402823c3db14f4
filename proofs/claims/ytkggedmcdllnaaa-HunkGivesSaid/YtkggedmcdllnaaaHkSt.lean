/- Hunks in the one word for memory: box, make, read and write one. -/
import Derived.Test.YtkggedmcdllnaaaBk
import Derived.Test.YtkggedmcdllnaaaHk
import Derived.Test.YtkggedmcdllnaaaLight
namespace Go.Proofs.Ytkggedmcdllnaaa
open Go.RowKit

theorem Try.hk_size : (Try.prog.info? 24).map (·.size) = some 3 := by kernel_rfl
theorem Try.hk_zero : (Try.prog.info? 24).map (·.zero) = some (some (.agg #[.int .i64 0, .slice none 0 0, .slice none 0 0])) := by kernel_rfl
theorem Try.hk_not : 24 ≠ 9 := by decide
section
variable {w0 w w' : World} {L : List Bl} {M : List Ln} {ops : Array Oper} {rest : List Oper} {o : Oper} {a : Act} {Q : Exit → Act → World → Prop}
theorem wpList_hk_box (hgd : o.guard = none) (x : Operand) (ho : o.op = .box 24 x) (v0 v1 v2 : Value) (hx : a.eval x = .agg #[v0, v1, v2]) (S : St w0 w L M)
    (h : ∀ g w', St w0 w' ((g, 24, #[v0, v1, v2]) :: L) M → wpList Try.prog ops Q rest (a.put o.dst (.pointer (some ⟨g, 0, none⟩))) w') : wpList Try.prog ops Q (o :: rest) a w :=
  wpList_st_box hgd _ x ho _ (by rw [hx]; rfl) Try.hk_not S h
theorem wpList_hk_alloc (hgd : o.guard = none) (ho : o.op = .alloc 24) (S : St w0 w L M)
    (h : ∀ g w', St w0 w' ((g, 24, #[.int .i64 0, .slice none 0 0, .slice none 0 0]) :: L) M → wpList Try.prog ops Q rest (a.put o.dst (.pointer (some ⟨g, 0, none⟩))) w') : wpList Try.prog ops Q (o :: rest) a w :=
  wpList_st_alloc hgd _ ho _ Try.hk_zero Try.hk_not S h
theorem wpList_hk_load (hgd : o.guard = none) (x : Operand) (ho : o.op = .load 24 x) (g : Nat) (hx : a.eval x = .pointer (some ⟨g, 0, none⟩)) (S : St w0 w L M) (i : Nat) (T : TypeId) (v0 v1 v2 : Value) (hi : L[i]? = some (g, T, #[v0, v1, v2]))
    (h : wpList Try.prog ops Q rest (a.put o.dst (.agg #[v0, v1, v2])) w) : wpList Try.prog ops Q (o :: rest) a w :=
  wpList_st_load hgd _ x ho g hx S i T _ hi _ Try.underlying24 rfl Try.hk_size h
theorem wpList_hk_store (hgd : o.guard = none) (x y : Operand) (ho : o.op = .store 24 x y) (g : Nat) (hx : a.eval x = .pointer (some ⟨g, 0, none⟩)) (v0 v1 v2 : Value) (hy : a.eval y = .agg #[v0, v1, v2]) (S : St w0 w L M) (i : Nat) (T : TypeId) (u0 u1 u2 : Value) (hi : L[i]? = some (g, T, #[u0, u1, u2]))
    (h0 : v0.oneCell' = true) (h1 : v1.oneCell' = true) (h2 : v2.oneCell' = true)
    (h : ∀ w', St w0 w' (L.set i (g, T, #[v0, v1, v2])) M → wpList Try.prog ops Q rest (a.put o.dst undef) w') : wpList Try.prog ops Q (o :: rest) a w :=
  wpList_st_store hgd _ x y ho g hx S i T _ #[v0, v1, v2] hi (by rw [hy]; rfl) Try.hk_size rfl (by simp [h0, h1, h2]) h
/-- One field of a hunk. -/
theorem wpList_hk_field (hgd : o.guard = none) (t : TypeId) (x : Operand) (ho : o.op = .load t x) (ht : t = 3 ∨ t = 22) (g k : Nat) (hx : a.eval x = .pointer (some ⟨g, k, none⟩)) (S : St w0 w L M) (i : Nat) (T : TypeId) (cs : Array Value) (hi : L[i]? = some (g, T, cs)) (v : Value) (hv : cs[k]? = some v)
    (h : wpList Try.prog ops Q rest (a.put o.dst v) w) : wpList Try.prog ops Q (o :: rest) a w := by
  rcases ht with rfl | rfl
  · exact wpList_st_cell hgd _ x ho g k hx S i T cs hi _ Try.underlying3 rfl v hv h
  · exact wpList_st_cell hgd _ x ho g k hx S i T cs hi _ Try.underlying22 rfl v hv h
/-- The same where a guard stands ahead that says yes. -/
theorem wpList_hk_loadg (hw : Region.wanted o (yielded ops a.tmps) = true) (x : Operand) (ho : o.op = .load 24 x) (g : Nat) (hx : a.eval x = .pointer (some ⟨g, 0, none⟩)) (S : St w0 w L M) (i : Nat) (T : TypeId) (v0 v1 v2 : Value) (hi : L[i]? = some (g, T, #[v0, v1, v2]))
    (h : wpList Try.prog ops Q rest (a.put o.dst (.agg #[v0, v1, v2])) w) : wpList Try.prog ops Q (o :: rest) a w :=
  wpList_step fun K hK => by
    rw [if_pos hw]
    exact wp_st_load _ x ho g hx S i T _ hi _ Try.underlying24 rfl Try.hk_size (hK _ _ h)
theorem wpList_hk_fieldg (hw : Region.wanted o (yielded ops a.tmps) = true) (t : TypeId) (x : Operand) (ho : o.op = .load t x) (ht : t = 3 ∨ t = 22) (g k : Nat) (hx : a.eval x = .pointer (some ⟨g, k, none⟩)) (S : St w0 w L M) (i : Nat) (T : TypeId) (cs : Array Value) (hi : L[i]? = some (g, T, cs)) (v : Value) (hv : cs[k]? = some v)
    (h : wpList Try.prog ops Q rest (a.put o.dst v) w) : wpList Try.prog ops Q (o :: rest) a w :=
  wpList_step fun K hK => by
    rw [if_pos hw]
    rcases ht with rfl | rfl
    · exact wp_st_cell _ x ho g k hx S i T cs hi _ Try.underlying3 rfl v hv (hK _ _ h)
    · exact wp_st_cell _ x ho g k hx S i T cs hi _ Try.underlying22 rfl v hv (hK _ _ h)
theorem St.cell (S : St w0 w L M) {i g : Nat} {T : TypeId} {cs : Array Value} (hi : L[i]? = some (g, T, cs)) (k : Nat) {v : Value} (hv : cs[k]? = some v) : w.cell? ⟨g, k, none⟩ = some v := by
  rw [cell_of_row w g k cs T (0, 0) (S.at_ hi)]; exact hv
theorem St.hk (S : St w0 w L M) {i g : Nat} {v0 v1 v2 : Value} (hi : L[i]? = some (g, 24, #[v0, v1, v2])) : HkAt w g v0 v1 v2 :=
  ⟨_, S.at_ hi, rfl, fun k hk => by
    have h : k = 0 ∨ k = 1 ∨ k = 2 := by omega
    rcases h with rfl | rfl | rfl <;> rfl⟩
theorem St.ne (S : St w0 w L M) {i j g g' : Nat} {T T' : TypeId} {cs cs' : Array Value} (hi : L[i]? = some (g, T, cs)) (hj : L[j]? = some (g', T', cs')) (hij : i ≠ j) : ¬ g = g' := fun e => hij (S.dis i j _ _ hi hj e)
theorem St.ln (S : St w0 w L M) {B : Nat} {A : Option Addr} {xs : List ByteArray} (h : (B, A, xs) ∈ M) : SlS w.heap.size w A xs := Sl.mono (S.lin _ h).2 (Nat.le_trans (S.lin _ h).1 S.below.size)
theorem St.lw (S : St w0 w L M) {B : Nat} {A : Option Addr} {xs : List ByteArray} (h : (B, A, xs) ∈ M) : SlS w0.heap.size w A xs := Sl.mono (S.lin _ h).2 (S.lin _ h).1
theorem St.ln0 (S : St w0 w L M) {B : Nat} {A : Option Addr} {xs : List ByteArray} (h : (B, A, xs) ∈ M) : SlS B w A xs := (S.lin _ h).2
theorem St.setHk (S : St w0 w L M) {i g : Nat} {T : TypeId} {u0 u1 u2 : Value} (hi : L[i]? = some (g, T, #[u0, u1, u2])) (v0 v1 v2 : Value) :
    St w0 (((w.setCell ⟨g, 0, none⟩ v0).setCell ⟨g, 1, none⟩ v1).setCell ⟨g, 2, none⟩ v2) (L.set i (g, T, #[v0, v1, v2])) M := by
  have hlt : i < L.length := (List.getElem?_eq_some_iff.1 hi).1
  have s1 := S.set hi 0 v0
  have s2 := s1.set (List.getElem?_set_self hlt) 1 v1
  have s3 := s2.set (List.getElem?_set_self (by simpa using hlt)) 2 v2
  rw [List.set_set, List.set_set] at s3
  exact s3
end
theorem run_str1 (w : World) (x : ByteArray) : (Instr.buildSlice 22 1 #[(0, .string x)]).run Try.prog w = .ok (.slice (some ⟨w.heap.size, 0, none⟩) 1 1) (w.alloc (.cells #[.string x] 9)) := by simp [go_sem]
theorem St.str1 {w0 w : World} {L : List Bl} {M : List Ln} (S : St w0 w L M) (x : ByteArray) : St w0 (w.alloc (.cells #[.string x] 9)) L ((0, some ⟨w.heap.size, 0, none⟩, [x]) :: M) :=
  (S.call ((Below.refl _ w).alloc (Nat.le_refl _) _)).add0 (SlS.lit 0 w [x] _ rfl (by simp))
/-- A list of one line, written out. -/
theorem wpList_str1 {w0 w : World} {L : List Bl} {M : List Ln} {ops : Array Oper} {rest : List Oper} {o : Oper} {a : Act} {Q : Exit → Act → World → Prop} (hgd : o.guard = none) (x : ByteArray) (ho : o.op = .buildSlice 22 1 #[(0, .const (.string x))]) (S : St w0 w L M)
    (h : ∀ g w', St w0 w' L ((0, some ⟨g, 0, none⟩, [x]) :: M) → wpList Try.prog ops Q rest (a.put o.dst (.slice (some ⟨g, 0, none⟩) 1 1)) w') : wpList Try.prog ops Q (o :: rest) a w :=
  wpList_plain hgd fun _ hK => by
    unfold Oper.wp execOp
    simp only [ho, Sem.run_bind, List.map_toArray, List.map_cons, List.map_nil, Act.eval, run_str1, Sem.run_pure, Result.andThen_ok]
    exact hK _ _ (h _ _ (S.str1 x))
theorem mm0 {α : Type} {b : α} {l : List α} : b ∈ b :: l := .head _
theorem mm1 {α : Type} {a0 b : α} {l : List α} : b ∈ a0 :: b :: l := .tail _ mm0
theorem mm2 {α : Type} {a0 a1 b : α} {l : List α} : b ∈ a0 :: a1 :: b :: l := .tail _ mm1
theorem mm3 {α : Type} {a0 a1 a2 b : α} {l : List α} : b ∈ a0 :: a1 :: a2 :: b :: l := .tail _ mm2
theorem mm4 {α : Type} {a0 a1 a2 a3 b : α} {l : List α} : b ∈ a0 :: a1 :: a2 :: a3 :: b :: l := .tail _ mm3
theorem mm5 {α : Type} {a0 a1 a2 a3 a4 b : α} {l : List α} : b ∈ a0 :: a1 :: a2 :: a3 :: a4 :: b :: l := .tail _ mm4
theorem mm6 {α : Type} {a0 a1 a2 a3 a4 a5 b : α} {l : List α} : b ∈ a0 :: a1 :: a2 :: a3 :: a4 :: a5 :: b :: l := .tail _ mm5
theorem mm7 {α : Type} {a0 a1 a2 a3 a4 a5 a6 b : α} {l : List α} : b ∈ a0 :: a1 :: a2 :: a3 :: a4 :: a5 :: a6 :: b :: l := .tail _ mm6
theorem mm8 {α : Type} {a0 a1 a2 a3 a4 a5 a6 a7 b : α} {l : List α} : b ∈ a0 :: a1 :: a2 :: a3 :: a4 :: a5 :: a6 :: a7 :: b :: l := .tail _ mm7
theorem mm9 {α : Type} {a0 a1 a2 a3 a4 a5 a6 a7 a8 b : α} {l : List α} : b ∈ a0 :: a1 :: a2 :: a3 :: a4 :: a5 :: a6 :: a7 :: a8 :: b :: l := .tail _ mm8
theorem mm10 {α : Type} {a0 a1 a2 a3 a4 a5 a6 a7 a8 a9 b : α} {l : List α} : b ∈ a0 :: a1 :: a2 :: a3 :: a4 :: a5 :: a6 :: a7 :: a8 :: a9 :: b :: l := .tail _ mm9
theorem mm11 {α : Type} {a0 a1 a2 a3 a4 a5 a6 a7 a8 a9 a10 b : α} {l : List α} : b ∈ a0 :: a1 :: a2 :: a3 :: a4 :: a5 :: a6 :: a7 :: a8 :: a9 :: a10 :: b :: l := .tail _ mm10
theorem mm12 {α : Type} {a0 a1 a2 a3 a4 a5 a6 a7 a8 a9 a10 a11 b : α} {l : List α} : b ∈ a0 :: a1 :: a2 :: a3 :: a4 :: a5 :: a6 :: a7 :: a8 :: a9 :: a10 :: a11 :: b :: l := .tail _ mm11
theorem mm13 {α : Type} {a0 a1 a2 a3 a4 a5 a6 a7 a8 a9 a10 a11 a12 b : α} {l : List α} : b ∈ a0 :: a1 :: a2 :: a3 :: a4 :: a5 :: a6 :: a7 :: a8 :: a9 :: a10 :: a11 :: a12 :: b :: l := .tail _ mm12
theorem mm14 {α : Type} {a0 a1 a2 a3 a4 a5 a6 a7 a8 a9 a10 a11 a12 a13 b : α} {l : List α} : b ∈ a0 :: a1 :: a2 :: a3 :: a4 :: a5 :: a6 :: a7 :: a8 :: a9 :: a10 :: a11 :: a12 :: a13 :: b :: l := .tail _ mm13
theorem mm15 {α : Type} {a0 a1 a2 a3 a4 a5 a6 a7 a8 a9 a10 a11 a12 a13 a14 b : α} {l : List α} : b ∈ a0 :: a1 :: a2 :: a3 :: a4 :: a5 :: a6 :: a7 :: a8 :: a9 :: a10 :: a11 :: a12 :: a13 :: a14 :: b :: l := .tail _ mm14
theorem mm16 {α : Type} {a0 a1 a2 a3 a4 a5 a6 a7 a8 a9 a10 a11 a12 a13 a14 a15 b : α} {l : List α} : b ∈ a0 :: a1 :: a2 :: a3 :: a4 :: a5 :: a6 :: a7 :: a8 :: a9 :: a10 :: a11 :: a12 :: a13 :: a14 :: a15 :: b :: l := .tail _ mm15
theorem mm17 {α : Type} {a0 a1 a2 a3 a4 a5 a6 a7 a8 a9 a10 a11 a12 a13 a14 a15 a16 b : α} {l : List α} : b ∈ a0 :: a1 :: a2 :: a3 :: a4 :: a5 :: a6 :: a7 :: a8 :: a9 :: a10 :: a11 :: a12 :: a13 :: a14 :: a15 :: a16 :: b :: l := .tail _ mm16
theorem mm18 {α : Type} {a0 a1 a2 a3 a4 a5 a6 a7 a8 a9 a10 a11 a12 a13 a14 a15 a16 a17 b : α} {l : List α} : b ∈ a0 :: a1 :: a2 :: a3 :: a4 :: a5 :: a6 :: a7 :: a8 :: a9 :: a10 :: a11 :: a12 :: a13 :: a14 :: a15 :: a16 :: a17 :: b :: l := .tail _ mm17
theorem mm19 {α : Type} {a0 a1 a2 a3 a4 a5 a6 a7 a8 a9 a10 a11 a12 a13 a14 a15 a16 a17 a18 b : α} {l : List α} : b ∈ a0 :: a1 :: a2 :: a3 :: a4 :: a5 :: a6 :: a7 :: a8 :: a9 :: a10 :: a11 :: a12 :: a13 :: a14 :: a15 :: a16 :: a17 :: a18 :: b :: l := .tail _ mm18
theorem mm20 {α : Type} {a0 a1 a2 a3 a4 a5 a6 a7 a8 a9 a10 a11 a12 a13 a14 a15 a16 a17 a18 a19 b : α} {l : List α} : b ∈ a0 :: a1 :: a2 :: a3 :: a4 :: a5 :: a6 :: a7 :: a8 :: a9 :: a10 :: a11 :: a12 :: a13 :: a14 :: a15 :: a16 :: a17 :: a18 :: a19 :: b :: l := .tail _ mm19
theorem mm21 {α : Type} {a0 a1 a2 a3 a4 a5 a6 a7 a8 a9 a10 a11 a12 a13 a14 a15 a16 a17 a18 a19 a20 b : α} {l : List α} : b ∈ a0 :: a1 :: a2 :: a3 :: a4 :: a5 :: a6 :: a7 :: a8 :: a9 :: a10 :: a11 :: a12 :: a13 :: a14 :: a15 :: a16 :: a17 :: a18 :: a19 :: a20 :: b :: l := .tail _ mm20
theorem mm22 {α : Type} {a0 a1 a2 a3 a4 a5 a6 a7 a8 a9 a10 a11 a12 a13 a14 a15 a16 a17 a18 a19 a20 a21 b : α} {l : List α} : b ∈ a0 :: a1 :: a2 :: a3 :: a4 :: a5 :: a6 :: a7 :: a8 :: a9 :: a10 :: a11 :: a12 :: a13 :: a14 :: a15 :: a16 :: a17 :: a18 :: a19 :: a20 :: a21 :: b :: l := .tail _ mm21
theorem mm23 {α : Type} {a0 a1 a2 a3 a4 a5 a6 a7 a8 a9 a10 a11 a12 a13 a14 a15 a16 a17 a18 a19 a20 a21 a22 b : α} {l : List α} : b ∈ a0 :: a1 :: a2 :: a3 :: a4 :: a5 :: a6 :: a7 :: a8 :: a9 :: a10 :: a11 :: a12 :: a13 :: a14 :: a15 :: a16 :: a17 :: a18 :: a19 :: a20 :: a21 :: a22 :: b :: l := .tail _ mm22
theorem mm24 {α : Type} {a0 a1 a2 a3 a4 a5 a6 a7 a8 a9 a10 a11 a12 a13 a14 a15 a16 a17 a18 a19 a20 a21 a22 a23 b : α} {l : List α} : b ∈ a0 :: a1 :: a2 :: a3 :: a4 :: a5 :: a6 :: a7 :: a8 :: a9 :: a10 :: a11 :: a12 :: a13 :: a14 :: a15 :: a16 :: a17 :: a18 :: a19 :: a20 :: a21 :: a22 :: a23 :: b :: l := .tail _ mm23
theorem mm25 {α : Type} {a0 a1 a2 a3 a4 a5 a6 a7 a8 a9 a10 a11 a12 a13 a14 a15 a16 a17 a18 a19 a20 a21 a22 a23 a24 b : α} {l : List α} : b ∈ a0 :: a1 :: a2 :: a3 :: a4 :: a5 :: a6 :: a7 :: a8 :: a9 :: a10 :: a11 :: a12 :: a13 :: a14 :: a15 :: a16 :: a17 :: a18 :: a19 :: a20 :: a21 :: a22 :: a23 :: a24 :: b :: l := .tail _ mm24
theorem mm26 {α : Type} {a0 a1 a2 a3 a4 a5 a6 a7 a8 a9 a10 a11 a12 a13 a14 a15 a16 a17 a18 a19 a20 a21 a22 a23 a24 a25 b : α} {l : List α} : b ∈ a0 :: a1 :: a2 :: a3 :: a4 :: a5 :: a6 :: a7 :: a8 :: a9 :: a10 :: a11 :: a12 :: a13 :: a14 :: a15 :: a16 :: a17 :: a18 :: a19 :: a20 :: a21 :: a22 :: a23 :: a24 :: a25 :: b :: l := .tail _ mm25
theorem mm27 {α : Type} {a0 a1 a2 a3 a4 a5 a6 a7 a8 a9 a10 a11 a12 a13 a14 a15 a16 a17 a18 a19 a20 a21 a22 a23 a24 a25 a26 b : α} {l : List α} : b ∈ a0 :: a1 :: a2 :: a3 :: a4 :: a5 :: a6 :: a7 :: a8 :: a9 :: a10 :: a11 :: a12 :: a13 :: a14 :: a15 :: a16 :: a17 :: a18 :: a19 :: a20 :: a21 :: a22 :: a23 :: a24 :: a25 :: a26 :: b :: l := .tail _ mm26
theorem mm28 {α : Type} {a0 a1 a2 a3 a4 a5 a6 a7 a8 a9 a10 a11 a12 a13 a14 a15 a16 a17 a18 a19 a20 a21 a22 a23 a24 a25 a26 a27 b : α} {l : List α} : b ∈ a0 :: a1 :: a2 :: a3 :: a4 :: a5 :: a6 :: a7 :: a8 :: a9 :: a10 :: a11 :: a12 :: a13 :: a14 :: a15 :: a16 :: a17 :: a18 :: a19 :: a20 :: a21 :: a22 :: a23 :: a24 :: a25 :: a26 :: a27 :: b :: l := .tail _ mm27
theorem mm29 {α : Type} {a0 a1 a2 a3 a4 a5 a6 a7 a8 a9 a10 a11 a12 a13 a14 a15 a16 a17 a18 a19 a20 a21 a22 a23 a24 a25 a26 a27 a28 b : α} {l : List α} : b ∈ a0 :: a1 :: a2 :: a3 :: a4 :: a5 :: a6 :: a7 :: a8 :: a9 :: a10 :: a11 :: a12 :: a13 :: a14 :: a15 :: a16 :: a17 :: a18 :: a19 :: a20 :: a21 :: a22 :: a23 :: a24 :: a25 :: a26 :: a27 :: a28 :: b :: l := .tail _ mm28
theorem mm30 {α : Type} {a0 a1 a2 a3 a4 a5 a6 a7 a8 a9 a10 a11 a12 a13 a14 a15 a16 a17 a18 a19 a20 a21 a22 a23 a24 a25 a26 a27 a28 a29 b : α} {l : List α} : b ∈ a0 :: a1 :: a2 :: a3 :: a4 :: a5 :: a6 :: a7 :: a8 :: a9 :: a10 :: a11 :: a12 :: a13 :: a14 :: a15 :: a16 :: a17 :: a18 :: a19 :: a20 :: a21 :: a22 :: a23 :: a24 :: a25 :: a26 :: a27 :: a28 :: a29 :: b :: l := .tail _ mm29
theorem mm31 {α : Type} {a0 a1 a2 a3 a4 a5 a6 a7 a8 a9 a10 a11 a12 a13 a14 a15 a16 a17 a18 a19 a20 a21 a22 a23 a24 a25 a26 a27 a28 a29 a30 b : α} {l : List α} : b ∈ a0 :: a1 :: a2 :: a3 :: a4 :: a5 :: a6 :: a7 :: a8 :: a9 :: a10 :: a11 :: a12 :: a13 :: a14 :: a15 :: a16 :: a17 :: a18 :: a19 :: a20 :: a21 :: a22 :: a23 :: a24 :: a25 :: a26 :: a27 :: a28 :: a29 :: a30 :: b :: l := .tail _ mm30
theorem mm32 {α : Type} {a0 a1 a2 a3 a4 a5 a6 a7 a8 a9 a10 a11 a12 a13 a14 a15 a16 a17 a18 a19 a20 a21 a22 a23 a24 a25 a26 a27 a28 a29 a30 a31 b : α} {l : List α} : b ∈ a0 :: a1 :: a2 :: a3 :: a4 :: a5 :: a6 :: a7 :: a8 :: a9 :: a10 :: a11 :: a12 :: a13 :: a14 :: a15 :: a16 :: a17 :: a18 :: a19 :: a20 :: a21 :: a22 :: a23 :: a24 :: a25 :: a26 :: a27 :: a28 :: a29 :: a30 :: a31 :: b :: l := .tail _ mm31
theorem mm33 {α : Type} {a0 a1 a2 a3 a4 a5 a6 a7 a8 a9 a10 a11 a12 a13 a14 a15 a16 a17 a18 a19 a20 a21 a22 a23 a24 a25 a26 a27 a28 a29 a30 a31 a32 b : α} {l : List α} : b ∈ a0 :: a1 :: a2 :: a3 :: a4 :: a5 :: a6 :: a7 :: a8 :: a9 :: a10 :: a11 :: a12 :: a13 :: a14 :: a15 :: a16 :: a17 :: a18 :: a19 :: a20 :: a21 :: a22 :: a23 :: a24 :: a25 :: a26 :: a27 :: a28 :: a29 :: a30 :: a31 :: a32 :: b :: l := .tail _ mm32
theorem mm34 {α : Type} {a0 a1 a2 a3 a4 a5 a6 a7 a8 a9 a10 a11 a12 a13 a14 a15 a16 a17 a18 a19 a20 a21 a22 a23 a24 a25 a26 a27 a28 a29 a30 a31 a32 a33 b : α} {l : List α} : b ∈ a0 :: a1 :: a2 :: a3 :: a4 :: a5 :: a6 :: a7 :: a8 :: a9 :: a10 :: a11 :: a12 :: a13 :: a14 :: a15 :: a16 :: a17 :: a18 :: a19 :: a20 :: a21 :: a22 :: a23 :: a24 :: a25 :: a26 :: a27 :: a28 :: a29 :: a30 :: a31 :: a32 :: a33 :: b :: l := .tail _ mm33
theorem mm35 {α : Type} {a0 a1 a2 a3 a4 a5 a6 a7 a8 a9 a10 a11 a12 a13 a14 a15 a16 a17 a18 a19 a20 a21 a22 a23 a24 a25 a26 a27 a28 a29 a30 a31 a32 a33 a34 b : α} {l : List α} : b ∈ a0 :: a1 :: a2 :: a3 :: a4 :: a5 :: a6 :: a7 :: a8 :: a9 :: a10 :: a11 :: a12 :: a13 :: a14 :: a15 :: a16 :: a17 :: a18 :: a19 :: a20 :: a21 :: a22 :: a23 :: a24 :: a25 :: a26 :: a27 :: a28 :: a29 :: a30 :: a31 :: a32 :: a33 :: a34 :: b :: l := .tail _ mm34

/-- quiltmakerlaw05.Light. -/
def light5 (xs ys : List ByteArray) : Bool := light xs 300 && light ys 300
theorem light_mem {xs : List ByteArray} {most : Int} (h : light xs most = true) : ∀ x ∈ xs, x.size ≤ 9223372036854775807 := by
  simp only [light, Bool.and_eq_true, decide_eq_true_eq, List.all_eq_true, List.mem_range] at h
  intro x hx
  obtain ⟨j, hj, e⟩ := List.mem_iff_getElem.1 hx
  have := h.2 j hj
  rw [sAt_lt hj, e] at this
  omega
theorem light5_out {xs ys : List ByteArray} (h : light5 xs ys = true) : xs.length ≤ 300 ∧ ys.length ≤ 300 ∧ (∀ x ∈ xs, x.size ≤ 9223372036854775807) ∧ (∀ x ∈ ys, x.size ≤ 9223372036854775807) := by
  simp only [light5, Bool.and_eq_true] at h
  have h1 := light_len h.1
  have h2 := light_len h.2
  exact ⟨by omega, by omega, light_mem h.1, light_mem h.2⟩
theorem light5_any (p : Int) (xs ys : List ByteArray) (A B : Option Addr) (c d : Nat) (w : World) (hA : SlS w.heap.size w A xs) (hB : SlS w.heap.size w B ys) :
    Calls Try.prog 10 #[.agg #[.int .i64 p, .slice A xs.length c, .slice B ys.length d]] w fun e w' => e = .returned (.bool (light5 xs ys)) ∧ Below w.heap.size w w' := by
  have S := ((St.start w).add hA).add hB
  obtain ⟨b1, h1⟩ : ∃ b, light xs 300 = b := ⟨_, rfl⟩
  obtain ⟨b2, h2⟩ : ∃ b, light ys 300 = b := ⟨_, rfl⟩
  have H1 := Kp.mk h1
  have H2 := Kp.mk h2
  have HC : Kp (light5 xs ys = (b1 && b2)) := ⟨by unfold light5; rw [h1, h2]⟩
  clear h1 h2
  cases b1 <;> cases b2
  all_goals
    go_enter Try.func10, Try.ntmps10
    go_wp2_with (first
      | (refine wpList_hk_box rfl _ rfl _ _ _ rfl S ?_; clear S; intro g w1 S)
      | (refine wpList_hk_field rfl _ _ rfl (by first | exact Or.inl rfl | exact Or.inr rfl) _ _ rfl S _ _ _ (by first | exact ix0 | exact ix1) _ rfl ?_)
      | (go_at_call_of 9 A; refine (light_any xs A _ 300 _ (S.ln mm1)).mono ?_; rintro e w2 ⟨rfl, rfl⟩; rw [H1.out])
      | (go_at_call_of 9 B; refine (light_any ys B _ 300 _ (S.ln mm0)).mono ?_; rintro e w2 ⟨rfl, rfl⟩; rw [H2.out]))
    go_ret
    exact ⟨ret_bool (by rw [HC.out]; rfl), S.below⟩
end Go.Proofs.Ytkggedmcdllnaaa
