/- Laws for the walk over the words of memory: copy between two rows of the call's own, append, make. No function of the program. -/
import Derived.Laws.CopyOwn
import Derived.Laws.AppendOwnNone
import Derived.Deep.OwnRows
import Derived.OwnWalk
import Derived.Maps.AppendAt
import Derived.Test.YtkggedmcdllnaaaWord
import Derived.Test.YtkggedmcdllnaaaProg
namespace Go.Proofs.Ytkggedmcdllnaaa
open Go.RowKit Go.Deep
section
variable {P : Program} {w : World} {ops : Array Oper} {rest : List Oper} {o : Oper} {a : Act} {Q : Exit → Act → World → Prop}

/-- copy of a whole row over another one of the same length. -/
theorem wpList_copy_rows (hgd : o.guard = none) (d s : Operand) (dT sT : TypeId)
    (ho : o.op = .call { callee := .builtin .copy, args := #[d, s], argTypes := #[dT, sT] }) (elem : TypeId) (hu : P.underlying dT = some (.slice elem)) (hsz : (P.info? elem).map (·.size) = some 1)
    (g g' n c c' : Nat) (T : TypeId) (f f' : Nat → Value) (hd : a.eval d = .slice (some ⟨g, 0, none⟩) n c) (hs : a.eval s = .slice (some ⟨g', 0, none⟩) n c')
    (hr : Row w g T n f) (hr' : Row w g' T n f') (h1 : ∀ k, (f' k).oneCell' = true)
    (h : ∀ w', Row w' g T n f' → w.grownBy w' (some g) → wpList P ops Q rest (a.put o.dst (goInt n)) w') : wpList P ops Q (o :: rest) a w := by
  obtain ⟨cs, hc1, hc2, hc3⟩ := hr
  have hl : ((List.range n).map f').length = n := by simp
  have hk := wpList_copy_own (P := P) (w := w) (ops := ops) (rest := rest) (o := o) (a := a) (Q := Q) hgd d s dT sT ho elem hu hsz g 0 n c ⟨g', 0, none⟩ n c' hd hs cs T hc1 ((List.range n).map f')
    (by rw [hl]; exact (Nat.min_self n).symm)
    (fun j v hj => by
      rw [List.getElem?_map] at hj
      obtain ⟨i, hi, rfl⟩ := Option.map_eq_some_iff.1 hj
      obtain ⟨hlt, rfl⟩ := List.getElem?_eq_some_iff.1 hi
      rw [add_plain]
      have hjn : j < n := by simpa using hlt
      simpa using hr'.cell hjn)
    (by rw [hl, hc2]; omega) (fun v hv => by
      obtain ⟨i, _, rfl⟩ := List.mem_map.1 hv
      exact h1 i)
  rw [hl] at hk
  refine hk (h _ ⟨_, setRow_heap w g _ _ T _ hc1, ?_, ?_⟩ ⟨rfl, rfl, rfl, by simp [World.setRow], fun k _ hne => setRow_other w g k _ (fun e => hne (by rw [e]))⟩)
  · simp [hc2]
  · intro k hk2
    have hkl : k < ((List.range n).map f').length := by simpa using hk2
    simp only [List.take_zero, List.nil_append, List.getElem?_toArray]
    rw [List.getElem?_append_left hkl]
    simp [hk2]

/-- Nothing is appended where the source has no element. -/
theorem run_append_empty (base : Nat) (t ty e : TypeId) (i : TypeInfo) (size : Nat) (ht : P.underlying t = some (.slice e)) (hi : P.info? e = some i)
    (v : Value) (n : Nat) (xs : List Value) (hown : w.ownsRow base e size v n xs) (c : Nat) : (Builtin.append_ #[t, t] ty #[v, .slice none 0 c]).run P w = .ok v w := by
  rcases hown.2 with ⟨rfl, rfl⟩ | ⟨g, cap, cur, rfl, _, _, hnc, _⟩
  · simp [Builtin.append_, run_underlying ht, sizeOf, typeInfo, hi, Builtin.lenOf, Builtin.firstCells]
  · simp [Builtin.append_, run_underlying ht, sizeOf, typeInfo, hi, Builtin.lenOf, Builtin.firstCells, hnc, storeCells]

/-- append(v, x...): v a row of the call's own, x whatever slice is read. -/
theorem run_append_sl (base : Nat) (t ty e : TypeId) (i : TypeInfo) (z : Value) (size bytes : Nat) (ht : P.underlying t = some (.slice e)) (hi : P.info? e = some i) (hz : i.zero = some z)
    (hsize : i.size = size) (hby : i.bytes = bytes) (hzs : z.cells.size = size) (hsz : 0 < size)
    (v : Value) (n : Nat) (xs : List Value) (hown : w.ownsRow base e size v n xs)
    (A : Option Addr) (m c : Nat) (T B : Nat) (f : Nat → Value) (hsl : Sl T B w A (m * size) f) (h1 : ∀ j, (f j).oneCell' = true)
    (h63 : n + m ≤ maxLen) (hbytes : (n + m) * bytes ≤ 140737488355328) (hbase : base ≤ w.heap.size) :
    ∃ v' w', (Builtin.append_ #[t, t] ty #[v, .slice A m c]).run P w = .ok v' w' ∧ w'.ownsRow base e size v' (n + m) (xs ++ (List.range (m * size)).map f) ∧ w.grownBy w' v.ownBlock ∧
      (v'.ownBlock = v.ownBlock ∨ v'.ownBlock = some w.heap.size) := by
  rcases Nat.eq_zero_or_pos m with h0 | h0
  · subst h0
    rcases A with _ | ad
    · exact ⟨v, w, run_append_empty base t ty e i size ht hi v n xs hown c, by simpa using hown, World.grownBy.refl w _, .inl rfl⟩
    · obtain ⟨v', w', hr, h2, h3, _, h5⟩ := run_append_own_at (P := P) w base t ty e i z size bytes ht hi hz hsize hby hzs hsz v n xs hown ad 0 c [] (by simp) (by simp) (by simp) h63 hbytes hbase
      exact ⟨v', w', hr, by simpa using h2, h3, h5⟩
  · obtain ⟨ad, rfl, _, _, hv⟩ := hsl.2 (Nat.mul_pos h0 hsz)
    obtain ⟨v', w', hr, h2, h3, _, h5⟩ := run_append_own_at (P := P) w base t ty e i z size bytes ht hi hz hsize hby hzs hsz v n xs hown ad m c ((List.range (m * size)).map f) (by simp)
      (fun j u hu => by
        rw [List.getElem?_map] at hu
        obtain ⟨k, hk, rfl⟩ := Option.map_eq_some_iff.1 hu
        obtain ⟨hlt, rfl⟩ := List.getElem?_eq_some_iff.1 hk
        have hjn : j < m * size := by simpa using hlt
        simpa using hv j hjn)
      (fun u hu => by
        obtain ⟨k, _, rfl⟩ := List.mem_map.1 hu
        exact h1 k) h63 hbytes hbase
    exact ⟨v', w', hr, h2, h3, h5⟩

theorem wp_append_sl {K : Act → World → Prop} (s x : Operand) (t : TypeId)
    (ho : o.op = .call { callee := .builtin .append, args := #[s, x], argTypes := #[t, t] })
    (base : Nat) (e : TypeId) (z : Value) (size bytes : Nat) (ht : P.underlying t = some (.slice e)) (hinfo : (P.info? e).map (fun i => (i.zero, i.size, i.bytes)) = some (some z, size, bytes)) (hzs : z.cells.size = size) (hsz : 0 < size)
    (v : Value) (n : Nat) (xs : List Value) (hs : a.eval s = v) (hown : w.ownsRow base e size v n xs)
    (A : Option Addr) (m c : Nat) (T B : Nat) (f : Nat → Value) (hx : a.eval x = .slice A m c) (hsl : Sl T B w A (m * size) f) (h1 : ∀ j, (f j).oneCell' = true)
    (h63 : n + m ≤ maxLen) (hbytes : (n + m) * bytes ≤ 140737488355328) (hbase : base ≤ w.heap.size)
    (h : ∀ v' w', w'.ownsRow base e size v' (n + m) (xs ++ (List.range (m * size)).map f) → w.grownBy w' v.ownBlock → (v'.ownBlock = v.ownBlock ∨ v'.ownBlock = some w.heap.size) → K (a.put o.dst v') w') : o.wp P a w K Q := by
  obtain ⟨i, hi, hz0, hz1, hz2⟩ := info_parts hinfo
  obtain ⟨v', w', hrun, h2, h3, h4⟩ := run_append_sl (P := P) (w := w) base t o.type e i z size bytes ht hi hz0 hz1 hz2 hzs hsz v n xs hown A m c T B f hsl h1 h63 hbytes hbase
  unfold Oper.wp execOp
  simp only [ho, resolve, invoke, builtin, Sem.run_bind, Sem.run_pure, Result.andThen_ok, List.map_toArray, List.map_cons, List.map_nil, hs, hx, hrun]
  exact h v' w' h2 h3 h4

theorem wpList_append_sl (hgd : o.guard = none) (s x : Operand) (t : TypeId)
    (ho : o.op = .call { callee := .builtin .append, args := #[s, x], argTypes := #[t, t] })
    (base : Nat) (e : TypeId) (z : Value) (size bytes : Nat) (ht : P.underlying t = some (.slice e)) (hinfo : (P.info? e).map (fun i => (i.zero, i.size, i.bytes)) = some (some z, size, bytes)) (hzs : z.cells.size = size) (hsz : 0 < size)
    (v : Value) (n : Nat) (xs : List Value) (hs : a.eval s = v) (hown : w.ownsRow base e size v n xs)
    (A : Option Addr) (m c : Nat) (T B : Nat) (f : Nat → Value) (hx : a.eval x = .slice A m c) (hsl : Sl T B w A (m * size) f) (h1 : ∀ j, (f j).oneCell' = true)
    (h63 : n + m ≤ maxLen) (hbytes : (n + m) * bytes ≤ 140737488355328) (hbase : base ≤ w.heap.size)
    (h : ∀ v' w', w'.ownsRow base e size v' (n + m) (xs ++ (List.range (m * size)).map f) → w.grownBy w' v.ownBlock → (v'.ownBlock = v.ownBlock ∨ v'.ownBlock = some w.heap.size) → wpList P ops Q rest (a.put o.dst v') w') : wpList P ops Q (o :: rest) a w :=
  wpList_plain hgd fun _ hK => wp_append_sl s x t ho base e z size bytes ht hinfo hzs hsz v n xs hs hown A m c T B f hx hsl h1 h63 hbytes hbase fun v' w' h2 h3 h4 => hK _ _ (h v' w' h2 h3 h4)
end

/-- The cells of lines. -/
def scs (l : List ByteArray) : List Value := l.map Value.string
theorem scs_length (l : List ByteArray) : (scs l).length = l.length := by simp [scs]
theorem scs_range (l : List ByteArray) : (List.range (l.length * 1)).map (fun j => Value.string (sAt l j)) = scs l := by
  rw [Nat.mul_one]
  apply List.ext_getElem
  · simp [scs]
  · intro j h1 h2
    have hj : j < l.length := by simpa using h1
    simp [scs, sAt_lt hj]
theorem scs_append (l m : List ByteArray) : scs l ++ scs m = scs (l ++ m) := by simp [scs]
theorem SlS.of_own {w : World} {base B : Nat} {v : Value} {n : Nat} {l : List ByteArray} (h : w.ownsRow base 9 1 v n (scs l)) (hl : l.length ≤ 9223372036854775807) :
    ∃ A c, v = .slice A l.length c ∧ l.length ≤ c ∧ c ≤ 9223372036854775807 ∧ SlS B w A l := by
  have hn : n = l.length := by have := h.1; rw [scs_length] at this; omega
  subst hn
  obtain ⟨A, c, rfl, h1, h2, h3⟩ := Sl.of_own (B := B) h (by rw [scs_length]; exact hl)
  rw [scs_length] at h3
  exact ⟨A, c, rfl, h1, h2, h3.congr fun k hk => by
    simp [scs, List.getD_eq_getElem?_getD, List.getElem?_eq_getElem hk, sAt_lt hk]⟩
theorem Try.info_str : (Try.prog.info? 9).map (fun i => (i.zero, i.size, i.bytes)) = some (some (.string ByteArray.empty), 1, 16) := by kernel_rfl

section
variable {w w0 : World} {ops : Array Oper} {rest : List Oper} {o : Oper} {a : Act} {Q : Exit → Act → World → Prop}
/-- append of lines onto lines of the call's own. -/
theorem wpList_append_strs (hgd : o.guard = none) (s x : Operand) (t : TypeId) (ho : o.op = .call { callee := .builtin .append, args := #[s, x], argTypes := #[t, t] })
    (ht : Try.prog.underlying t = some (.slice 9)) (base : Nat) (v : Value) (n : Nat) (l : List ByteArray) (hs : a.eval s = v) (hown : w.ownsRow base 9 1 v n (scs l))
    (A : Option Addr) (k c : Nat) (m : List ByteArray) (B : Nat) (hx : a.eval x = .slice A k c) (hk : k = m.length) (hsl : SlS B w A m) (hl : l.length + m.length ≤ 8000000000000) (hbase : base ≤ w.heap.size) (hB : Below base w0 w)
    (h : ∀ v' w', w'.ownsRow base 9 1 v' (l ++ m).length (scs (l ++ m)) → Below base w0 w' → w.grownBy w' v.ownBlock → wpList Try.prog ops Q rest (a.put o.dst v') w') : wpList Try.prog ops Q (o :: rest) a w := by
  subst hk
  have hn : n = l.length := by have := hown.1; rw [scs_length] at this; omega
  subst hn
  refine wpList_append_sl hgd s x t ho base 9 _ 1 16 ht Try.info_str rfl (by decide) v l.length (scs l) hs hown A m.length c 9 B _ hx hsl.one (fun _ => rfl) (by simp only [maxLen]; omega) (by omega) hbase ?_
  intro v' w' h1 h2 _
  rw [scs_range, scs_append] at h1
  rw [← List.length_append] at h1
  exact h v' w' h1 (hB.grown h2 hbase (fun g hg => (hown.lt g hg).1)) h2
end
end Go.Proofs.Ytkggedmcdllnaaa
