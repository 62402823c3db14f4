/- Edits in memory, and the closure that diff.Edits calls at each pair: diff.Edits$1. -/
import Derived.Deep.RegionHeld3
import Derived.Test.YtkggedmcdllnaaaMm
import Derived.Test.YtkggedmcdllnaaaClone
namespace Go.Proofs.Ytkggedmcdllnaaa
open Go.RowKit

section
variable {lo : Nat} {w : World} {P Q : World → Prop}
theorem Frs.iff (h : Frs lo P w) (hR : ∀ w, P w ↔ Q w) : Frs lo Q w := by
  obtain ⟨D, k1, k2, k3⟩ := h
  exact ⟨D, fun w w' hd hs hr => (hR w').1 (k1 w w' hd hs ((hR w).2 hr)), k2, (hR w).1 k3⟩
theorem SlX.congr {A : Option Addr} {n : Nat} {f f' : Nat → Value} (he : ∀ j, j < n → f j = f' j) (w : World) : SlX A n f w ↔ SlX A n f' w := by
  constructor
  · rintro ⟨h, hv⟩
    refine ⟨h, fun hn => ?_⟩
    obtain ⟨ad, e, hb, hc⟩ := hv hn
    exact ⟨ad, e, hb, fun j hj => by rw [hc j hj, he j hj]⟩
  · rintro ⟨h, hv⟩
    refine ⟨h, fun hn => ?_⟩
    obtain ⟨ad, e, hb, hc⟩ := hv hn
    exact ⟨ad, e, hb, fun j hj => by rw [hc j hj, he j hj]⟩
/-- Lines of the call's own, read. -/
theorem Frs.own_ln {base : Nat} {v : Value} {xs : List ByteArray} (h : w.ownsRow base 9 1 v xs.length (scs xs)) (hl : xs.length ≤ 9223372036854775807) :
    ∃ A c, v = .slice A xs.length c ∧ xs.length ≤ c ∧ c ≤ 9223372036854775807 ∧ Frs base (LnX A xs) w := by
  obtain ⟨A, c, rfl, h1, h2, h3⟩ := Frs.of_own h (by rw [scs_length]; exact hl)
  rw [scs_length] at h3
  exact ⟨A, c, rfl, h1, h2, h3.iff fun w => SlX.congr (fun j hj => by simp [scs, List.getD_eq_getElem?_getD, List.getElem?_eq_getElem hj, sAt_lt hj]) w⟩
end

/-- An edit in memory: At, Old, where New lies, its capacity, New. -/
abbrev EdA := Int × Int × Option Addr × Nat × List ByteArray
def ecs (l : List EdA) : List Value := l.flatMap fun e => [.int .i64 e.1, .int .i64 e.2.1, .slice e.2.2.1 e.2.2.2.2.length e.2.2.2.1]
def eds (l : List EdA) : List (Int × Int × List ByteArray) := l.map fun e => (e.1, e.2.1, e.2.2.2.2)
def News (l : List EdA) (w : World) : Prop := ∀ e ∈ l, LnX e.2.2.1 e.2.2.2.2 w
theorem ecs_length (l : List EdA) : (ecs l).length = l.length * 3 := by
  induction l with
  | nil => rfl
  | cons e l ih => simp only [ecs, List.flatMap_cons, List.length_append, List.length_cons, List.length_nil] at ih ⊢; omega
theorem ecs_snoc (l : List EdA) (e : EdA) : ecs (l ++ [e]) = ecs l ++ [.int .i64 e.1, .int .i64 e.2.1, .slice e.2.2.1 e.2.2.2.2.length e.2.2.2.1] := by simp [ecs]
theorem news_snoc (l : List EdA) (e : EdA) (w : World) : LnX e.2.2.1 e.2.2.2.2 w ∧ News l w ↔ News (l ++ [e]) w := by
  unfold News
  constructor
  · rintro ⟨h1, h2⟩ x hx
    rcases List.mem_append.1 hx with hx | hx
    · exact h2 x hx
    · obtain rfl : x = e := by simpa using hx
      exact h1
  · intro h
    exact ⟨h e (by simp), fun x hx => h x (by simp [hx])⟩
theorem eds_snoc (l : List EdA) (e : EdA) : eds (l ++ [e]) = eds l ++ [(e.1, e.2.1, e.2.2.2.2)] := by simp [eds]
theorem eds_length (l : List EdA) : (eds l).length = l.length := by simp [eds]
/-- The edit that stands ahead of a pair, if any. -/
def edStep (ys : List ByteArray) (i j p q : Nat) : List (Int × Int × List ByteArray) := if i < p ∨ j < q then [((i : Int), (p : Int) - (i : Int), (ys.drop j).take (q - j))] else []

theorem Try.info_edit : (Try.prog.info? 52).map (fun i => (i.zero, i.size, i.bytes)) = some (some (.agg #[.int .i64 0, .int .i64 0, .slice none 0 0]), 3, 40) := by kernel_rfl
theorem cells3_new (w : World) (T : TypeId) (v0 v1 v2 : Value) : (⟨w.heap.size, 0, none⟩ : Addr).block < (w.alloc (.cells #[v0, v1, v2] T)).heap.size ∧ (w.alloc (.cells #[v0, v1, v2] T)).cell? ((⟨w.heap.size, 0, none⟩ : Addr).add 0) = some v0 ∧
    (w.alloc (.cells #[v0, v1, v2] T)).cell? ((⟨w.heap.size, 0, none⟩ : Addr).add 1) = some v1 ∧ (w.alloc (.cells #[v0, v1, v2] T)).cell? ((⟨w.heap.size, 0, none⟩ : Addr).add 2) = some v2 := by
  have h := fun j => cell_of_row _ _ j _ _ (0, 0) (heap_alloc_new w (.cells #[v0, v1, v2] T))
  refine ⟨by rw [World.size_alloc]; exact Nat.lt_succ_self _, ?_, ?_, ?_⟩
  · rw [add_plain, h]; rfl
  · rw [add_plain, h]; rfl
  · rw [add_plain, h]; rfl
/-- append of one edit, as a step of a region that draws its order. -/
theorem step_ed_append {ops : Array Oper} {w0 w : World} {L : List Bl} {M : List Mf} {o : Oper} {a : Act} {Q : Exit → Act → World → Prop} {K : Act → World → Prop} {X : Prop} (hg : o.guard = none) (s x : Operand) (t : TypeId)
    (ho : o.op = .call { callee := .builtin .append, args := #[s, x], argTypes := #[t, t] }) (ht : Try.prog.underlying t = some (.slice 52))
    (v : Value) (hs : a.eval s = v) (l : List EdA) (R : Rw w0 w L M 52 3 v l.length (ecs l)) (ad : Addr) (c : Nat) (hx : a.eval x = .slice (some ad) 1 c) (e : EdA)
    (hc : ad.block < w.heap.size ∧ w.cell? (ad.add 0) = some (.int .i64 e.1) ∧ w.cell? (ad.add 1) = some (.int .i64 e.2.1) ∧ w.cell? (ad.add 2) = some (.slice e.2.2.1 e.2.2.2.2.length e.2.2.2.1))
    (hl : l.length ≤ 1000000)
    (h : ∀ v' w', Rw w0 w' L M 52 3 v' (l ++ [e]).length (ecs (l ++ [e])) → K (a.put o.dst v') w') :
    if Region.wanted o (yielded ops a.tmps) = true then Oper.wp Try.prog o a w K Q else X := by
  obtain ⟨L', S, own, hL⟩ := R
  rw [if_pos (by simp [Region.wanted, hg])]
  refine wp_append_sl s x t ho w0.heap.size 52 _ 3 40 ht Try.info_edit rfl (by decide) v l.length (ecs l) hs own (some ad) 1 c 52 w.heap.size
    (fun j => if j = 0 then .int .i64 e.1 else if j = 1 then .int .i64 e.2.1 else .slice e.2.2.1 e.2.2.2.2.length e.2.2.2.1) hx ⟨by omega, fun _ => ⟨ad, rfl, hc.1, .inl hc.1, fun j hj => ?_⟩⟩ (fun j => ?_) (by simp only [maxLen]; omega) (by omega) S.below.size ?_
  · have h3 : j = 0 ∨ j = 1 ∨ j = 2 := by omega
    rcases h3 with rfl | rfl | rfl
    · exact hc.2.1
    · exact hc.2.2.1
    · exact hc.2.2.2
  · by_cases h0 : j = 0 <;> by_cases h1 : j = 1 <;> simp [h0, h1, Value.oneCell']
  · intro v' w' own' hgr hv
    have e1 : ecs l ++ (List.range (1 * 3)).map (fun j => if j = 0 then Value.int .i64 e.1 else if j = 1 then .int .i64 e.2.1 else .slice e.2.2.1 e.2.2.2.2.length e.2.2.2.1) = ecs (l ++ [e]) := by rw [ecs_snoc]; rfl
    rw [e1] at own'
    have e2 : (l ++ [e]).length = l.length + 1 := by simp
    obtain ⟨L'', S', hL'⟩ := S.row hL hgr own' hv
    exact h v' w' ⟨L'', S', by rw [e2]; exact own', hL'⟩
end Go.Proofs.Ytkggedmcdllnaaa
