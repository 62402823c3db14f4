/- Rows that a call has made, to be appended to; lines appended to nothing. -/
import Derived.Test.YtkggedmcdllnaaaEdits
import Derived.Deep.RegionHeld3
import Derived.WalkMore
import Derived.Deep.QuietTactic
import Derived.BigQuiet
import Derived.Deep.LoopGhost
namespace Go.Proofs.Ytkggedmcdllnaaa
open Go.RowKit

section
variable {w0 w w' : World} {L : List Bl} {M : List Mf} {E size n : Nat} {v : Value} {xs : List Value}
theorem Rw.of_call (h : Sm w0 w L M) (hb : Below w.heap.size w w') (own : w'.ownsRow w.heap.size E size v n xs) : Rw w0 w' L M E size v n xs := by
  have own0 : w'.ownsRow w0.heap.size E size v n xs := by
    rcases own.2 with ⟨h1, h2⟩ | ⟨g, cap, cur, h1, hg, hr⟩
    · exact ⟨own.1, .inl ⟨h1, h2⟩⟩
    · exact ⟨own.1, .inr ⟨g, cap, cur, h1, Nat.le_trans h.below.size hg, hr⟩⟩
  rcases own.2 with ⟨rfl, rfl⟩ | ⟨g, cap, cur, rfl, hg, hh, _⟩
  · exact ⟨[], by simpa using h.call hb, own0, fun g e => by simp [Value.ownBlock] at e⟩
  · have ev : (Value.slice (some ⟨g, 0, none⟩) n cap).ownBlock = some g := rfl
    have h0 := h.call hb
    have hget : ∀ (i : Nat) (b : Bl), (L ++ [(g, E, cur)])[i]? = some b → L[i]? = some b ∨ (i = L.length ∧ b = (g, E, cur)) := fun i b hi => by
      by_cases hlt : i < L.length
      · rw [List.getElem?_append_left hlt] at hi; exact .inl hi
      · have hlt2 := (List.getElem?_eq_some_iff.1 hi).1
        simp at hlt2
        have : i = L.length := by omega
        subst this
        simp at hi
        exact .inr ⟨rfl, hi.symm⟩
    have hne : ∀ (i : Nat) (b : Bl), L[i]? = some b → b.1 ≠ g := fun i b hi e => by
      have := (h.blk i b hi).2.lt
      omega
    refine ⟨[(g, E, cur)], ⟨h0.below, fun i b hi => ?_, fun i j b c hi hj e => ?_, fun m hm => ?_⟩, own0, fun g' e => ⟨cur, by rw [ev] at e; injection e with e; rw [e]⟩⟩
    · rcases hget i b hi with hi | ⟨_, rfl⟩
      · exact h0.blk i b hi
      · exact ⟨Nat.le_trans h.below.size hg, hh⟩
    · rcases hget i b hi with hi | ⟨rfl, rfl⟩ <;> rcases hget j c hj with hj | ⟨rfl, rfl⟩
      · exact h0.dis i j b c hi hj e
      · exact absurd e (hne i b hi)
      · exact absurd e.symm (hne j c hj)
      · rfl
    · obtain ⟨D, k1, k2, k3⟩ := h.mem m hm
      refine ⟨D, k1, fun d hd => ⟨⟨(k2 d hd).1.1, Nat.lt_of_lt_of_le (k2 d hd).1.2 hb.size⟩, fun i b hi => ?_⟩, k1 w w' (fun d hd => hb.block d (k2 d hd).1.2) hb.size k3⟩
      rcases hget i b hi with hi | ⟨_, rfl⟩
      · exact (k2 d hd).2 i b hi
      · have := (k2 d hd).1.2
        simp only
        omega
end
theorem below_of_grown {w w' : World} (h : w.grownBy w' none) : Below w.heap.size w w' := ⟨h.os, h.tape, h.output, h.size, fun i hi => h.block i hi (by simp)⟩
section
variable {w0 w : World} {L : List Bl} {M : List Mf} {ops : Array Oper} {rest : List Oper} {o : Oper} {a : Act} {Q : Exit → Act → World → Prop} {K : Act → World → Prop} {E size n : Nat} {v : Value} {xs : List Value}
/-- append of lines to nothing: a copy. -/
theorem wp_strs_nil (s x : Operand) (t : TypeId) (ho : o.op = .call { callee := .builtin .append, args := #[s, x], argTypes := #[t, t] }) (ht : Try.prog.underlying t = some (.slice 9))
    (hs : a.eval s = .slice none 0 0) (R : Rw w0 w L M E size v n xs) (A : Option Addr) (k c : Nat) (m : List ByteArray) (hx : a.eval x = .slice A k c) (hk : k = m.length) (hsl : SlS w.heap.size w A m) (hl : m.length ≤ 8000000000000)
    (h : ∀ A' c' w', Rw w0 w' L ((w0.heap.size, LnX A' m) :: M) E size v n xs → K (a.put o.dst (.slice A' m.length c')) w') : o.wp Try.prog a w K Q := by
  subst hk
  refine wp_append_sl s x t ho w.heap.size 9 _ 1 16 ht Try.info_str rfl (by decide) (.slice none 0 0) 0 (scs []) hs (World.ownsRow_nil _ _ _ _) A m.length c 9 w.heap.size _ hx hsl.one (fun _ => rfl) (by simp only [maxLen]; omega) (by omega) (Nat.le_refl _) ?_
  intro v' w' own' hgr _
  rw [scs_range, scs_append, List.nil_append, Nat.zero_add] at own'
  have hb := below_of_grown hgr
  obtain ⟨A', c', rfl, -, -, hF⟩ := Frs.own_ln own' (by omega)
  exact h A' c' w' (R.made hb hF)
theorem step_strs_nil {X : Prop} (hg : o.guard = none) (s x : Operand) (t : TypeId) (ho : o.op = .call { callee := .builtin .append, args := #[s, x], argTypes := #[t, t] }) (ht : Try.prog.underlying t = some (.slice 9))
    (hs : a.eval s = .slice none 0 0) (R : Rw w0 w L M E size v n xs) (A : Option Addr) (k c : Nat) (m : List ByteArray) (hx : a.eval x = .slice A k c) (hk : k = m.length) (hsl : SlS w.heap.size w A m) (hl : m.length ≤ 8000000000000)
    (h : ∀ A' c' w', Rw w0 w' L ((w0.heap.size, LnX A' m) :: M) E size v n xs → K (a.put o.dst (.slice A' m.length c')) w') : if Region.wanted o (yielded ops a.tmps) = true then Oper.wp Try.prog o a w K Q else X := by
  rw [if_pos (by simp [Region.wanted, hg])]
  exact wp_strs_nil s x t ho ht hs R A k c m hx hk hsl hl h
end
end Go.Proofs.Ytkggedmcdllnaaa
