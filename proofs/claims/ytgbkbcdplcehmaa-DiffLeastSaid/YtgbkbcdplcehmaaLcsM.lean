/- lcs.Many: how many lines two lists have in common. -/
import Derived.Test.YtgbkbcdplcehmaaLcsS
namespace Go.Proofs.Ytgbkbcdplcehmaa
open Go.RowKit


set_option maxHeartbeats 400000 in
theorem many_any (xs ys : List ByteArray) (A B : Option Addr) (c d : Nat) (w : World) (hA : SlS w.heap.size w A xs) (hB : SlS w.heap.size w B ys)
    (hn : xs.length ≤ 100000) (hm : ys.length ≤ 100000) :
    Calls Try.prog 22 #[.slice A xs.length c, .slice B ys.length d] w fun e w' => e = .returned (.int .i64 (tab xs ys 0 0)) ∧ Below w.heap.size w w' := by
  have hn1 : (0 : Int) < (xs.length : Int) + 1 := by omega
  have hm1 : (0 : Int) < (ys.length : Int) + 1 := by omega
  go_enter Try.func22, Try.ntmps22
  go_wp2_with (go_at_call 27; refine (rows_any xs ys A B c d w hA hB hn hm).mono ?_; rintro e w1 ⟨t, rfl, ⟨r, h1, h2⟩, hb⟩; have hc1 := h1.cell (k := 0) (by omega); have hc2 := (h2 0 (by omega)).cell (k := 0) (by omega); clear h2)
  go_ret
  exact ⟨rfl, hb⟩

theorem tab_comm (xs ys : List ByteArray) : tab ys xs 0 0 = tab xs ys 0 0 := by unfold tab; simp [Qm.lcs_comm ys xs]
theorem tab_self (xs : List ByteArray) : tab xs xs 0 0 = xs.length := by unfold tab; simp [Qm.lcs_self]
theorem tab_more (xs ys zs : List ByteArray) : tab xs (ys ++ xs ++ zs) 0 0 = xs.length := by
  unfold tab
  rw [List.drop_zero, List.drop_zero, Qm.lcs_more]
theorem tab_left (xs ys : List ByteArray) : tab xs ys 0 0 ≤ xs.length := by unfold tab; have := Qm.lcs_le_left xs ys; simp; omega
theorem tab_right_le (xs ys : List ByteArray) : tab xs ys 0 0 ≤ ys.length := by unfold tab; have := Qm.lcs_le_right xs ys; simp; omega
theorem tab_step (xs ys : List ByteArray) (s : ByteArray) : tab (xs ++ [s]) (ys ++ [s]) 0 0 = tab xs ys 0 0 + 1 := by unfold tab; simp [Qm.lcs_snoc_both]
theorem tab_grow (xs ys : List ByteArray) (s : ByteArray) : tab (xs ++ [s]) ys 0 0 = tab xs ys 0 0 ∨ tab (xs ++ [s]) ys 0 0 = tab xs ys 0 0 + 1 := by
  unfold tab
  have h := Qm.lcs_snoc_left xs ys s
  simp; omega
/-- lcs.Many of two lists that lay there when the world was w0; the answer under a name. -/
theorem many_at (xs ys : List ByteArray) (A B : Option Addr) (n m c d : Nat) (w0 w : World) (hb : Below w0.heap.size w0 w) (hA : SlS w.heap.size w A xs) (hB : SlS w.heap.size w B ys)
    (hn : xs.length ≤ 100000) (hm : ys.length ≤ 100000) (k : Int) (hk : tab xs ys 0 0 = k) (h1 : n = xs.length) (h2 : m = ys.length) :
    Calls Try.prog 22 #[.slice A n c, .slice B m d] w fun e w' => e = .returned (.int .i64 k) ∧ Below w0.heap.size w0 w' ∧ Below w.heap.size w w' := by
  subst hk h1 h2
  exact (many_any xs ys A B c d w hA hB hn hm).mono fun e w' ⟨h1, h2⟩ => ⟨h1, hb.trans (h2.mono hb.size), h2⟩
end Go.Proofs.Ytgbkbcdplcehmaa
