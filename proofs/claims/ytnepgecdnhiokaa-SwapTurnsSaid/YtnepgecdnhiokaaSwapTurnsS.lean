/- SwapTurns: steps of its drawn region, and the rest of the law shared by all orders. -/
import Derived.Test.YtnepgecdnhiokaaAwake6
import Derived.Test.YtnepgecdnhiokaaSwapB
import Derived.Test.YtnepgecdnhiokaaHkC
namespace Go.Proofs.Ytnepgecdnhiokaa
open Go.RowKit

theorem hk_take {o : Oper} {ev : Operand → Value} {w : World} {g : Nat} {v0 v1 v2 : Value} (x : Operand) (ho : o.op = .load 24 x) (hx : ev x = .pointer (some ⟨g, 0, none⟩)) (h : Blk w g 24 #[v0, v1, v2]) :
    (execOp ev o).run Try.prog w = .ok (.value (.agg #[v0, v1, v2])) w := by
  unfold execOp
  simp only [ho, hx, Instr.loadAt, Instr.sureAddr, Sem.run_bind, Sem.run_pure, Result.andThen_ok, run_loadVar_row w g 24 24 #[v0, v1, v2] (0, 0) _ h Try.underlying24 rfl Try.hk_size]
theorem hk_store {w0 w : World} {L : List Bl} {M : List Ln} {o : Oper} {a : Act} {K : Act → World → Prop} {Q : Exit → Act → World → Prop} (x y : Operand) (ho : o.op = .store 24 x y) (g : Nat) (hx : a.eval x = .pointer (some ⟨g, 0, none⟩)) (v0 v1 v2 : Value) (hy : a.eval y = .agg #[v0, v1, v2]) (S : St w0 w L M) (i : Nat) (T : TypeId) (u0 u1 u2 : Value) (hi : L[i]? = some (g, T, #[u0, u1, u2]))
    (h0 : v0.oneCell' = true) (h1 : v1.oneCell' = true) (h2 : v2.oneCell' = true)
    (h : ∀ w', St w0 w' (L.set i (g, T, #[v0, v1, v2])) M → K (a.put o.dst undef) w') : o.wp Try.prog a w K Q :=
  wp_st_store 24 x y ho g hx S i T _ #[v0, v1, v2] hi (by rw [hy]; rfl) Try.hk_size rfl (by simp [h0, h1, h2]) h
theorem share {T : Type} {R : Act → World → Prop} {F : T} (P : (Act → World → Prop) → T → Prop) {G : Prop} (main : P R F → G) (rest : P R F) : G := main rest
theorem St.swap {w0 w : World} {L : List Bl} {M : List Ln} {a b : Bl} (h : St w0 w (a :: b :: L) M) : St w0 w (b :: a :: L) M := by
  have e : ∀ i, (b :: a :: L)[i]? = (a :: b :: L)[if i = 0 then 1 else if i = 1 then 0 else i]? := by
    intro i
    match i with
    | 0 => rfl
    | 1 => rfl
    | i + 2 => simp
  refine ⟨h.below, fun i c hc => h.blk _ c (by rw [← e]; exact hc), fun i j c c' hi hj hc => ?_, h.lin⟩
  have k := h.dis _ _ c c' (by rw [← e]; exact hi) (by rw [← e]; exact hj) hc
  split at k <;> split at k <;> (try split at k) <;> (try split at k) <;> omega
end Go.Proofs.Ytnepgecdnhiokaa
