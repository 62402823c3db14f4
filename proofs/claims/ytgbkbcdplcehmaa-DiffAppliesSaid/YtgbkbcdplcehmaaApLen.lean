/- How long a list can become by edits: plain. -/
import Derived.Test.YtgbkbcdplcehmaaEdLaw
namespace Go.Proofs.Ytgbkbcdplcehmaa
open Go.RowKit

theorem apGo_len (xs : List ByteArray) (m : Nat) : ∀ (l : List Ed) (first : Bool) (p : Nat) (out z : List ByteArray), p ≤ xs.length → (∀ e ∈ l, e.2.2.length ≤ m) → apGo xs l first p out = some z →
    z.length ≤ out.length + (xs.length - p) + l.length * m
  | [], first, p, out, z, hp, _, h => by
    simp only [apGo, Option.some.injEq] at h
    subst h
    simp
  | e :: r, first, p, out, z, hp, hm, h => by
    simp only [apGo] at h
    cases hb : edOk xs.length first p e with
    | false => rw [hb] at h; simp at h
    | true =>
      rw [hb] at h
      simp only [if_true] at h
      obtain ⟨_, f1, f2, f3, f4⟩ := edOk_true _ _ _ _ hb
      have ih := apGo_len xs m r false (e.1 + e.2.1).toNat _ z (by omega) (fun x hx => hm x (by simp [hx])) h
      have h0 := hm e (by simp)
      simp only [List.length_append, List.length_drop, List.length_take, List.length_cons] at ih ⊢
      rw [Nat.add_mul, Nat.one_mul]
      omega
theorem apR_len (xs : List ByteArray) (l : List EdA) (r : Option (List ByteArray)) (z : List ByteArray) (hr : apR xs (eds l) = r) (hz : r.getD [] = z) (hx : xs.length ≤ 60) (hl : l.length ≤ 60) (hs : ∀ e ∈ l, e.2.2.2.2.length ≤ 60) : z.length ≤ 100000 := by
  subst hz
  cases r with
  | none => simp
  | some z =>
    have h := apGo_len xs 60 (eds l) true 0 [] z (Nat.zero_le _) (fun e he => by
      simp only [eds, List.mem_map] at he
      obtain ⟨x, hx, rfl⟩ := he
      exact hs x hx) hr
    rw [eds_length] at h
    have h2 : l.length * 60 ≤ 60 * 60 := Nat.mul_le_mul_right 60 hl
    simp at h ⊢
    omega
end Go.Proofs.Ytgbkbcdplcehmaa
