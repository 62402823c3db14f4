/- Layer 6: two hunks that pass one another do the same to a list: plain law. -/
import Derived.Test.YtnepgecdnhiokaaApply
import Derived.Test.YtnepgecdnhiokaaSeqPl
import Derived.Test.YtnepgecdnhiokaaSwapB
namespace Go.Proofs.Ytnepgecdnhiokaa
open Go.RowKit

theorem ap_mid {P m S n : List ByteArray} {p : Int} (h : hMay p m n = true) (hp : p = P.length) : apE (P ++ m ++ S) p m n = 0 ∧ apL (P ++ m ++ S) p m n = P ++ n ++ S := by
  obtain ⟨h1, h2⟩ := ap_yes h (stands_mid P m S p hp)
  exact ⟨h1, by rw [h2, swpR_mid P m S n p hp]⟩
theorem app_split {P A Q B : List ByteArray} (h : P ++ A = Q ++ B) (hl : P.length ≤ Q.length) : ∃ G, Q = P ++ G ∧ A = G ++ B := by
  rcases List.append_eq_append_iff.1 h with ⟨G, h1, h2⟩ | ⟨G, h1, h2⟩
  · exact ⟨G, h1, h2⟩
  · have : G = [] := by
      have := congrArg List.length h1
      simp at this
      exact List.eq_nil_of_length_eq_zero (by omega)
    subst this
    exact ⟨[], by simpa using h1.symm, by simpa using h2.symm⟩
theorem passX_same {l xs ys us vs : List ByteArray} {p q : Int} {z : Int × Int} (h : passX p xs ys q us vs = some z) (h1 : apE l p xs ys = 0) (h2 : apE (apL l p xs ys) q us vs = 0) :
    apE l (q + z.2) us vs = 0 ∧ apE (apL l (q + z.2) us vs) (p + z.1) xs ys = 0 ∧ apL (apL l (q + z.2) us vs) (p + z.1) xs ys = apL (apL l p xs ys) q us vs := by
  obtain ⟨m1, m2, hz⟩ := passX_out h
  obtain ⟨⟨a1, a2⟩, -⟩ := hMay_out m1
  obtain ⟨⟨a3, a4⟩, -⟩ := hMay_out m2
  obtain ⟨-, s1⟩ := apE_ok h1
  obtain ⟨P, T, rfl, hp⟩ := stands_parts s1
  rw [(ap_mid m1 hp).2] at h2 ⊢
  obtain ⟨-, s2⟩ := apE_ok h2
  obtain ⟨Q, U, e, hq⟩ := stands_parts s2
  rcases hz with ⟨d1, e1, e2, d2⟩ | ⟨d1, e1, e2, d2⟩
  · obtain ⟨G, rfl, rfl⟩ : ∃ G, Q = (P ++ ys) ++ G ∧ T = G ++ (us ++ U) := app_split (by rw [e, List.append_assoc]) (by simp; omega)
    simp only [List.length_append] at hq
    have hy : hMay (q + z.2) us vs = true := hMay_move m2 (by omega) d2
    have hx : hMay (p + z.1) xs ys = true := hMay_move m1 (by omega) (by omega)
    have t1 : P ++ xs ++ (G ++ (us ++ U)) = (P ++ xs ++ G) ++ us ++ U := by simp
    have k1 := ap_mid (S := U) hy (P := P ++ xs ++ G) (by simp; omega)
    rw [t1, k1.2]
    have t2 : P ++ xs ++ G ++ vs ++ U = P ++ xs ++ (G ++ vs ++ U) := by simp
    have k2 := ap_mid (S := G ++ vs ++ U) hx (P := P) (by omega)
    have k3 := ap_mid (S := U) m2 (P := P ++ ys ++ G) (by simp; omega)
    rw [t2, k2.2, e, k3.2]
    exact ⟨k1.1, k2.1, by simp⟩
  · obtain ⟨G, hG, hT⟩ : ∃ G, P = (Q ++ us) ++ G ∧ U = G ++ (ys ++ T) := app_split (by rw [← e, List.append_assoc]) (by simp; omega)
    subst hG hT
    simp only [List.length_append] at hp
    have hy : hMay (q + z.2) us vs = true := hMay_move m2 (by omega) (by omega)
    have hx : hMay (p + z.1) xs ys = true := hMay_move m1 (by omega) d2
    have t1 : Q ++ us ++ G ++ xs ++ T = Q ++ us ++ (G ++ xs ++ T) := by simp
    have k1 := ap_mid (S := G ++ xs ++ T) hy (P := Q) (by omega)
    rw [t1, k1.2]
    have t2 : Q ++ vs ++ (G ++ xs ++ T) = (Q ++ vs ++ G) ++ xs ++ T := by simp
    have k2 := ap_mid (S := T) hx (P := Q ++ vs ++ G) (by simp; omega)
    have k3 := ap_mid (S := G ++ (ys ++ T)) m2 (P := Q) (by omega)
    rw [t2, k2.2, e, k3.2]
    exact ⟨k1.1, k2.1, by simp⟩
end Go.Proofs.Ytnepgecdnhiokaa
