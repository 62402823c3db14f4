/- HunkGives: what a round knows of its hunk. No function of the program is walked here. -/
import Derived.Test.YtkggedmcdllnaaaGivesPl
namespace Go.Proofs.Ytkggedmcdllnaaa
open Go.RowKit

theorem LnX.frs0 {A : Option Addr} {xs : List ByteArray} {w : World} (h : LnX A xs w) : Frs 0 (LnX A xs) w :=
  ⟨_, dep_sl _ _ _, fun d hd => by
    obtain ⟨hn, ad, rfl, rfl⟩ := hd
    obtain ⟨ad', e, hb, _⟩ := h.2 hn
    injection e with e
    subst e
    exact ⟨Nat.zero_le _, hb⟩, h⟩
theorem hds_getElem (l : List HkA) (i : Nat) (h : i < l.length) (h2 : i < (hds l).length) : (hds l)[i] = (l[i].1, l[i].2.1.2.2, l[i].2.2.2.2) := by simp [hds]
theorem gives_at {N : Nat} {xs : List ByteArray} {l : List HkA} {i : Nat} {g o : Nat} {C : Option Addr} {w : World} (ok : okH N xs (hds l)) (hlt : i < l.length)
    (hc : w.cell? ⟨g, o + i * 3, none⟩ = some (.int .i64 l[i].1) ∧ w.cell? ⟨g, o + i * 3 + 1, none⟩ = some (.slice l[i].2.1.1 l[i].2.1.2.2.length l[i].2.1.2.1) ∧ w.cell? ⟨g, o + i * 3 + 2, none⟩ = some (.slice l[i].2.2.1 l[i].2.2.2.2.length l[i].2.2.2.1))
    (hL : HkL C l w) : ∃ (p : Int) (xa : Option Addr) (xc : Nat) (us : List ByteArray) (xb : Option Addr) (xd : Nat) (vs m' : List ByteArray), w.cell? ⟨g, o + i * 3, none⟩ = some (.int .i64 p) ∧ w.cell? ⟨g, o + i * 3 + 1, none⟩ = some (.slice xa us.length xc) ∧
      w.cell? ⟨g, o + i * 3 + 2, none⟩ = some (.slice xb vs.length xd) ∧ LnX xa us w ∧ LnX xb vs w ∧ apE (runH xs ((hds l).take i)) p us vs = 0 ∧ apL (runH xs ((hds l).take i)) p us vs = m' ∧ runH xs ((hds l).take (i + 1)) = m' ∧ m'.length ≤ N ∧
      us.length ≤ 200 ∧ vs.length ≤ 200 ∧ (∀ x ∈ us, x.size ≤ 9223372036854775807) ∧ (∀ x ∈ vs, x.size ≤ 9223372036854775807) := by
  have h2 : i < (hds l).length := by rw [hds_length]; exact hlt
  obtain ⟨_, k2, k3, k4⟩ := okH_at ok i h2
  rw [hds_getElem l i hlt h2] at k2 k3
  simp only at k2 k3
  obtain ⟨hM, _⟩ := apE_ok k2
  obtain ⟨_, o1, o2⟩ := hMay_out hM
  obtain ⟨z1, z2⟩ := allOk_out o1
  obtain ⟨z3, z4⟩ := allOk_out o2
  exact ⟨l[i].1, l[i].2.1.1, l[i].2.1.2.1, l[i].2.1.2.2, l[i].2.2.1, l[i].2.2.2.1, l[i].2.2.2.2, _, hc.1, hc.2.1, hc.2.2, hL.2.1 _ (List.getElem_mem hlt), hL.2.2 _ (List.getElem_mem hlt), k2, rfl, k3.symm, by rw [k3]; exact k4, z1, z3, z2, z4⟩
end Go.Proofs.Ytkggedmcdllnaaa
