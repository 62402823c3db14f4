/- Layer 5: hunk.Apply: a list that a hunk changes. -/
import Derived.Test.YtkggedmcdllnaaaHkC
import Derived.Test.YtkggedmcdllnaaaSeqA
namespace Go.Proofs.Ytkggedmcdllnaaa
open Go.RowKit

/-- What a hunk makes of a list, and the error's number. -/
def apE (l : List ByteArray) (p : Int) (us vs : List ByteArray) : Int := if hMay p us vs then (if stands l p us then 0 else 5) else 1
def apL (l : List ByteArray) (p : Int) (us vs : List ByteArray) : List ByteArray := if hMay p us vs && stands l p us then swpR l p us vs else []
theorem apL_le (l : List ByteArray) (p : Int) (us vs : List ByteArray) : (apL l p us vs).length ≤ l.length + vs.length := by
  unfold apL
  split
  · exact swpR_length _ _ _ _
  · simp
theorem apE_vals (l : List ByteArray) (p : Int) (us vs : List ByteArray) : apE l p us vs = 0 ∨ apE l p us vs = 1 ∨ apE l p us vs = 5 := by
  unfold apE
  split
  · split <;> simp
  · simp
theorem apE_ok {l : List ByteArray} {p : Int} {us vs : List ByteArray} (h : apE l p us vs = 0) : hMay p us vs = true ∧ stands l p us = true := by
  unfold apE at h
  by_cases m : hMay p us vs = true
  · rw [if_pos m] at h
    by_cases s : stands l p us = true
    · exact ⟨m, s⟩
    · rw [if_neg s] at h; omega
  · rw [if_neg m] at h; omega
theorem ap_yes {l : List ByteArray} {p : Int} {us vs : List ByteArray} (m : hMay p us vs = true) (s : stands l p us = true) : apE l p us vs = 0 ∧ apL l p us vs = swpR l p us vs := by
  unfold apE apL
  simp [m, s]
theorem apL_not {l : List ByteArray} {p : Int} {us vs : List ByteArray} (h : apE l p us vs ≠ 0) : apL l p us vs = [] := by
  unfold apE at h
  unfold apL
  by_cases m : hMay p us vs = true
  · by_cases s : stands l p us = true
    · simp [m, s] at h
    · simp [s]
  · simp [m]
set_option maxHeartbeats 1000000 in
theorem apply_any (l : List ByteArray) (p : Int) (us vs : List ByteArray) (A C D : Option Addr) (c c' d' : Nat) (E : Int) (m : List ByteArray) (w : World) (hE : apE l p us vs = E) (hm : apL l p us vs = m) (hc : l.length ≤ c)
    (hA : SlS w.heap.size w A l) (hC : SlS w.heap.size w C us) (hD : SlS w.heap.size w D vs) (ll : l.length ≤ 100000) (lu : us.length ≤ 100000) (lv : vs.length ≤ 100000)
    (su : ∀ x ∈ us, x.size ≤ 9223372036854775807) (sv : ∀ x ∈ vs, x.size ≤ 9223372036854775807) :
    Calls Try.prog 14 #[.slice A l.length c, .agg #[.int .i64 p, .slice C us.length c', .slice D vs.length d']] w fun e w' => ∃ F r, e = .returned (.tuple #[.slice F m.length r, .int .i64 E]) ∧
      m.length ≤ r ∧ r ≤ 9223372036854775807 ∧ SlS 0 w' F m ∧ Below w.heap.size w w' := by
  have S := (((St.start w).add hA).add hC).add hD
  clear hA hC hD
  have SU := Kp.mk su
  have SV := Kp.mk sv
  clear su sv
  cases m1 : hMay p us vs with
  | false =>
    have HM := Kp.mk m1
    obtain rfl : E = 1 := by rw [← hE]; unfold apE; rw [m1]; rfl
    obtain rfl : m = [] := by rw [← hm]; unfold apL; rw [m1]; rfl
    clear m1 hE hm
    go_enter Try.func14, Try.ntmps14
    go_wp2_with (first
      | (with_reducible show wpList _ _ _ ({ dst := _, op := .box 24 _, type := _, pos := _, after := _, guard := none } :: _) _ _; refine wpList_hk_box rfl _ rfl _ _ _ rfl S ?_; clear S; intro g w1 S)
      | (with_reducible show wpList _ _ _ ({ dst := _, op := .load 24 _, type := _, pos := _, after := _, guard := none } :: _) _ _; refine wpList_hk_load rfl _ rfl _ rfl S _ _ _ _ _ ix0 ?_)
      | (go_at_call 13; refine (hmay_any p us vs _ _ _ _ _ _ _ rfl rfl (S.ln mm1) (S.ln mm0) lu lv SU.out SV.out).mono ?_; rintro e w2 ⟨rfl, hb⟩; rw [HM.out]; replace S := S.call hb; clear hb))
    go_ret2
    exact ⟨none, 0, rfl, Nat.le_refl _, by omega, SlS.nil, S.below⟩
  | true =>
    obtain ⟨⟨a1, a2⟩, -⟩ := hMay_out m1
    have HM := Kp.mk m1
    obtain ⟨b, hb⟩ : ∃ b, stands l p us = b := ⟨_, rfl⟩
    have HB := Kp.mk hb
    have HL : Kp (swpR l p us vs = m) := ⟨by
      rw [← hm]; unfold apL; rw [m1, hb]
      cases b
      · unfold swpR; rw [hb]; rfl
      · rfl⟩
    obtain rfl : E = if b then 0 else 5 := by rw [← hE]; unfold apE; rw [m1, hb]; rfl
    have HN : Kp (b = false → m = []) := ⟨fun e => by rw [← HL.out]; unfold swpR; rw [HB.out, e]; rfl⟩
    clear m1 hE hm hb
    cases b
    all_goals
      go_enter Try.func14, Try.ntmps14
      go_wp2_with (first
        | (with_reducible show wpList _ _ _ ({ dst := _, op := .box 24 _, type := _, pos := _, after := _, guard := none } :: _) _ _; refine wpList_hk_box rfl _ rfl _ _ _ rfl S ?_; clear S; intro g w1 S)
        | (with_reducible show wpList _ _ _ ({ dst := _, op := .load 24 _, type := _, pos := _, after := _, guard := none } :: _) _ _; refine wpList_hk_load rfl _ rfl _ rfl S _ _ _ _ _ ix0 ?_)
        | (with_reducible show wpList _ _ _ ({ dst := _, op := .load _ _, type := _, pos := _, after := _, guard := none } :: _) _ _; refine wpList_hk_field rfl _ _ rfl (by first | exact Or.inl rfl | exact Or.inr rfl) _ _ rfl S _ _ _ ix0 _ rfl ?_)
        | (go_at_call 13; refine (hmay_any p us vs _ _ _ _ _ _ _ rfl rfl (S.ln mm1) (S.ln mm0) lu lv SU.out SV.out).mono ?_; rintro e w2 ⟨rfl, hb⟩; rw [HM.out]; replace S := S.call hb; clear hb)
        | (go_at_call 28; refine (Swap_all l us vs _ _ _ _ _ _ _ _ _ _ _ _ _ HB.out HL.out rfl rfl rfl hc (S.ln mm2) (S.ln mm1) (S.ln mm0) ll lu lv (by omega) (by omega)).mono ?_; rintro e w3 ⟨F, r, rfl, q1, q2, hF, hb⟩; replace S := (S.call hb).add0 hF; clear hb hF))
      go_ret2
      first
        | exact ⟨F, r, rfl, q1, q2, S.ln0 mm0, S.below⟩
        | (have e0 := HN.out (by trivial); subst e0; exact ⟨none, 0, rfl, Nat.le_refl _, by omega, SlS.nil, S.below⟩)
end Go.Proofs.Ytkggedmcdllnaaa
