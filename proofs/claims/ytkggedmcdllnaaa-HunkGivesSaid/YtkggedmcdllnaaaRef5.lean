/- The document's answer of layer 5: Apply, Turn. -/
import Derived.Test.YtkggedmcdllnaaaApply
import Derived.Test.YtkggedmcdllnaaaRefSeqZ
import Derived.Test.YtkggedmcdllnaaaSeqPl
namespace Go.Proofs.Ytkggedmcdllnaaa
open Go.RowKit

set_option maxHeartbeats 1000000 in
theorem rapply_any (l : List ByteArray) (p : Int) (us vs : List ByteArray) (A C D : Option Addr) (c c' d' : Nat) (E : Int) (m : List ByteArray) (w : World) (hE : apE l p us vs = E) (hm : apL l p us vs = m) (hc : l.length ≤ c)
    (hA : SlS w.heap.size w A l) (hC : SlS w.heap.size w C us) (hD : SlS w.heap.size w D vs) (ll : l.length ≤ 100000) (lu : us.length ≤ 100000) (lv : vs.length ≤ 100000)
    (su : ∀ x ∈ us, x.size ≤ 9223372036854775807) (sv : ∀ x ∈ vs, x.size ≤ 9223372036854775807) :
    Calls Try.prog 21 #[.slice A l.length c, .agg #[.int .i64 p, .slice C us.length c', .slice D vs.length d']] w fun e w' => ∃ F r, e = .returned (.tuple #[.slice F m.length r, .int .i64 E]) ∧
      m.length ≤ r ∧ r ≤ 9223372036854775807 ∧ SlS 0 w' F m ∧ Below w.heap.size w w' := by
  have S := (((St.start w).add hA).add hC).add hD
  clear hA hC hD
  have SU := Kp.mk su
  have SV := Kp.mk sv
  clear su sv
  cases m1 : hMay p us vs with
  | false =>
    have HM := Kp.mk m1
    obtain rfl : E = 1 := by rw [← hE]; unfold apE; rw [m1]; rfl
    obtain rfl : m = [] := by rw [← hm]; unfold apL; rw [m1]; rfl
    clear m1 hE hm
    go_enter Try.func21, Try.ntmps21
    go_wp2_with (first
      | (with_reducible show wpList _ _ _ ({ dst := _, op := .box 24 _, type := _, pos := _, after := _, guard := none } :: _) _ _; refine wpList_hk_box rfl _ rfl _ _ _ rfl S ?_; clear S; intro g w1 S)
      | (with_reducible show wpList _ _ _ ({ dst := _, op := .load 24 _, type := _, pos := _, after := _, guard := none } :: _) _ _; refine wpList_hk_load rfl _ rfl _ rfl S _ _ _ _ _ ix0 ?_)
      | (go_at_call 24; refine (rhmay_any p us vs _ _ _ _ _ _ _ rfl rfl (S.ln mm1) (S.ln mm0) lu lv SU.out SV.out).mono ?_; rintro e w2 ⟨rfl, hb⟩; rw [HM.out]; replace S := S.call hb; clear hb))
    go_ret2
    exact ⟨none, 0, rfl, Nat.le_refl _, by omega, SlS.nil, S.below⟩
  | true =>
    obtain ⟨⟨a1, a2⟩, -⟩ := hMay_out m1
    have HM := Kp.mk m1
    obtain ⟨b, hb⟩ : ∃ b, stands l p us = b := ⟨_, rfl⟩
    have HB := Kp.mk hb
    have HL : Kp (swpR l p us vs = m) := ⟨by
      rw [← hm]; unfold apL; rw [m1, hb]
      cases b
      · unfold swpR; rw [hb]; rfl
      · rfl⟩
    obtain rfl : E = if b then 0 else 5 := by rw [← hE]; unfold apE; rw [m1, hb]; rfl
    have HN : Kp (b = false → m = []) := ⟨fun e => by rw [← HL.out]; unfold swpR; rw [HB.out, e]; rfl⟩
    clear m1 hE hm hb
    cases b
    all_goals
      go_enter Try.func21, Try.ntmps21
      go_wp2_with (first
        | (with_reducible show wpList _ _ _ ({ dst := _, op := .box 24 _, type := _, pos := _, after := _, guard := none } :: _) _ _; refine wpList_hk_box rfl _ rfl _ _ _ rfl S ?_; clear S; intro g w1 S)
        | (with_reducible show wpList _ _ _ ({ dst := _, op := .load 24 _, type := _, pos := _, after := _, guard := none } :: _) _ _; refine wpList_hk_load rfl _ rfl _ rfl S _ _ _ _ _ ix0 ?_)
        | (with_reducible show wpList _ _ _ ({ dst := _, op := .load _ _, type := _, pos := _, after := _, guard := none } :: _) _ _; refine wpList_hk_field rfl _ _ rfl (by first | exact Or.inl rfl | exact Or.inr rfl) _ _ rfl S _ _ _ ix0 _ rfl ?_)
        | (go_at_call 24; refine (rhmay_any p us vs _ _ _ _ _ _ _ rfl rfl (S.ln mm1) (S.ln mm0) lu lv SU.out SV.out).mono ?_; rintro e w2 ⟨rfl, hb⟩; rw [HM.out]; replace S := S.call hb; clear hb)
        | (go_at_call 34; refine (refSwap_all l us vs _ _ _ _ _ _ _ _ _ _ _ _ _ HB.out HL.out rfl rfl rfl hc (S.ln mm2) (S.ln mm1) (S.ln mm0) ll lu lv (by omega) (by omega)).mono ?_; rintro e w3 ⟨F, r, rfl, q1, q2, hF, hb⟩; replace S := (S.call hb).add0 hF; clear hb hF))
      go_ret2
      first
        | exact ⟨F, r, rfl, q1, q2, S.ln0 mm0, S.below⟩
        | (have e0 := HN.out (by trivial); subst e0; exact ⟨none, 0, rfl, Nat.le_refl _, by omega, SlS.nil, S.below⟩)

set_option maxHeartbeats 1000000 in
theorem rturn_any (p : Int) (xs ys : List ByteArray) (A B : Option Addr) (n m c d : Nat) (w : World) (hx : n = xs.length) (hy : m = ys.length) (hA : SlS w.heap.size w A xs) (hB : SlS w.heap.size w B ys) :
    Calls Try.prog 23 #[.agg #[.int .i64 p, .slice A n c, .slice B m d]] w fun e w' => e = .returned (.agg #[.int .i64 p, .slice B m d, .slice A n c]) ∧ Below w.heap.size w w' := by
  subst hx hy
  have S := ((St.start w).add hA).add hB
  clear hA hB
  go_enter Try.func23, Try.ntmps23
  go_wp2_with (first
    | (refine wpList_hk_box rfl _ rfl _ _ _ rfl S ?_; clear S; intro g w1 S)
    | (refine wpList_hk_alloc rfl rfl S ?_; clear S; intro g' w2 S)
    | (with_reducible show wpList _ _ _ ({ dst := _, op := .load _ _, type := _, pos := _, after := _, guard := none } :: _) _ _; refine wpList_hk_field rfl _ _ rfl (by first | exact Or.inl rfl | exact Or.inr rfl) _ _ rfl S _ _ _ ix1 _ rfl ?_)
    | (with_reducible show wpList _ _ _ ({ dst := _, op := .store 24 _ _, type := _, pos := _, after := _, guard := none } :: _) _ _; refine wpList_hk_store rfl _ _ rfl _ rfl _ _ _ rfl S _ _ _ _ _ ix0 rfl rfl rfl ?_; clear S; intro w3 S; simp only [List.set_cons_zero] at S))
  refine bodyPost_ret (results_h1 rfl _ _ g' _ _ _ rfl (S.hk ix0)) rfl ?_
  exact ⟨rfl, S.below⟩

theorem hMay_swap (p : Int) (xs ys : List ByteArray) : hMay p ys xs = hMay p xs ys := by
  unfold hMay
  exact Bool.and_right_comm _ _ _
theorem hap_mid {P m S n : List ByteArray} {p : Int} (h : hMay p m n = true) (hp : p = P.length) : apE (P ++ m ++ S) p m n = 0 ∧ apL (P ++ m ++ S) p m n = P ++ n ++ S := by
  have h1 := ap_yes (l := P ++ m ++ S) h (stands_mid P m S p hp)
  rw [swpR_mid P m S n p hp] at h1
  exact h1
/-- What a hunk changes it changes back, turned. -/
theorem ap_back {l : List ByteArray} {p : Int} {us vs : List ByteArray} (h : apE l p us vs = 0) : apE (apL l p us vs) p vs us = 0 ∧ apL (apL l p us vs) p vs us = l := by
  obtain ⟨m, s⟩ := apE_ok h
  obtain ⟨P, S, rfl, hp⟩ := stands_parts s
  rw [(hap_mid m hp).2]
  exact hap_mid (by rw [hMay_swap]; exact m) hp
theorem ap_stands {l : List ByteArray} {p : Int} {us vs : List ByteArray} (m : hMay p us vs = true) : (stands l p us = true ∧ apE l p us vs = 0 ∧ (apL l p us vs).length + us.length = l.length + vs.length ∧ stands (apL l p us vs) p vs = true) ∨ (stands l p us = false ∧ apE l p us vs = 5 ∧ apL l p us vs = []) := by
  cases s : stands l p us with
  | false => exact .inr ⟨rfl, by unfold apE; simp [m, s], by unfold apL; simp [s]⟩
  | true =>
    obtain ⟨P, S, rfl, hp⟩ := stands_parts s
    have h := hap_mid (S := S) m hp
    refine .inl ⟨rfl, h.1, ?_, ?_⟩
    · rw [h.2]; simp; omega
    · rw [h.2]; exact stands_mid P vs S p hp
end Go.Proofs.Ytkggedmcdllnaaa
