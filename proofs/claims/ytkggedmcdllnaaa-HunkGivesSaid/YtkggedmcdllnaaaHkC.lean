/- Layer 5: ref05.Same, hunk.Turn. -/
import Derived.Deep.RegionHeld3
import Derived.Test.YtkggedmcdllnaaaHkSt
import Derived.Test.YtkggedmcdllnaaaHunk
import Derived.Test.YtkggedmcdllnaaaClone
namespace Go.Proofs.Ytkggedmcdllnaaa
open Go.RowKit

set_option maxHeartbeats 1000000 in
theorem rhsame_any (p q : Int) (xs ys us vs : List ByteArray) (A B C D : Option Addr) (n m n' m' c d c' d' : Nat) (w : World) (hx : n = xs.length) (hy : m = ys.length) (hu : n' = us.length) (hv : m' = vs.length)
    (hA : SlS w.heap.size w A xs) (hB : SlS w.heap.size w B ys) (hC : SlS w.heap.size w C us) (hD : SlS w.heap.size w D vs) (hn : xs.length ≤ 100000) (hm : ys.length ≤ 100000) :
    Calls Try.prog 22 #[.agg #[.int .i64 p, .slice A n c, .slice B m d], .agg #[.int .i64 q, .slice C n' c', .slice D m' d']] w fun e w' => e = .returned (.bool (hSame p q xs ys us vs)) ∧ Below w.heap.size w w' := by
  subst hx hy hu hv
  have S := ((((St.start w).add hA).add hB).add hC).add hD
  obtain ⟨b1, h1⟩ : ∃ b, decide (xs = us) = b := ⟨_, rfl⟩
  obtain ⟨b2, h2⟩ : ∃ b, decide (ys = vs) = b := ⟨_, rfl⟩
  have H1 := Kp.mk h1
  have H2 := Kp.mk h2
  obtain ⟨b0, h0⟩ : ∃ b, (p == q) = b := ⟨_, rfl⟩
  have HC : Kp (hSame p q xs ys us vs = (b0 && b1 && b2)) := ⟨by unfold hSame; rw [h1, h2, ← h0]; rfl⟩
  clear h1 h2 hA hB hC hD
  cases b0 <;> cases b1 <;> cases b2
  all_goals
    go_enter Try.func22, Try.ntmps22
    go_wp2_with (first
      | (refine wpList_hk_box rfl _ rfl _ _ _ rfl S ?_; clear S; intro g w1 S)
      | (refine wpList_hk_field rfl _ _ rfl (by first | exact Or.inl rfl | exact Or.inr rfl) _ _ rfl S _ _ _ (by first | exact ix0 | exact ix1) _ rfl ?_)
      | (go_at_call_of 15 A; refine (same_at xs us A C _ _ _ _ _ _ rfl rfl H1.out (S.ln mm3) (S.ln mm1) hn).mono ?_; rintro e w2 ⟨rfl, hb⟩; replace S := S.call hb; clear hb)
      | (go_at_call_of 15 B; refine (same_at ys vs B D _ _ _ _ _ _ rfl rfl H2.out (S.ln mm2) (S.ln mm0) hm).mono ?_; rintro e w3 ⟨rfl, hb⟩; replace S := S.call hb; clear hb; have c0 := (S.hk ix0).c0; have c1 := (S.hk ix1).c0))
    go_ret
    exact ⟨ret_bool (by rw [HC.out]; rfl), S.below⟩

set_option maxHeartbeats 1000000 in
theorem turn_any (p : Int) (xs ys : List ByteArray) (A B : Option Addr) (n m c d : Nat) (w : World) (hx : n = xs.length) (hy : m = ys.length) (hA : SlS w.heap.size w A xs) (hB : SlS w.heap.size w B ys) (hn : xs.length ≤ 100000) (hm : ys.length ≤ 100000) :
    Calls Try.prog 12 #[.agg #[.int .i64 p, .slice A n c, .slice B m d]] w fun e w' => ∃ C e' D f, e = .returned (.agg #[.int .i64 p, .slice C ys.length e', .slice D xs.length f]) ∧
      ys.length ≤ e' ∧ e' ≤ 9223372036854775807 ∧ xs.length ≤ f ∧ f ≤ 9223372036854775807 ∧ SlS 0 w' C ys ∧ SlS 0 w' D xs ∧ Below w.heap.size w w' := by
  subst hx hy
  have S := ((St.start w).add hA).add hB
  clear hA hB
  go_enter Try.func12, Try.ntmps12
  go_wp2_with (first
    | (refine wpList_hk_box rfl _ rfl _ _ _ rfl S ?_; clear S; intro g w1 S)
    | (refine wpList_hk_alloc rfl rfl S ?_; clear S; intro g' w2 S))
  have c0 := (S.hk ix1).c0
  have c1 := (S.hk ix1).c1
  have c2 := (S.hk ix1).c2
  have n1 := S.ne ix1 ix0 (by decide)
  have n2 := S.ne ix0 ix1 (by decide)
  go_region_held3 (fun w' => w'.cell? ⟨g, 0, none⟩ = some (.int .i64 p) ∧ w'.cell? ⟨g, 1, none⟩ = some (.slice A xs.length c) ∧ w'.cell? ⟨g, 2, none⟩ = some (.slice B ys.length d)) (first | go_keep | exact ⟨by assumption, by assumption, by assumption⟩)
    (first
      | (go_at_call_of 26 B; refine (cloneS_any ys B d w2.drew (S.ln mm0).drew hm).mono ?_; rintro e w3 ⟨v, rfl, hown, hb3⟩; obtain ⟨C, e', rfl, q1, q2, hC⟩ := SlS.of_own (B := 0) hown (by omega); clear hown
         have S3 := (S.drew.call hb3).add0 hC; clear hC; have k0 := (S3.hk ix1).c0; have k1 := (S3.hk ix1).c1; have k2 := (S3.hk ix1).c2)
      | (go_at_call_of 26 A; refine (cloneS_any xs A c w3 (S3.ln mm2) hn).mono ?_; rintro e w4 ⟨v, rfl, hown, hb4⟩; obtain ⟨D, f, rfl, q3, q4, hD⟩ := SlS.of_own (B := 0) hown (by omega); clear hown
         have S4 := (S3.call hb4).add0 hD; clear hD; have m0 := (S4.hk ix1).c0; have m1 := (S4.hk ix1).c1; have m2 := (S4.hk ix1).c2
         have d0 := (S4.hk ix0).c0; have d1 := (S4.hk ix0).c1; have d2 := (S4.hk ix0).c2; have f0 := (S4.hk ix0).free 0; have f1 := (S4.hk ix0).free 1; have f2 := (S4.hk ix0).free 2))
  clear c0 c1 c2 k0 k1 k2 m0 m1 m2 d0 d1 d2 f0 f1 f2
  go_wp2
  have S5 := S4.setHk ix0 (.int .i64 p) (.slice C ys.length e') (.slice D xs.length f)
  refine bodyPost_ret (results_h1 rfl _ _ g' _ _ _ rfl (S5.hk ix0)) rfl ?_
  exact ⟨_, _, _, _, rfl, q1, q2, q3, q4, S5.ln0 mm1, S5.ln0 mm0, S5.below⟩
end Go.Proofs.Ytkggedmcdllnaaa
