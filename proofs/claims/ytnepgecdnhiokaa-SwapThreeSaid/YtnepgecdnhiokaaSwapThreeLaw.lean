/- SwapThree: three of which each two pass one another, one behind the other, come to the same in the turned order, by either way: the walk of the law. -/
import Derived.Test.YtnepgecdnhiokaaAwake6
import Derived.Test.YtnepgecdnhiokaaSwapB
import Derived.Test.YtnepgecdnhiokaaHkC
namespace Go.Proofs.Ytnepgecdnhiokaa
open Go.RowKit

set_option maxRecDepth 100000 in
set_option maxHeartbeats 2000000 in
theorem swapThree_any (p : Int) (xs ys : List ByteArray) (A B : Option Addr) (c d : Nat) (q : Int) (us vs : List ByteArray) (C D : Option Addr) (c' d' : Nat) (r : Int) (ks ls : List ByteArray) (E F : Option Addr) (f f' : Nat) (w : World)
    (_ : -9223372036854775808 ≤ p) (_ : p ≤ 9223372036854775807) (_ : xs.length ≤ c) (_ : c ≤ 9223372036854775807) (hA : SlS w.heap.size w A xs) (_ : ys.length ≤ d) (_ : d ≤ 9223372036854775807) (hB : SlS w.heap.size w B ys) (_ : -9223372036854775808 ≤ q) (_ : q ≤ 9223372036854775807) (_ : us.length ≤ c') (_ : c' ≤ 9223372036854775807) (hC : SlS w.heap.size w C us) (_ : vs.length ≤ d') (_ : d' ≤ 9223372036854775807) (hD : SlS w.heap.size w D vs) (_ : -9223372036854775808 ≤ r) (_ : r ≤ 9223372036854775807) (_ : ks.length ≤ f) (_ : f ≤ 9223372036854775807) (hE : SlS w.heap.size w E ks) (_ : ls.length ≤ f') (_ : f' ≤ 9223372036854775807) (hF : SlS w.heap.size w F ls) :
    Calls Try.prog 7 #[.agg #[.int .i64 p, .slice A xs.length c, .slice B ys.length d], .agg #[.int .i64 q, .slice C us.length c', .slice D vs.length d'], .agg #[.int .i64 r, .slice E ks.length f, .slice F ls.length f']] w fun e w' => e = .returned (.bool true) ∧ Below w.heap.size w w' := by
  have S := ((((((St.start w).add hA).add hB).add hC).add hD).add hE).add hF
  obtain ⟨bp, lp⟩ : ∃ b, light5 xs ys = b := ⟨_, rfl⟩
  have Lp := Kp.mk lp
  obtain ⟨bq, lq⟩ : ∃ b, light5 us vs = b := ⟨_, rfl⟩
  have Lq := Kp.mk lq
  obtain ⟨br, lr⟩ : ∃ b, light5 ks ls = b := ⟨_, rfl⟩
  have Lr := Kp.mk lr
  clear hA hB hC hD hE hF
  by_cases hall : bp = true ∧ bq = true ∧ br = true
  · obtain ⟨rfl, rfl, rfl⟩ := hall
    obtain ⟨nxs, nys, sxs, sys⟩ := light5_out lp
    have Sxs := Kp.mk sxs
    have Sys := Kp.mk sys
    clear sxs sys lp
    obtain ⟨nus, nvs, sus, svs⟩ := light5_out lq
    have Sus := Kp.mk sus
    have Svs := Kp.mk svs
    clear sus svs lq
    obtain ⟨nks, nls, sks, sls⟩ := light5_out lr
    have Sks := Kp.mk sks
    have Sls := Kp.mk sls
    clear sks sls lr
    by_cases hp : p ≤ 524288
    · by_cases hq : q ≤ 524288
      · by_cases hr : r ≤ 524288
        · obtain ⟨R1, hR1⟩ : ∃ R, passX p xs ys q us vs = R := ⟨_, rfl⟩
          obtain ⟨i1, hi1⟩ : ∃ b, R1.isSome = b := ⟨_, rfl⟩
          obtain ⟨Pp1, hPp1⟩ : ∃ X, pX R1 p = X := ⟨_, rfl⟩
          obtain ⟨op1, hop1⟩ : ∃ l, pL R1 xs = l := ⟨_, rfl⟩
          have bop1 := pL_le R1 xs
          rw [hop1] at bop1
          have Sop1 : Kp (∀ x ∈ op1, x.size ≤ 9223372036854775807) := ⟨fun x hx => Sxs.out x (pL_mem R1 _ x (by rw [hop1]; exact hx))⟩
          obtain ⟨np1, hnp1⟩ : ∃ l, pL R1 ys = l := ⟨_, rfl⟩
          have bnp1 := pL_le R1 ys
          rw [hnp1] at bnp1
          have Snp1 : Kp (∀ x ∈ np1, x.size ≤ 9223372036854775807) := ⟨fun x hx => Sys.out x (pL_mem R1 _ x (by rw [hnp1]; exact hx))⟩
          obtain ⟨Pq1, hPq1⟩ : ∃ X, pY R1 q = X := ⟨_, rfl⟩
          obtain ⟨oq1, hoq1⟩ : ∃ l, pL R1 us = l := ⟨_, rfl⟩
          have boq1 := pL_le R1 us
          rw [hoq1] at boq1
          have Soq1 : Kp (∀ x ∈ oq1, x.size ≤ 9223372036854775807) := ⟨fun x hx => Sus.out x (pL_mem R1 _ x (by rw [hoq1]; exact hx))⟩
          obtain ⟨nq1, hnq1⟩ : ∃ l, pL R1 vs = l := ⟨_, rfl⟩
          have bnq1 := pL_le R1 vs
          rw [hnq1] at bnq1
          have Snq1 : Kp (∀ x ∈ nq1, x.size ≤ 9223372036854775807) := ⟨fun x hx => Svs.out x (pL_mem R1 _ x (by rw [hnq1]; exact hx))⟩
          have KhR1 := Kp.mk hR1
          have Khi1 := Kp.mk hi1
          have KhPp1 := Kp.mk hPp1
          have Khop1 := Kp.mk hop1
          have Khnp1 := Kp.mk hnp1
          have KhPq1 := Kp.mk hPq1
          have Khoq1 := Kp.mk hoq1
          have Khnq1 := Kp.mk hnq1
          obtain ⟨R2, hR2⟩ : ∃ R, passX Pp1 op1 np1 r ks ls = R := ⟨_, rfl⟩
          obtain ⟨i2, hi2⟩ : ∃ b, R2.isSome = b := ⟨_, rfl⟩
          obtain ⟨Pp2, hPp2⟩ : ∃ X, pX R2 Pp1 = X := ⟨_, rfl⟩
          obtain ⟨op2, hop2⟩ : ∃ l, pL R2 op1 = l := ⟨_, rfl⟩
          have bop2 := pL_le R2 op1
          rw [hop2] at bop2
          have Sop2 : Kp (∀ x ∈ op2, x.size ≤ 9223372036854775807) := ⟨fun x hx => Sop1.out x (pL_mem R2 _ x (by rw [hop2]; exact hx))⟩
          obtain ⟨np2, hnp2⟩ : ∃ l, pL R2 np1 = l := ⟨_, rfl⟩
          have bnp2 := pL_le R2 np1
          rw [hnp2] at bnp2
          have Snp2 : Kp (∀ x ∈ np2, x.size ≤ 9223372036854775807) := ⟨fun x hx => Snp1.out x (pL_mem R2 _ x (by rw [hnp2]; exact hx))⟩
          obtain ⟨Pr1, hPr1⟩ : ∃ X, pY R2 r = X := ⟨_, rfl⟩
          obtain ⟨or1, hor1⟩ : ∃ l, pL R2 ks = l := ⟨_, rfl⟩
          have bor1 := pL_le R2 ks
          rw [hor1] at bor1
          have Sor1 : Kp (∀ x ∈ or1, x.size ≤ 9223372036854775807) := ⟨fun x hx => Sks.out x (pL_mem R2 _ x (by rw [hor1]; exact hx))⟩
          obtain ⟨nr1, hnr1⟩ : ∃ l, pL R2 ls = l := ⟨_, rfl⟩
          have bnr1 := pL_le R2 ls
          rw [hnr1] at bnr1
          have Snr1 : Kp (∀ x ∈ nr1, x.size ≤ 9223372036854775807) := ⟨fun x hx => Sls.out x (pL_mem R2 _ x (by rw [hnr1]; exact hx))⟩
          have KhR2 := Kp.mk hR2
          have Khi2 := Kp.mk hi2
          have KhPp2 := Kp.mk hPp2
          have Khop2 := Kp.mk hop2
          have Khnp2 := Kp.mk hnp2
          have KhPr1 := Kp.mk hPr1
          have Khor1 := Kp.mk hor1
          have Khnr1 := Kp.mk hnr1
          obtain ⟨R3, hR3⟩ : ∃ R, passX Pq1 oq1 nq1 Pr1 or1 nr1 = R := ⟨_, rfl⟩
          obtain ⟨i3, hi3⟩ : ∃ b, R3.isSome = b := ⟨_, rfl⟩
          obtain ⟨Pq2, hPq2⟩ : ∃ X, pX R3 Pq1 = X := ⟨_, rfl⟩
          obtain ⟨oq2, hoq2⟩ : ∃ l, pL R3 oq1 = l := ⟨_, rfl⟩
          have boq2 := pL_le R3 oq1
          rw [hoq2] at boq2
          have Soq2 : Kp (∀ x ∈ oq2, x.size ≤ 9223372036854775807) := ⟨fun x hx => Soq1.out x (pL_mem R3 _ x (by rw [hoq2]; exact hx))⟩
          obtain ⟨nq2, hnq2⟩ : ∃ l, pL R3 nq1 = l := ⟨_, rfl⟩
          have bnq2 := pL_le R3 nq1
          rw [hnq2] at bnq2
          have Snq2 : Kp (∀ x ∈ nq2, x.size ≤ 9223372036854775807) := ⟨fun x hx => Snq1.out x (pL_mem R3 _ x (by rw [hnq2]; exact hx))⟩
          obtain ⟨Pr2, hPr2⟩ : ∃ X, pY R3 Pr1 = X := ⟨_, rfl⟩
          obtain ⟨or2, hor2⟩ : ∃ l, pL R3 or1 = l := ⟨_, rfl⟩
          have bor2 := pL_le R3 or1
          rw [hor2] at bor2
          have Sor2 : Kp (∀ x ∈ or2, x.size ≤ 9223372036854775807) := ⟨fun x hx => Sor1.out x (pL_mem R3 _ x (by rw [hor2]; exact hx))⟩
          obtain ⟨nr2, hnr2⟩ : ∃ l, pL R3 nr1 = l := ⟨_, rfl⟩
          have bnr2 := pL_le R3 nr1
          rw [hnr2] at bnr2
          have Snr2 : Kp (∀ x ∈ nr2, x.size ≤ 9223372036854775807) := ⟨fun x hx => Snr1.out x (pL_mem R3 _ x (by rw [hnr2]; exact hx))⟩
          have KhR3 := Kp.mk hR3
          have Khi3 := Kp.mk hi3
          have KhPq2 := Kp.mk hPq2
          have Khoq2 := Kp.mk hoq2
          have Khnq2 := Kp.mk hnq2
          have KhPr2 := Kp.mk hPr2
          have Khor2 := Kp.mk hor2
          have Khnr2 := Kp.mk hnr2
          obtain ⟨R4, hR4⟩ : ∃ R, passX q us vs r ks ls = R := ⟨_, rfl⟩
          obtain ⟨i4, hi4⟩ : ∃ b, R4.isSome = b := ⟨_, rfl⟩
          obtain ⟨Pq3, hPq3⟩ : ∃ X, pX R4 q = X := ⟨_, rfl⟩
          obtain ⟨oq3, hoq3⟩ : ∃ l, pL R4 us = l := ⟨_, rfl⟩
          have boq3 := pL_le R4 us
          rw [hoq3] at boq3
          have Soq3 : Kp (∀ x ∈ oq3, x.size ≤ 9223372036854775807) := ⟨fun x hx => Sus.out x (pL_mem R4 _ x (by rw [hoq3]; exact hx))⟩
          obtain ⟨nq3, hnq3⟩ : ∃ l, pL R4 vs = l := ⟨_, rfl⟩
          have bnq3 := pL_le R4 vs
          rw [hnq3] at bnq3
          have Snq3 : Kp (∀ x ∈ nq3, x.size ≤ 9223372036854775807) := ⟨fun x hx => Svs.out x (pL_mem R4 _ x (by rw [hnq3]; exact hx))⟩
          obtain ⟨Pr3, hPr3⟩ : ∃ X, pY R4 r = X := ⟨_, rfl⟩
          obtain ⟨or3, hor3⟩ : ∃ l, pL R4 ks = l := ⟨_, rfl⟩
          have bor3 := pL_le R4 ks
          rw [hor3] at bor3
          have Sor3 : Kp (∀ x ∈ or3, x.size ≤ 9223372036854775807) := ⟨fun x hx => Sks.out x (pL_mem R4 _ x (by rw [hor3]; exact hx))⟩
          obtain ⟨nr3, hnr3⟩ : ∃ l, pL R4 ls = l := ⟨_, rfl⟩
          have bnr3 := pL_le R4 ls
          rw [hnr3] at bnr3
          have Snr3 : Kp (∀ x ∈ nr3, x.size ≤ 9223372036854775807) := ⟨fun x hx => Sls.out x (pL_mem R4 _ x (by rw [hnr3]; exact hx))⟩
          have KhR4 := Kp.mk hR4
          have Khi4 := Kp.mk hi4
          have KhPq3 := Kp.mk hPq3
          have Khoq3 := Kp.mk hoq3
          have Khnq3 := Kp.mk hnq3
          have KhPr3 := Kp.mk hPr3
          have Khor3 := Kp.mk hor3
          have Khnr3 := Kp.mk hnr3
          obtain ⟨R5, hR5⟩ : ∃ R, passX p xs ys Pr3 or3 nr3 = R := ⟨_, rfl⟩
          obtain ⟨i5, hi5⟩ : ∃ b, R5.isSome = b := ⟨_, rfl⟩
          obtain ⟨Pp3, hPp3⟩ : ∃ X, pX R5 p = X := ⟨_, rfl⟩
          obtain ⟨op3, hop3⟩ : ∃ l, pL R5 xs = l := ⟨_, rfl⟩
          have bop3 := pL_le R5 xs
          rw [hop3] at bop3
          have Sop3 : Kp (∀ x ∈ op3, x.size ≤ 9223372036854775807) := ⟨fun x hx => Sxs.out x (pL_mem R5 _ x (by rw [hop3]; exact hx))⟩
          obtain ⟨np3, hnp3⟩ : ∃ l, pL R5 ys = l := ⟨_, rfl⟩
          have bnp3 := pL_le R5 ys
          rw [hnp3] at bnp3
          have Snp3 : Kp (∀ x ∈ np3, x.size ≤ 9223372036854775807) := ⟨fun x hx => Sys.out x (pL_mem R5 _ x (by rw [hnp3]; exact hx))⟩
          obtain ⟨Pr4, hPr4⟩ : ∃ X, pY R5 Pr3 = X := ⟨_, rfl⟩
          obtain ⟨or4, hor4⟩ : ∃ l, pL R5 or3 = l := ⟨_, rfl⟩
          have bor4 := pL_le R5 or3
          rw [hor4] at bor4
          have Sor4 : Kp (∀ x ∈ or4, x.size ≤ 9223372036854775807) := ⟨fun x hx => Sor3.out x (pL_mem R5 _ x (by rw [hor4]; exact hx))⟩
          obtain ⟨nr4, hnr4⟩ : ∃ l, pL R5 nr3 = l := ⟨_, rfl⟩
          have bnr4 := pL_le R5 nr3
          rw [hnr4] at bnr4
          have Snr4 : Kp (∀ x ∈ nr4, x.size ≤ 9223372036854775807) := ⟨fun x hx => Snr3.out x (pL_mem R5 _ x (by rw [hnr4]; exact hx))⟩
          have KhR5 := Kp.mk hR5
          have Khi5 := Kp.mk hi5
          have KhPp3 := Kp.mk hPp3
          have Khop3 := Kp.mk hop3
          have Khnp3 := Kp.mk hnp3
          have KhPr4 := Kp.mk hPr4
          have Khor4 := Kp.mk hor4
          have Khnr4 := Kp.mk hnr4
          obtain ⟨R6, hR6⟩ : ∃ R, passX Pp3 op3 np3 Pq3 oq3 nq3 = R := ⟨_, rfl⟩
          obtain ⟨i6, hi6⟩ : ∃ b, R6.isSome = b := ⟨_, rfl⟩
          obtain ⟨Pp4, hPp4⟩ : ∃ X, pX R6 Pp3 = X := ⟨_, rfl⟩
          obtain ⟨op4, hop4⟩ : ∃ l, pL R6 op3 = l := ⟨_, rfl⟩
          have bop4 := pL_le R6 op3
          rw [hop4] at bop4
          have Sop4 : Kp (∀ x ∈ op4, x.size ≤ 9223372036854775807) := ⟨fun x hx => Sop3.out x (pL_mem R6 _ x (by rw [hop4]; exact hx))⟩
          obtain ⟨np4, hnp4⟩ : ∃ l, pL R6 np3 = l := ⟨_, rfl⟩
          have bnp4 := pL_le R6 np3
          rw [hnp4] at bnp4
          have Snp4 : Kp (∀ x ∈ np4, x.size ≤ 9223372036854775807) := ⟨fun x hx => Snp3.out x (pL_mem R6 _ x (by rw [hnp4]; exact hx))⟩
          obtain ⟨Pq4, hPq4⟩ : ∃ X, pY R6 Pq3 = X := ⟨_, rfl⟩
          obtain ⟨oq4, hoq4⟩ : ∃ l, pL R6 oq3 = l := ⟨_, rfl⟩
          have boq4 := pL_le R6 oq3
          rw [hoq4] at boq4
          have Soq4 : Kp (∀ x ∈ oq4, x.size ≤ 9223372036854775807) := ⟨fun x hx => Soq3.out x (pL_mem R6 _ x (by rw [hoq4]; exact hx))⟩
          obtain ⟨nq4, hnq4⟩ : ∃ l, pL R6 nq3 = l := ⟨_, rfl⟩
          have bnq4 := pL_le R6 nq3
          rw [hnq4] at bnq4
          have Snq4 : Kp (∀ x ∈ nq4, x.size ≤ 9223372036854775807) := ⟨fun x hx => Snq3.out x (pL_mem R6 _ x (by rw [hnq4]; exact hx))⟩
          have KhR6 := Kp.mk hR6
          have Khi6 := Kp.mk hi6
          have KhPp4 := Kp.mk hPp4
          have Khop4 := Kp.mk hop4
          have Khnp4 := Kp.mk hnp4
          have KhPq4 := Kp.mk hPq4
          have Khoq4 := Kp.mk hoq4
          have Khnq4 := Kp.mk hnq4
          have HBB : Kp ((i1 = false) ∨ (i1 = true ∧ i2 = false) ∨ (i1 = true ∧ i2 = true ∧ i3 = false) ∨ (i1 = true ∧ i2 = true ∧ i3 = true ∧ i4 = false) ∨ (i1 = true ∧ i2 = true ∧ i3 = true ∧ i4 = true ∧ i5 = false) ∨ (i1 = true ∧ i2 = true ∧ i3 = true ∧ i4 = true ∧ i5 = true ∧ i6 = false) ∨ (i1 = true ∧ i2 = true ∧ i3 = true ∧ i4 = true ∧ i5 = true ∧ i6 = true)) := ⟨by clear hR1 hi1 hPp1 hop1 hnp1 hPq1 hoq1 hnq1 hR2 hi2 hPp2 hop2 hnp2 hPr1 hor1 hnr1 hR3 hi3 hPq2 hoq2 hnq2 hPr2 hor2 hnr2 hR4 hi4 hPq3 hoq3 hnq3 hPr3 hor3 hnr3 hR5 hi5 hPp3 hop3 hnp3 hPr4 hor4 hnr4 hR6 hi6 hPp4 hop4 hnp4 hPq4 hoq4 hnq4 KhR1 Khi1 KhPp1 Khop1 Khnp1 KhPq1 Khoq1 Khnq1 KhR2 Khi2 KhPp2 Khop2 Khnp2 KhPr1 Khor1 Khnr1 KhR3 Khi3 KhPq2 Khoq2 Khnq2 KhPr2 Khor2 Khnr2 KhR4 Khi4 KhPq3 Khoq3 Khnq3 KhPr3 Khor3 Khnr3 KhR5 Khi5 KhPp3 Khop3 Khnp3 KhPr4 Khor4 Khnr4 KhR6 Khi6 KhPp4 Khop4 Khnp4 KhPq4 Khoq4 Khnq4; cases i1 <;> cases i2 <;> cases i3 <;> cases i4 <;> cases i5 <;> cases i6 <;> simp⟩
          have G1 : Kp (i1 = true → i2 = true → i3 = true → i4 = true → i5 = true → i6 = true → hSame Pr2 Pr4 or2 nr2 or4 nr4 = true) := ⟨by
            intro t1 t2 t3 t4 t5 t6
            rw [t1] at hi1
            rw [t2] at hi2
            rw [t3] at hi3
            rw [t4] at hi4
            rw [t5] at hi5
            rw [t6] at hi6
            obtain ⟨z1, ez1⟩ := Option.isSome_iff_exists.1 hi1
            obtain ⟨z2, ez2⟩ := Option.isSome_iff_exists.1 hi2
            obtain ⟨z3, ez3⟩ := Option.isSome_iff_exists.1 hi3
            obtain ⟨z4, ez4⟩ := Option.isSome_iff_exists.1 hi4
            obtain ⟨z5, ez5⟩ := Option.isSome_iff_exists.1 hi5
            obtain ⟨z6, ez6⟩ := Option.isSome_iff_exists.1 hi6
            subst ez1 ez2 ez3 ez4 ez5 ez6
            simp only [pX, pY, pL] at hPp1 hop1 hnp1 hPq1 hoq1 hnq1 hPp2 hop2 hnp2 hPr1 hor1 hnr1 hPq2 hoq2 hnq2 hPr2 hor2 hnr2 hPq3 hoq3 hnq3 hPr3 hor3 hnr3 hPp3 hop3 hnp3 hPr4 hor4 hnr4 hPp4 hop4 hnp4 hPq4 hoq4 hnq4
            subst hPp1 hop1 hnp1 hPq1 hoq1 hnq1 hPp2 hop2 hnp2 hPr1 hor1 hnr1 hPq2 hoq2 hnq2 hPr2 hor2 hnr2 hPq3 hoq3 hnq3 hPr3 hor3 hnr3 hPp3 hop3 hnp3 hPr4 hor4 hnr4 hPp4 hop4 hnp4 hPq4 hoq4 hnq4
            obtain ⟨t1, t2, t3⟩ := passX_three hR1 hR2 hR3 hR4 hR5 hR6
            rw [t1]
            exact hSame_refl _ _ _⟩
          have G2 : Kp (i1 = true → i2 = true → i3 = true → i4 = true → i5 = true → i6 = true → hSame Pq2 Pq4 oq2 nq2 oq4 nq4 = true) := ⟨by
            intro t1 t2 t3 t4 t5 t6
            rw [t1] at hi1
            rw [t2] at hi2
            rw [t3] at hi3
            rw [t4] at hi4
            rw [t5] at hi5
            rw [t6] at hi6
            obtain ⟨z1, ez1⟩ := Option.isSome_iff_exists.1 hi1
            obtain ⟨z2, ez2⟩ := Option.isSome_iff_exists.1 hi2
            obtain ⟨z3, ez3⟩ := Option.isSome_iff_exists.1 hi3
            obtain ⟨z4, ez4⟩ := Option.isSome_iff_exists.1 hi4
            obtain ⟨z5, ez5⟩ := Option.isSome_iff_exists.1 hi5
            obtain ⟨z6, ez6⟩ := Option.isSome_iff_exists.1 hi6
            subst ez1 ez2 ez3 ez4 ez5 ez6
            simp only [pX, pY, pL] at hPp1 hop1 hnp1 hPq1 hoq1 hnq1 hPp2 hop2 hnp2 hPr1 hor1 hnr1 hPq2 hoq2 hnq2 hPr2 hor2 hnr2 hPq3 hoq3 hnq3 hPr3 hor3 hnr3 hPp3 hop3 hnp3 hPr4 hor4 hnr4 hPp4 hop4 hnp4 hPq4 hoq4 hnq4
            subst hPp1 hop1 hnp1 hPq1 hoq1 hnq1 hPp2 hop2 hnp2 hPr1 hor1 hnr1 hPq2 hoq2 hnq2 hPr2 hor2 hnr2 hPq3 hoq3 hnq3 hPr3 hor3 hnr3 hPp3 hop3 hnp3 hPr4 hor4 hnr4 hPp4 hop4 hnp4 hPq4 hoq4 hnq4
            obtain ⟨t1, t2, t3⟩ := passX_three hR1 hR2 hR3 hR4 hR5 hR6
            rw [t2]
            exact hSame_refl _ _ _⟩
          have G3 : Kp (i1 = true → i2 = true → i3 = true → i4 = true → i5 = true → i6 = true → hSame Pp2 Pp4 op2 np2 op4 np4 = true) := ⟨by
            intro t1 t2 t3 t4 t5 t6
            rw [t1] at hi1
            rw [t2] at hi2
            rw [t3] at hi3
            rw [t4] at hi4
            rw [t5] at hi5
            rw [t6] at hi6
            obtain ⟨z1, ez1⟩ := Option.isSome_iff_exists.1 hi1
            obtain ⟨z2, ez2⟩ := Option.isSome_iff_exists.1 hi2
            obtain ⟨z3, ez3⟩ := Option.isSome_iff_exists.1 hi3
            obtain ⟨z4, ez4⟩ := Option.isSome_iff_exists.1 hi4
            obtain ⟨z5, ez5⟩ := Option.isSome_iff_exists.1 hi5
            obtain ⟨z6, ez6⟩ := Option.isSome_iff_exists.1 hi6
            subst ez1 ez2 ez3 ez4 ez5 ez6
            simp only [pX, pY, pL] at hPp1 hop1 hnp1 hPq1 hoq1 hnq1 hPp2 hop2 hnp2 hPr1 hor1 hnr1 hPq2 hoq2 hnq2 hPr2 hor2 hnr2 hPq3 hoq3 hnq3 hPr3 hor3 hnr3 hPp3 hop3 hnp3 hPr4 hor4 hnr4 hPp4 hop4 hnp4 hPq4 hoq4 hnq4
            subst hPp1 hop1 hnp1 hPq1 hoq1 hnq1 hPp2 hop2 hnp2 hPr1 hor1 hnr1 hPq2 hoq2 hnq2 hPr2 hor2 hnr2 hPq3 hoq3 hnq3 hPr3 hor3 hnr3 hPp3 hop3 hnp3 hPr4 hor4 hnr4 hPp4 hop4 hnp4 hPq4 hoq4 hnq4
            obtain ⟨t1, t2, t3⟩ := passX_three hR1 hR2 hR3 hR4 hR5 hR6
            rw [t3]
            exact hSame_refl _ _ _⟩
          have T1 : True := trivial
          have T2 : True := trivial
          have T3 : True := trivial
          have T4 : True := trivial
          have T5 : True := trivial
          have T6 : True := trivial
          clear hR1 hi1 hPp1 hop1 hnp1 hPq1 hoq1 hnq1 hR2 hi2 hPp2 hop2 hnp2 hPr1 hor1 hnr1 hR3 hi3 hPq2 hoq2 hnq2 hPr2 hor2 hnr2 hR4 hi4 hPq3 hoq3 hnq3 hPr3 hor3 hnr3 hR5 hi5 hPp3 hop3 hnp3 hPr4 hor4 hnr4 hR6 hi6 hPp4 hop4 hnp4 hPq4 hoq4 hnq4
          go_enter Try.func7, Try.ntmps7
          go_wp2_with (first
            | (with_reducible show wpList _ _ _ ({ dst := _, op := .box 24 _, type := _, pos := _, after := _, guard := none } :: _) _ _; refine wpList_hk_box rfl _ rfl _ _ _ rfl S ?_; clear S; intro g w1 S)
            | (with_reducible show wpList _ _ _ ({ dst := _, op := .load 24 _, type := _, pos := _, after := _, guard := none } :: _) _ _; refine wpList_hk_load rfl _ rfl _ rfl S _ _ _ _ _ (by first | exact ix0 | exact ix1 | exact ix2 | exact ix3 | exact ix4 | exact ix5 | exact ix6 | exact ix7 | exact ix8 | exact ix9 | exact ix10 | exact ix11 | exact ix12 | exact ix13 | exact ix14 | exact ix15) ?_)
            | (with_reducible show wpList _ _ _ ({ dst := _, op := .load 24 _, type := _, pos := _, after := _, guard := some _ } :: _) _ _; refine wpList_hk_loadg rfl _ rfl _ rfl S _ _ _ _ _ (by first | exact ix0 | exact ix1 | exact ix2 | exact ix3 | exact ix4 | exact ix5 | exact ix6 | exact ix7 | exact ix8 | exact ix9 | exact ix10 | exact ix11 | exact ix12 | exact ix13 | exact ix14 | exact ix15) ?_)
            | (with_reducible show wpList _ _ _ ({ dst := _, op := .alloc 24, type := _, pos := _, after := _, guard := none } :: _) _ _; refine wpList_hk_alloc rfl rfl S ?_; clear S; intro g w1 S)
            | (with_reducible show wpList _ _ _ ({ dst := _, op := .store 24 _ _, type := _, pos := _, after := _, guard := none } :: _) _ _; refine wpList_hk_store rfl _ _ rfl _ rfl _ _ _ rfl S _ _ _ _ _ (by first | exact ix0 | exact ix1 | exact ix2 | exact ix3 | exact ix4 | exact ix5 | exact ix6 | exact ix7 | exact ix8 | exact ix9 | exact ix10 | exact ix11 | exact ix12 | exact ix13 | exact ix14 | exact ix15) rfl rfl rfl ?_; clear S; intro w1 S; simp only [List.set] at S)
            | (go_at_call 10; refine (awake6_any _).mono ?_; rintro e w1 ⟨rfl, hb⟩; replace S := S.call hb; clear hb)
            | (go_at_call_of 11 p; refine (light5_any p xs ys _ _ _ _ _ (S.ln mm5) (S.ln mm4)).mono ?_; rintro e w1 ⟨rfl, hb⟩; rw [Lp.out]; replace S := S.call hb; clear hb)
            | (go_at_call_of 11 q; refine (light5_any q us vs _ _ _ _ _ (S.ln mm3) (S.ln mm2)).mono ?_; rintro e w1 ⟨rfl, hb⟩; rw [Lq.out]; replace S := S.call hb; clear hb)
            | (go_at_call_of 11 r; refine (light5_any r ks ls _ _ _ _ _ (S.ln mm1) (S.ln mm0)).mono ?_; rintro e w1 ⟨rfl, hb⟩; rw [Lr.out]; replace S := S.call hb; clear hb; have k0 := (S.hk ix2).c0; have k1 := (S.hk ix1).c0; have k2 := (S.hk ix0).c0)
            | (go_at_call 12; have _t := T1; refine (Pass_gen _ _ _ _ _ _ R1 _ _ _ _ _ _ _ _ _ _ _ _ _ _ _ _ KhR1.out KhPp1.out KhPq1.out Khop1.out Khnp1.out Khoq1.out Khnq1.out Khi1.out (S.ln mm5) (S.ln mm4) (S.ln mm3) (S.ln mm2) (by omega) (by omega) (by omega) (by omega) Sxs.out Sys.out Sus.out Svs.out).mono ?_; rintro e w1 ⟨C1, e1, D1, e2, A1, e3, B1, e4, rfl, h1, h2, h3, h4, hb⟩; replace S := ((((S.call hb).add0 h1).add0 h2).add0 h3).add0 h4; clear hb h1 h2 h3 h4 T1 _t)
            | (go_at_call 12; have _t := T2; refine (Pass_gen _ _ _ _ _ _ R2 _ _ _ _ _ _ _ _ _ _ _ _ _ _ _ _ KhR2.out KhPp2.out KhPr1.out Khop2.out Khnp2.out Khor1.out Khnr1.out Khi2.out (S.ln mm1) (S.ln mm0) (S.ln mm5) (S.ln mm4) (by omega) (by omega) (by omega) (by omega) Sop1.out Snp1.out Sks.out Sls.out).mono ?_; rintro e w1 ⟨C2, e1, D2, e2, A2, e3, B2, e4, rfl, h1, h2, h3, h4, hb⟩; replace S := ((((S.call hb).add0 h1).add0 h2).add0 h3).add0 h4; clear hb h1 h2 h3 h4 T2 _t)
            | (go_at_call 12; have _t := T3; refine (Pass_gen _ _ _ _ _ _ R3 _ _ _ _ _ _ _ _ _ _ _ _ _ _ _ _ KhR3.out KhPq2.out KhPr2.out Khoq2.out Khnq2.out Khor2.out Khnr2.out Khi3.out (S.ln mm7) (S.ln mm6) (S.ln mm3) (S.ln mm2) (by omega) (by omega) (by omega) (by omega) Soq1.out Snq1.out Sor1.out Snr1.out).mono ?_; rintro e w1 ⟨C3, e1, D3, e2, A3, e3, B3, e4, rfl, h1, h2, h3, h4, hb⟩; replace S := ((((S.call hb).add0 h1).add0 h2).add0 h3).add0 h4; clear hb h1 h2 h3 h4 T3 _t)
            | (go_at_call 12; have _t := T4; refine (Pass_gen _ _ _ _ _ _ R4 _ _ _ _ _ _ _ _ _ _ _ _ _ _ _ _ KhR4.out KhPq3.out KhPr3.out Khoq3.out Khnq3.out Khor3.out Khnr3.out Khi4.out (S.ln mm15) (S.ln mm14) (S.ln mm13) (S.ln mm12) (by omega) (by omega) (by omega) (by omega) Sus.out Svs.out Sks.out Sls.out).mono ?_; rintro e w1 ⟨C4, e1, D4, e2, A4, e3, B4, e4, rfl, h1, h2, h3, h4, hb⟩; replace S := ((((S.call hb).add0 h1).add0 h2).add0 h3).add0 h4; clear hb h1 h2 h3 h4 T4 _t)
            | (go_at_call 12; have _t := T5; refine (Pass_gen _ _ _ _ _ _ R5 _ _ _ _ _ _ _ _ _ _ _ _ _ _ _ _ KhR5.out KhPp3.out KhPr4.out Khop3.out Khnp3.out Khor4.out Khnr4.out Khi5.out (S.ln mm21) (S.ln mm20) (S.ln mm3) (S.ln mm2) (by omega) (by omega) (by omega) (by omega) Sxs.out Sys.out Sor3.out Snr3.out).mono ?_; rintro e w1 ⟨C5, e1, D5, e2, A5, e3, B5, e4, rfl, h1, h2, h3, h4, hb⟩; replace S := ((((S.call hb).add0 h1).add0 h2).add0 h3).add0 h4; clear hb h1 h2 h3 h4 T5 _t)
            | (go_at_call 12; have _t := T6; refine (Pass_gen _ _ _ _ _ _ R6 _ _ _ _ _ _ _ _ _ _ _ _ _ _ _ _ KhR6.out KhPp4.out KhPq4.out Khop4.out Khnp4.out Khoq4.out Khnq4.out Khi6.out (S.ln mm1) (S.ln mm0) (S.ln mm5) (S.ln mm4) (by omega) (by omega) (by omega) (by omega) Sop3.out Snp3.out Soq3.out Snq3.out).mono ?_; rintro e w1 ⟨C6, e1, D6, e2, A6, e3, B6, e4, rfl, h1, h2, h3, h4, hb⟩; replace S := ((((S.call hb).add0 h1).add0 h2).add0 h3).add0 h4; clear hb h1 h2 h3 h4 T6 _t; rcases HBB.out with rfl | ⟨rfl, rfl⟩ | ⟨rfl, rfl, rfl⟩ | ⟨rfl, rfl, rfl, rfl⟩ | ⟨rfl, rfl, rfl, rfl, rfl⟩ | ⟨rfl, rfl, rfl, rfl, rfl, rfl⟩ | ⟨rfl, rfl, rfl, rfl, rfl, rfl⟩)
            | (go_at_call_of 15 Pr2; refine (hsame_any _ _ _ _ _ _ _ _ _ _ _ _ _ _ _ _ _ _ _ rfl rfl rfl rfl (S.ln mm15) (S.ln mm14) (S.ln mm7) (S.ln mm6) (by omega) (by omega)).mono ?_; rintro e w1 ⟨rfl, hb⟩; rw [G1.out (by trivial) (by trivial) (by trivial) (by trivial) (by trivial) (by trivial)]; replace S := S.call hb; clear hb)
            | (go_at_call_of 15 Pq2; refine (hsame_any _ _ _ _ _ _ _ _ _ _ _ _ _ _ _ _ _ _ _ rfl rfl rfl rfl (S.ln mm13) (S.ln mm12) (S.ln mm3) (S.ln mm2) (by omega) (by omega)).mono ?_; rintro e w1 ⟨rfl, hb⟩; rw [G2.out (by trivial) (by trivial) (by trivial) (by trivial) (by trivial) (by trivial)]; replace S := S.call hb; clear hb)
            | (go_at_call_of 15 Pp2; refine (hsame_any _ _ _ _ _ _ _ _ _ _ _ _ _ _ _ _ _ _ _ rfl rfl rfl rfl (S.ln mm17) (S.ln mm16) (S.ln mm1) (S.ln mm0) (by omega) (by omega)).mono ?_; rintro e w1 ⟨rfl, hb⟩; rw [G3.out (by trivial) (by trivial) (by trivial) (by trivial) (by trivial) (by trivial)]; replace S := S.call hb; clear hb))
          all_goals
            go_ret
            exact ⟨rfl, S.below⟩
        · go_enter Try.func7, Try.ntmps7
          go_wp2_with (first
            | (with_reducible show wpList _ _ _ ({ dst := _, op := .box 24 _, type := _, pos := _, after := _, guard := none } :: _) _ _; refine wpList_hk_box rfl _ rfl _ _ _ rfl S ?_; clear S; intro g w1 S)
            | (with_reducible show wpList _ _ _ ({ dst := _, op := .load 24 _, type := _, pos := _, after := _, guard := none } :: _) _ _; refine wpList_hk_load rfl _ rfl _ rfl S _ _ _ _ _ (by first | exact ix0 | exact ix1 | exact ix2 | exact ix3 | exact ix4 | exact ix5 | exact ix6 | exact ix7 | exact ix8 | exact ix9 | exact ix10 | exact ix11 | exact ix12 | exact ix13 | exact ix14 | exact ix15) ?_)
            | (with_reducible show wpList _ _ _ ({ dst := _, op := .load 24 _, type := _, pos := _, after := _, guard := some _ } :: _) _ _; refine wpList_hk_loadg rfl _ rfl _ rfl S _ _ _ _ _ (by first | exact ix0 | exact ix1 | exact ix2 | exact ix3 | exact ix4 | exact ix5 | exact ix6 | exact ix7 | exact ix8 | exact ix9 | exact ix10 | exact ix11 | exact ix12 | exact ix13 | exact ix14 | exact ix15) ?_)
            | (with_reducible show wpList _ _ _ ({ dst := _, op := .alloc 24, type := _, pos := _, after := _, guard := none } :: _) _ _; refine wpList_hk_alloc rfl rfl S ?_; clear S; intro g w1 S)
            | (with_reducible show wpList _ _ _ ({ dst := _, op := .store 24 _ _, type := _, pos := _, after := _, guard := none } :: _) _ _; refine wpList_hk_store rfl _ _ rfl _ rfl _ _ _ rfl S _ _ _ _ _ (by first | exact ix0 | exact ix1 | exact ix2 | exact ix3 | exact ix4 | exact ix5 | exact ix6 | exact ix7 | exact ix8 | exact ix9 | exact ix10 | exact ix11 | exact ix12 | exact ix13 | exact ix14 | exact ix15) rfl rfl rfl ?_; clear S; intro w1 S; simp only [List.set] at S)
            | (go_at_call 10; refine (awake6_any _).mono ?_; rintro e w1 ⟨rfl, hb⟩; replace S := S.call hb; clear hb)
            | (go_at_call_of 11 p; refine (light5_any p xs ys _ _ _ _ _ (S.ln mm5) (S.ln mm4)).mono ?_; rintro e w1 ⟨rfl, hb⟩; rw [Lp.out]; replace S := S.call hb; clear hb)
            | (go_at_call_of 11 q; refine (light5_any q us vs _ _ _ _ _ (S.ln mm3) (S.ln mm2)).mono ?_; rintro e w1 ⟨rfl, hb⟩; rw [Lq.out]; replace S := S.call hb; clear hb)
            | (go_at_call_of 11 r; refine (light5_any r ks ls _ _ _ _ _ (S.ln mm1) (S.ln mm0)).mono ?_; rintro e w1 ⟨rfl, hb⟩; rw [Lr.out]; replace S := S.call hb; clear hb; have k0 := (S.hk ix2).c0; have k1 := (S.hk ix1).c0; have k2 := (S.hk ix0).c0))
          go_ret
          exact ⟨rfl, S.below⟩
      · go_enter Try.func7, Try.ntmps7
        go_wp2_with (first
          | (with_reducible show wpList _ _ _ ({ dst := _, op := .box 24 _, type := _, pos := _, after := _, guard := none } :: _) _ _; refine wpList_hk_box rfl _ rfl _ _ _ rfl S ?_; clear S; intro g w1 S)
          | (with_reducible show wpList _ _ _ ({ dst := _, op := .load 24 _, type := _, pos := _, after := _, guard := none } :: _) _ _; refine wpList_hk_load rfl _ rfl _ rfl S _ _ _ _ _ (by first | exact ix0 | exact ix1 | exact ix2 | exact ix3 | exact ix4 | exact ix5 | exact ix6 | exact ix7 | exact ix8 | exact ix9 | exact ix10 | exact ix11 | exact ix12 | exact ix13 | exact ix14 | exact ix15) ?_)
          | (with_reducible show wpList _ _ _ ({ dst := _, op := .load 24 _, type := _, pos := _, after := _, guard := some _ } :: _) _ _; refine wpList_hk_loadg rfl _ rfl _ rfl S _ _ _ _ _ (by first | exact ix0 | exact ix1 | exact ix2 | exact ix3 | exact ix4 | exact ix5 | exact ix6 | exact ix7 | exact ix8 | exact ix9 | exact ix10 | exact ix11 | exact ix12 | exact ix13 | exact ix14 | exact ix15) ?_)
          | (with_reducible show wpList _ _ _ ({ dst := _, op := .alloc 24, type := _, pos := _, after := _, guard := none } :: _) _ _; refine wpList_hk_alloc rfl rfl S ?_; clear S; intro g w1 S)
          | (with_reducible show wpList _ _ _ ({ dst := _, op := .store 24 _ _, type := _, pos := _, after := _, guard := none } :: _) _ _; refine wpList_hk_store rfl _ _ rfl _ rfl _ _ _ rfl S _ _ _ _ _ (by first | exact ix0 | exact ix1 | exact ix2 | exact ix3 | exact ix4 | exact ix5 | exact ix6 | exact ix7 | exact ix8 | exact ix9 | exact ix10 | exact ix11 | exact ix12 | exact ix13 | exact ix14 | exact ix15) rfl rfl rfl ?_; clear S; intro w1 S; simp only [List.set] at S)
          | (go_at_call 10; refine (awake6_any _).mono ?_; rintro e w1 ⟨rfl, hb⟩; replace S := S.call hb; clear hb)
          | (go_at_call_of 11 p; refine (light5_any p xs ys _ _ _ _ _ (S.ln mm5) (S.ln mm4)).mono ?_; rintro e w1 ⟨rfl, hb⟩; rw [Lp.out]; replace S := S.call hb; clear hb)
          | (go_at_call_of 11 q; refine (light5_any q us vs _ _ _ _ _ (S.ln mm3) (S.ln mm2)).mono ?_; rintro e w1 ⟨rfl, hb⟩; rw [Lq.out]; replace S := S.call hb; clear hb)
          | (go_at_call_of 11 r; refine (light5_any r ks ls _ _ _ _ _ (S.ln mm1) (S.ln mm0)).mono ?_; rintro e w1 ⟨rfl, hb⟩; rw [Lr.out]; replace S := S.call hb; clear hb; have k0 := (S.hk ix2).c0; have k1 := (S.hk ix1).c0; have k2 := (S.hk ix0).c0))
        go_ret
        exact ⟨rfl, S.below⟩
    · go_enter Try.func7, Try.ntmps7
      go_wp2_with (first
        | (with_reducible show wpList _ _ _ ({ dst := _, op := .box 24 _, type := _, pos := _, after := _, guard := none } :: _) _ _; refine wpList_hk_box rfl _ rfl _ _ _ rfl S ?_; clear S; intro g w1 S)
        | (with_reducible show wpList _ _ _ ({ dst := _, op := .load 24 _, type := _, pos := _, after := _, guard := none } :: _) _ _; refine wpList_hk_load rfl _ rfl _ rfl S _ _ _ _ _ (by first | exact ix0 | exact ix1 | exact ix2 | exact ix3 | exact ix4 | exact ix5 | exact ix6 | exact ix7 | exact ix8 | exact ix9 | exact ix10 | exact ix11 | exact ix12 | exact ix13 | exact ix14 | exact ix15) ?_)
        | (with_reducible show wpList _ _ _ ({ dst := _, op := .load 24 _, type := _, pos := _, after := _, guard := some _ } :: _) _ _; refine wpList_hk_loadg rfl _ rfl _ rfl S _ _ _ _ _ (by first | exact ix0 | exact ix1 | exact ix2 | exact ix3 | exact ix4 | exact ix5 | exact ix6 | exact ix7 | exact ix8 | exact ix9 | exact ix10 | exact ix11 | exact ix12 | exact ix13 | exact ix14 | exact ix15) ?_)
        | (with_reducible show wpList _ _ _ ({ dst := _, op := .alloc 24, type := _, pos := _, after := _, guard := none } :: _) _ _; refine wpList_hk_alloc rfl rfl S ?_; clear S; intro g w1 S)
        | (with_reducible show wpList _ _ _ ({ dst := _, op := .store 24 _ _, type := _, pos := _, after := _, guard := none } :: _) _ _; refine wpList_hk_store rfl _ _ rfl _ rfl _ _ _ rfl S _ _ _ _ _ (by first | exact ix0 | exact ix1 | exact ix2 | exact ix3 | exact ix4 | exact ix5 | exact ix6 | exact ix7 | exact ix8 | exact ix9 | exact ix10 | exact ix11 | exact ix12 | exact ix13 | exact ix14 | exact ix15) rfl rfl rfl ?_; clear S; intro w1 S; simp only [List.set] at S)
        | (go_at_call 10; refine (awake6_any _).mono ?_; rintro e w1 ⟨rfl, hb⟩; replace S := S.call hb; clear hb)
        | (go_at_call_of 11 p; refine (light5_any p xs ys _ _ _ _ _ (S.ln mm5) (S.ln mm4)).mono ?_; rintro e w1 ⟨rfl, hb⟩; rw [Lp.out]; replace S := S.call hb; clear hb)
        | (go_at_call_of 11 q; refine (light5_any q us vs _ _ _ _ _ (S.ln mm3) (S.ln mm2)).mono ?_; rintro e w1 ⟨rfl, hb⟩; rw [Lq.out]; replace S := S.call hb; clear hb)
        | (go_at_call_of 11 r; refine (light5_any r ks ls _ _ _ _ _ (S.ln mm1) (S.ln mm0)).mono ?_; rintro e w1 ⟨rfl, hb⟩; rw [Lr.out]; replace S := S.call hb; clear hb; have k0 := (S.hk ix2).c0; have k1 := (S.hk ix1).c0; have k2 := (S.hk ix0).c0))
      go_ret
      exact ⟨rfl, S.below⟩
  · have hbb : (bp = false) ∨ (bp = true ∧ bq = false) ∨ (bp = true ∧ bq = true ∧ br = false) := by
      clear S lp Lp lq Lq lr Lr
      cases bp <;> cases bq <;> cases br <;> simp_all
    clear hall lp lq lr
    rcases hbb with rfl | ⟨rfl, rfl⟩ | ⟨rfl, rfl, rfl⟩
    all_goals
      go_enter Try.func7, Try.ntmps7
      go_wp2_with (first
        | (with_reducible show wpList _ _ _ ({ dst := _, op := .box 24 _, type := _, pos := _, after := _, guard := none } :: _) _ _; refine wpList_hk_box rfl _ rfl _ _ _ rfl S ?_; clear S; intro g w1 S)
        | (with_reducible show wpList _ _ _ ({ dst := _, op := .load 24 _, type := _, pos := _, after := _, guard := none } :: _) _ _; refine wpList_hk_load rfl _ rfl _ rfl S _ _ _ _ _ (by first | exact ix0 | exact ix1 | exact ix2) ?_)
        | (go_at_call 10; refine (awake6_any _).mono ?_; rintro e w1 ⟨rfl, hb⟩; replace S := S.call hb; clear hb)
        | (go_at_call_of 11 p; refine (light5_any p xs ys _ _ _ _ _ (S.ln mm5) (S.ln mm4)).mono ?_; rintro e w1 ⟨rfl, hb⟩; rw [Lp.out]; replace S := S.call hb; clear hb)
        | (go_at_call_of 11 q; refine (light5_any q us vs _ _ _ _ _ (S.ln mm3) (S.ln mm2)).mono ?_; rintro e w1 ⟨rfl, hb⟩; rw [Lq.out]; replace S := S.call hb; clear hb)
        | (go_at_call_of 11 r; refine (light5_any r ks ls _ _ _ _ _ (S.ln mm1) (S.ln mm0)).mono ?_; rintro e w1 ⟨rfl, hb⟩; rw [Lr.out]; replace S := S.call hb; clear hb; have k0 := (S.hk ix2).c0; have k1 := (S.hk ix1).c0; have k2 := (S.hk ix0).c0))
      go_ret
      exact ⟨rfl, S.below⟩
end Go.Proofs.Ytnepgecdnhiokaa
