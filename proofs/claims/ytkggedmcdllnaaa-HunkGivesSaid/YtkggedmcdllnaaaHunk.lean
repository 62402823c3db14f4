/- Layer 5: which hunks may be, which are the same: hunk.May, hunk.Same, and the document's answer. -/
import Derived.Test.YtkggedmcdllnaaaText
import Derived.Test.YtkggedmcdllnaaaSame
import Derived.Test.YtkggedmcdllnaaaEqS
namespace Go.Proofs.Ytkggedmcdllnaaa
open Go.RowKit

/-- May a hunk be? -/
def hMay (p : Int) (xs ys : List ByteArray) : Bool := decide (0 ≤ p) && decide (p ≤ 1048576) && allOk xs && allOk ys

theorem hMay_false1 {p : Int} {xs ys : List ByteArray} (h : ¬ 0 ≤ p) : hMay p xs ys = false := by unfold hMay; rw [decide_eq_false h]; rfl
theorem hMay_false2 {p : Int} {xs ys : List ByteArray} (h : ¬ p ≤ 1048576) : hMay p xs ys = false := by unfold hMay; rw [decide_eq_false h, Bool.and_false]; rfl
theorem hMay_false3 {p : Int} {xs ys : List ByteArray} (h : allOk xs = false) : hMay p xs ys = false := by unfold hMay; rw [h, Bool.and_false]; rfl
theorem hMay_false4 {p : Int} {xs ys : List ByteArray} (h : allOk ys = false) : hMay p xs ys = false := by unfold hMay; rw [h, Bool.and_false]
theorem hMay_true {p : Int} {xs ys : List ByteArray} (h1 : 0 ≤ p) (h2 : p ≤ 1048576) (h3 : allOk xs = true) (h4 : allOk ys = true) : hMay p xs ys = true := by unfold hMay; rw [decide_eq_true h1, decide_eq_true h2, h3, h4]; rfl
theorem hMay_out {p : Int} {xs ys : List ByteArray} (h : hMay p xs ys = true) : (0 ≤ p ∧ p ≤ 1048576) ∧ allOk xs = true ∧ allOk ys = true := by
  unfold hMay at h
  simp only [Bool.and_eq_true, decide_eq_true_eq] at h
  exact ⟨⟨h.1.1.1, h.1.1.2⟩, h.1.2, h.2⟩

theorem hmay_any (p : Int) (xs ys : List ByteArray) (A B : Option Addr) (n m c d : Nat) (w : World) (hx : n = xs.length) (hy : m = ys.length) (hA : SlS w.heap.size w A xs) (hB : SlS w.heap.size w B ys)
    (hn : xs.length ≤ 100000) (hm : ys.length ≤ 100000) (hs : ∀ x ∈ xs, x.size ≤ 9223372036854775807) (ht : ∀ x ∈ ys, x.size ≤ 9223372036854775807) :
    Calls Try.prog 13 #[.agg #[.int .i64 p, .slice A n c, .slice B m d]] w fun e w' => e = .returned (.bool (hMay p xs ys)) ∧ Below w.heap.size w w' := by
  subst hx hy
  obtain ⟨o, ho⟩ : ∃ o, Obj.cells #[.int .i64 p, .slice A xs.length c, .slice B ys.length d] 24 = o := ⟨_, rfl⟩
  obtain ⟨b1, h1⟩ : ∃ b, allOk xs = b := ⟨_, rfl⟩
  obtain ⟨b2, h2⟩ : ∃ b, allOk ys = b := ⟨_, rfl⟩
  have q1 := all_any xs A _ c (w.alloc o) rfl (hA.alloc o).wide hn hs
  have q2 := all_any ys B _ d (w.alloc o) rfl (hB.alloc o).wide hm ht
  rw [h1] at q1
  rw [h2] at q2
  have HB := Kp.mk ((Below.refl _ w).alloc (Nat.le_refl _) o)
  rw [← ho] at q1 q2 HB
  have Q1 := Kp.mk q1
  have Q2 := Kp.mk q2
  have H1 := Kp.mk h1
  have H2 := Kp.mk h2
  clear hs ht h1 h2 q1 q2 ho
  by_cases hp1 : 0 ≤ p
  · by_cases hp2 : p ≤ 1048576
    · cases b1 with
      | true =>
        cases b2 with
        | true =>
          have HC := Kp.mk (hMay_true hp1 hp2 H1.out H2.out)
          go_enter Try.func13, Try.ntmps13
          go_wp2_with (first
            | (go_at_call_of 27 A; refine Q1.out.mono ?_; rintro e w1 ⟨rfl, rfl⟩)
            | (go_at_call_of 27 B; refine Q2.out.mono ?_; rintro e w1 ⟨rfl, rfl⟩))
          go_ret
          exact ⟨ret_bool (by rw [HC.out]), HB.out⟩
        | false =>
          have HC := Kp.mk (hMay_false4 (p := p) (xs := xs) H2.out)
          go_enter Try.func13, Try.ntmps13
          go_wp2_with (first
            | (go_at_call_of 27 A; refine Q1.out.mono ?_; rintro e w1 ⟨rfl, rfl⟩)
            | (go_at_call_of 27 B; refine Q2.out.mono ?_; rintro e w1 ⟨rfl, rfl⟩))
          go_ret
          exact ⟨ret_bool (by rw [HC.out]), HB.out⟩
      | false =>
        have HC := Kp.mk (hMay_false3 (p := p) (ys := ys) H1.out)
        go_enter Try.func13, Try.ntmps13
        go_wp2_with (first
          | (go_at_call_of 27 A; refine Q1.out.mono ?_; rintro e w1 ⟨rfl, rfl⟩)
          | (go_at_call_of 27 B; refine Q2.out.mono ?_; rintro e w1 ⟨rfl, rfl⟩))
        go_ret
        exact ⟨ret_bool (by rw [HC.out]), HB.out⟩
    · have HC := Kp.mk (hMay_false2 (xs := xs) (ys := ys) hp2)
      go_enter Try.func13, Try.ntmps13
      go_wp2
      go_ret
      exact ⟨ret_bool (by rw [HC.out]), HB.out⟩
  · have HC := Kp.mk (hMay_false1 (xs := xs) (ys := ys) hp1)
    go_enter Try.func13, Try.ntmps13
    go_wp2
    go_ret
    exact ⟨ret_bool (by rw [HC.out]), HB.out⟩

theorem rhmay_any (p : Int) (xs ys : List ByteArray) (A B : Option Addr) (n m c d : Nat) (w : World) (hx : n = xs.length) (hy : m = ys.length) (hA : SlS w.heap.size w A xs) (hB : SlS w.heap.size w B ys)
    (hn : xs.length ≤ 100000) (hm : ys.length ≤ 100000) (hs : ∀ x ∈ xs, x.size ≤ 9223372036854775807) (ht : ∀ x ∈ ys, x.size ≤ 9223372036854775807) :
    Calls Try.prog 24 #[.agg #[.int .i64 p, .slice A n c, .slice B m d]] w fun e w' => e = .returned (.bool (hMay p xs ys)) ∧ Below w.heap.size w w' := by
  subst hx hy
  obtain ⟨o, ho⟩ : ∃ o, Obj.cells #[.int .i64 p, .slice A xs.length c, .slice B ys.length d] 24 = o := ⟨_, rfl⟩
  obtain ⟨b1, h1⟩ : ∃ b, allOk xs = b := ⟨_, rfl⟩
  obtain ⟨b2, h2⟩ : ∃ b, allOk ys = b := ⟨_, rfl⟩
  have q1 := refAll_any xs A _ c (w.alloc o) rfl (hA.alloc o).wide hn hs
  have q2 := refAll_any ys B _ d (w.alloc o) rfl (hB.alloc o).wide hm ht
  rw [h1] at q1
  rw [h2] at q2
  have HB := Kp.mk ((Below.refl _ w).alloc (Nat.le_refl _) o)
  rw [← ho] at q1 q2 HB
  have Q1 := Kp.mk q1
  have Q2 := Kp.mk q2
  have H1 := Kp.mk h1
  have H2 := Kp.mk h2
  have HC : Kp (hMay p xs ys = (b1 && b2 && decide (0 ≤ p) && decide (p ≤ 1048576))) := ⟨by
    unfold hMay
    rw [H1.out, H2.out]
    cases b1 <;> cases b2 <;> simp⟩
  clear hs ht h1 h2 q1 q2 ho
  by_cases hp1 : 0 ≤ p
  · by_cases hp2 : p ≤ 1048576
    · cases b1 <;> cases b2
      all_goals
        go_enter Try.func24, Try.ntmps24
        go_wp2_with (first
          | (go_at_call_of 16 A; refine Q1.out.mono ?_; rintro e w1 ⟨rfl, rfl⟩)
          | (go_at_call_of 16 B; refine Q2.out.mono ?_; rintro e w1 ⟨rfl, rfl⟩))
        go_ret
        exact ⟨ret_bool (by rw [HC.out]; simp [hp1, hp2]), HB.out⟩
    · cases b1 <;> cases b2
      all_goals
        go_enter Try.func24, Try.ntmps24
        go_wp2_with (first
          | (go_at_call_of 16 A; refine Q1.out.mono ?_; rintro e w1 ⟨rfl, rfl⟩)
          | (go_at_call_of 16 B; refine Q2.out.mono ?_; rintro e w1 ⟨rfl, rfl⟩))
        go_ret
        exact ⟨ret_bool (by rw [HC.out]; simp <;> omega), HB.out⟩
  · cases b1 <;> cases b2
    all_goals
      go_enter Try.func24, Try.ntmps24
      go_wp2_with (first
        | (go_at_call_of 16 A; refine Q1.out.mono ?_; rintro e w1 ⟨rfl, rfl⟩)
        | (go_at_call_of 16 B; refine Q2.out.mono ?_; rintro e w1 ⟨rfl, rfl⟩))
      go_ret
      exact ⟨ret_bool (by rw [HC.out]; simp <;> omega), HB.out⟩

/-- Are two hunks the same? -/
def hSame (p q : Int) (xs ys us vs : List ByteArray) : Bool := decide (p = q) && decide (xs = us) && decide (ys = vs)
theorem hSame_refl (p : Int) (xs ys : List ByteArray) : hSame p p xs ys xs ys = true := by simp [hSame]
theorem hsame_any (p q : Int) (xs ys us vs : List ByteArray) (A B C D : Option Addr) (n m n' m' c d c' d' : Nat) (w : World) (hx : n = xs.length) (hy : m = ys.length) (hu : n' = us.length) (hv : m' = vs.length)
    (hA : SlS w.heap.size w A xs) (hB : SlS w.heap.size w B ys) (hC : SlS w.heap.size w C us) (hD : SlS w.heap.size w D vs) (hn : xs.length ≤ 100000) (hm : ys.length ≤ 100000) :
    Calls Try.prog 11 #[.agg #[.int .i64 p, .slice A n c, .slice B m d], .agg #[.int .i64 q, .slice C n' c', .slice D m' d']] w fun e w' => e = .returned (.bool (hSame p q xs ys us vs)) ∧ Below w.heap.size w w' := by
  subst hx hy hu hv
  obtain ⟨o1, ho1⟩ : ∃ o, Obj.cells #[.int .i64 p, .slice A xs.length c, .slice B ys.length d] 24 = o := ⟨_, rfl⟩
  obtain ⟨o2, ho2⟩ : ∃ o, Obj.cells #[.int .i64 q, .slice C us.length c', .slice D vs.length d'] 24 = o := ⟨_, rfl⟩
  obtain ⟨b1, h1⟩ : ∃ b, decide (xs = us) = b := ⟨_, rfl⟩
  obtain ⟨b2, h2⟩ : ∃ b, decide (ys = vs) = b := ⟨_, rfl⟩
  have hB2 : Below w.heap.size w ((w.alloc o1).alloc o2) := ((Below.refl _ w).alloc (Nat.le_refl _) o1).alloc (by simp only [World.size_alloc]; omega) o2
  have HB := Kp.mk hB2
  have q1 : ∀ k, Calls Try.prog 25 #[.slice A xs.length c, .slice C us.length c'] (((w.alloc o1).alloc o2).drewN k) fun e w' => e = .returned (.bool b1) ∧ ∃ j, w' = ((w.alloc o1).alloc o2).drewN j := fun k =>
    (equalS_at_q xs us A C _ _ c c' b1 (((w.alloc o1).alloc o2).drewN k) rfl rfl h1 ((hA.later hB2).drewN k) ((hC.later hB2).drewN k) hn).mono fun e w' ⟨h, j, hj⟩ => ⟨h, k + j, by rw [hj, World.drewN_drewN]⟩
  have q2 : ∀ k, Calls Try.prog 25 #[.slice B ys.length d, .slice D vs.length d'] (((w.alloc o1).alloc o2).drewN k) fun e w' => e = .returned (.bool b2) ∧ ∃ j, w' = ((w.alloc o1).alloc o2).drewN j := fun k =>
    (equalS_at_q ys vs B D _ _ d d' b2 (((w.alloc o1).alloc o2).drewN k) rfl rfl h2 ((hB.later hB2).drewN k) ((hD.later hB2).drewN k) hm).mono fun e w' ⟨h, j, hj⟩ => ⟨h, k + j, by rw [hj, World.drewN_drewN]⟩
  rw [← ho1, ← ho2] at q1 q2 HB
  have Q0 := Kp.mk (q1 0)
  have Q1 := Kp.mk q1
  have Q2 := Kp.mk q2
  have HC : Kp (hSame p q xs ys us vs = (decide (p = q) && b1 && b2)) := ⟨by unfold hSame; rw [h1, h2]⟩
  clear h1 h2 q1 q2 ho1 ho2 hB2
  by_cases hp : p = q
  · have d1 : (p == q) = true := beq_iff_eq.2 hp
    have HP := Kp.mk hp
    clear hp
    cases b1 <;> cases b2
    all_goals
      go_enter Try.func11, Try.ntmps11
      go_wp2_with (first
        | (go_at_call_of 25 A; refine (Q1.out 0).mono ?_; rintro e w1 ⟨rfl, j1, rfl⟩)
        | (go_at_call_of 25 B; refine (Q2.out _).mono ?_; rintro e w1 ⟨rfl, j2, rfl⟩))
      go_ret
      exact ⟨ret_bool (by rw [HC.out]; simp [HP.out]), below_drewN HB.out _⟩
  · have d1 : (p == q) = false := beq_eq_false_iff_ne.2 hp
    have HP := Kp.mk hp
    clear hp
    go_enter Try.func11, Try.ntmps11
    go_wp2
    go_ret
    exact ⟨ret_bool (by rw [HC.out]; simp [HP.out]), HB.out⟩
end Go.Proofs.Ytkggedmcdllnaaa
