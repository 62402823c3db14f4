/- Layer 6: swap.by, ways: how two hunks may pass one another. -/
import Derived.Deep.RegionHeld3
import Derived.Test.YtnepgecdnhiokaaHunk
import Derived.Test.YtnepgecdnhiokaaClone
import Derived.Test.YtnepgecdnhiokaaHk
namespace Go.Proofs.Ytnepgecdnhiokaa
open Go.RowKit

theorem by_any (p : Int) (A B : Option Addr) (n m c d : Nat) (w : World) (_ : n ≤ 100000) (_ : m ≤ 100000) :
    Calls Try.prog 29 #[.agg #[.int .i64 p, .slice A n c, .slice B m d]] w fun e w' => e = .returned (.int .i64 ((m : Int) - (n : Int))) ∧ Below w.heap.size w w' := by
  go_enter Try.func29, Try.ntmps29
  go_wp2
  go_ret
  exact ⟨rfl, (Below.refl _ w).alloc (Nat.le_refl _) _⟩

theorem ways_any (p q : Int) (A B C D : Option Addr) (n m c d n' m' c' d' : Nat) (w : World) :
    Calls Try.prog 21 #[.agg #[.int .i64 p, .slice A n c, .slice B m d], .agg #[.int .i64 q, .slice C n' c', .slice D m' d']] w fun e w' =>
      e = .returned (.slice (some ⟨w.heap.size + 1 + 1, 0, none⟩) 2 2) ∧
      w' = ((w.alloc (.cells #[.int .i64 p, .slice A n c, .slice B m d] 24)).alloc (.cells #[.int .i64 q, .slice C n' c', .slice D m' d'] 24)).alloc
        (.cells #[.func (.func 28) #[] #[.pointer (some ⟨w.heap.size + 1, 0, none⟩), .pointer (some ⟨w.heap.size, 0, none⟩)], .func (.func 30) #[] #[.pointer (some ⟨w.heap.size, 0, none⟩), .pointer (some ⟨w.heap.size + 1, 0, none⟩)]] 40) := by
  go_enter Try.func21, Try.ntmps21
  go_wp2
  go_ret
  exact ⟨rfl, rfl⟩
theorem ways_st (p q : Int) (A B C D : Option Addr) (n m c d n' m' c' d' : Nat) (w : World) :
    Calls Try.prog 21 #[.agg #[.int .i64 p, .slice A n c, .slice B m d], .agg #[.int .i64 q, .slice C n' c', .slice D m' d']] w fun e w' => ∃ gw gp gq,
      e = .returned (.slice (some ⟨gw, 0, none⟩) 2 2) ∧ Below w.heap.size w w' ∧ HkAt w' gp (.int .i64 p) (.slice A n c) (.slice B m d) ∧ HkAt w' gq (.int .i64 q) (.slice C n' c') (.slice D m' d') ∧ gw < w'.heap.size ∧
      w'.cell? ⟨gw, 0, none⟩ = some (.func (.func 28) #[] #[.pointer (some ⟨gq, 0, none⟩), .pointer (some ⟨gp, 0, none⟩)]) ∧
      w'.cell? ⟨gw, 1, none⟩ = some (.func (.func 30) #[] #[.pointer (some ⟨gp, 0, none⟩), .pointer (some ⟨gq, 0, none⟩)]) := by
  refine (ways_any p q A B C D n m c d n' m' c' d' w).mono ?_
  rintro e w' ⟨rfl, rfl⟩
  have h1 := HkAt.new w (.int .i64 p) (.slice A n c) (.slice B m d)
  have h2 := HkAt.new (w.alloc (.cells #[.int .i64 p, .slice A n c, .slice B m d] 24)) (.int .i64 q) (.slice C n' c') (.slice D m' d')
  simp only [World.size_alloc] at h2
  refine ⟨_, _, _, rfl, ?_, (h1.alloc _).alloc _, h2.alloc _, ?_, ?_, ?_⟩
  · exact (((Below.refl _ w).alloc (Nat.le_refl _) _).alloc (by simp only [World.size_alloc]; omega) _).alloc (by simp only [World.size_alloc]; omega) _
  · simp only [World.size_alloc]; omega
  · have h := cell_of_row _ _ 0 _ _ (0, 0) (heap_alloc_new ((w.alloc (.cells #[.int .i64 p, .slice A n c, .slice B m d] 24)).alloc (.cells #[.int .i64 q, .slice C n' c', .slice D m' d'] 24)) (.cells #[.func (.func 28) #[] #[.pointer (some ⟨w.heap.size + 1, 0, none⟩), .pointer (some ⟨w.heap.size, 0, none⟩)], .func (.func 30) #[] #[.pointer (some ⟨w.heap.size, 0, none⟩), .pointer (some ⟨w.heap.size + 1, 0, none⟩)]] 40))
    simp only [World.size_alloc] at h
    exact h
  · have h := cell_of_row _ _ 1 _ _ (0, 0) (heap_alloc_new ((w.alloc (.cells #[.int .i64 p, .slice A n c, .slice B m d] 24)).alloc (.cells #[.int .i64 q, .slice C n' c', .slice D m' d'] 24)) (.cells #[.func (.func 28) #[] #[.pointer (some ⟨w.heap.size + 1, 0, none⟩), .pointer (some ⟨w.heap.size, 0, none⟩)], .func (.func 30) #[] #[.pointer (some ⟨w.heap.size, 0, none⟩), .pointer (some ⟨w.heap.size + 1, 0, none⟩)]] 40))
    simp only [World.size_alloc] at h
    exact h
theorem way1_any (p q : Int) (A B : Option Addr) (n m c d gp gq : Nat) (w : World) (_ : n ≤ 100000) (_ : m ≤ 100000) (_ : 0 ≤ p) (_ : p ≤ 1048576) (_ : 0 ≤ q) (_ : q ≤ 1048576)
    (h0 : w.cell? ⟨gp, 0, none⟩ = some (.int .i64 p)) (h1 : w.cell? ⟨gp, 1, none⟩ = some (.slice A n c)) (h2 : w.cell? ⟨gp, 2, none⟩ = some (.slice B m d)) (h3 : w.cell? ⟨gq, 0, none⟩ = some (.int .i64 q)) (hg : gp < w.heap.size) (hg' : gq < w.heap.size) :
    Calls Try.prog 28 #[.pointer (some ⟨gq, 0, none⟩), .pointer (some ⟨gp, 0, none⟩)] w fun e w' => e = .returned (.tuple #[.bool (decide (p + (m : Int) < q)), .int .i64 0, .int .i64 (-((m : Int) - (n : Int)))]) ∧ Below w.heap.size w w' := by
  have v1 : IntKind.i64.wrap (p + (m : Int)) = p + (m : Int) := IntWalk.i64_in _ (by omega)
  have v2 : IntKind.i64.wrap (-((m : Int) - (n : Int))) = -((m : Int) - (n : Int)) := IntWalk.i64_in _ (by omega)
  go_enter Try.func28, Try.ntmps28
  go_wp2
  go_region_held3 (fun w' => w'.cell? ⟨gp, 0, none⟩ = some (.int .i64 p) ∧ w'.cell? ⟨gp, 1, none⟩ = some (.slice A n c) ∧ w'.cell? ⟨gp, 2, none⟩ = some (.slice B m d) ∧ w'.cell? ⟨gq, 0, none⟩ = some (.int .i64 q)) (first | go_keep | exact ⟨by assumption, by assumption, by assumption, by assumption⟩)
    (first
      | (go_at_call 29; refine (by_any p A B n m c d w.drew (by omega) (by omega)).mono ?_; rintro e w1 ⟨rfl, hb⟩; have k0 := (hb.cell (p := ⟨gp, 0, none⟩) hg).trans h0; have k1 := (hb.cell (p := ⟨gp, 1, none⟩) hg).trans h1; have k2 := (hb.cell (p := ⟨gp, 2, none⟩) hg).trans h2; have k3 := (hb.cell (p := ⟨gq, 0, none⟩) hg').trans h3))
  go_wp2
  go_ret3
  exact ⟨rfl, (Below.refl _ w).drew.trans hb⟩
theorem way2_any (p q : Int) (A B : Option Addr) (n m c d gp gq : Nat) (w : World) (_ : n ≤ 100000) (_ : m ≤ 100000) (_ : 0 ≤ p) (_ : p ≤ 1048576) (_ : 0 ≤ q) (_ : q ≤ 1048576)
    (h0 : w.cell? ⟨gp, 0, none⟩ = some (.int .i64 p)) (h1 : w.cell? ⟨gp, 1, none⟩ = some (.slice A n c)) (h2 : w.cell? ⟨gp, 2, none⟩ = some (.slice B m d)) (h3 : w.cell? ⟨gq, 0, none⟩ = some (.int .i64 q)) (hg : gp < w.heap.size) (hg' : gq < w.heap.size) :
    Calls Try.prog 30 #[.pointer (some ⟨gq, 0, none⟩), .pointer (some ⟨gp, 0, none⟩)] w fun e w' => e = .returned (.tuple #[.bool (decide (p + (n : Int) < q)), .int .i64 ((m : Int) - (n : Int)), .int .i64 0]) ∧ Below w.heap.size w w' := by
  have v1 : IntKind.i64.wrap (p + (n : Int)) = p + (n : Int) := IntWalk.i64_in _ (by omega)
  go_enter Try.func30, Try.ntmps30
  go_wp2
  go_region_held3 (fun w' => w'.cell? ⟨gp, 0, none⟩ = some (.int .i64 p) ∧ w'.cell? ⟨gp, 1, none⟩ = some (.slice A n c) ∧ w'.cell? ⟨gp, 2, none⟩ = some (.slice B m d) ∧ w'.cell? ⟨gq, 0, none⟩ = some (.int .i64 q)) (first | go_keep | exact ⟨by assumption, by assumption, by assumption, by assumption⟩)
    (first
      | (go_at_call 29; refine (by_any p A B n m c d w.drew (by omega) (by omega)).mono ?_; rintro e w1 ⟨rfl, hb⟩; have k0 := (hb.cell (p := ⟨gp, 0, none⟩) hg).trans h0; have k1 := (hb.cell (p := ⟨gp, 1, none⟩) hg).trans h1; have k2 := (hb.cell (p := ⟨gp, 2, none⟩) hg).trans h2; have k3 := (hb.cell (p := ⟨gq, 0, none⟩) hg').trans h3))
  go_wp2
  go_ret3
  exact ⟨rfl, (Below.refl _ w).drew.trans hb⟩

theorem own_any (p z : Int) (xs ys : List ByteArray) (A B : Option Addr) (n m c d : Nat) (w : World) (_ : -2000000 ≤ p) (_ : p ≤ 2000000) (_ : -2000000 ≤ z) (_ : z ≤ 2000000) (hx : n = xs.length) (hy : m = ys.length) (hA : SlS w.heap.size w A xs) (hB : SlS w.heap.size w B ys) (hn : xs.length ≤ 100000) (hm : ys.length ≤ 100000) :
    Calls Try.prog 22 #[.agg #[.int .i64 p, .slice A n c, .slice B m d], .int .i64 z] w fun e w' => ∃ C e' D f, e = .returned (.agg #[.int .i64 (p + z), .slice C xs.length e', .slice D ys.length f]) ∧
      xs.length ≤ e' ∧ e' ≤ 9223372036854775807 ∧ ys.length ≤ f ∧ f ≤ 9223372036854775807 ∧ SlS 0 w' C xs ∧ SlS 0 w' D ys ∧ Below w.heap.size w w' := by
  subst hx hy
  have v1 : IntKind.i64.wrap (p + z) = p + z := IntWalk.i64_in _ (by omega)
  obtain ⟨o1, ho1⟩ : ∃ o, Obj.cells #[.int .i64 p, .slice A xs.length c, .slice B ys.length d] 24 = o := ⟨_, rfl⟩
  obtain ⟨o2, ho2⟩ : ∃ o, Obj.cells #[.int .i64 0, .slice none 0 0, .slice none 0 0] 24 = o := ⟨_, rfl⟩
  have hB2 : Below w.heap.size w ((w.alloc o1).alloc o2) := (((Below.refl _ w).alloc (Nat.le_refl _) o1).alloc (by simp only [World.size_alloc]; omega) o2)
  obtain ⟨w2, hw2⟩ : ∃ w2, ((w.alloc o1).alloc o2) = w2 := ⟨_, rfl⟩
  have r1 : HkAt w2 w.heap.size (.int .i64 p) (.slice A xs.length c) (.slice B ys.length d) := by
    subst hw2 ho1
    exact (HkAt.new w _ _ _).alloc _
  have r2 : HkAt w2 (w.heap.size + 1) (.int .i64 0) (.slice none 0 0) (.slice none 0 0) := by
    subst hw2 ho2
    have h := HkAt.new (w.alloc o1) (.int .i64 0) (.slice none 0 0) (.slice none 0 0)
    rw [World.size_alloc] at h
    exact h
  have hg1 := r1.lt
  have hg2 := r2.lt
  have c0 := r1.c0
  have c1 := r1.c1
  have c2 := r1.c2
  rw [hw2] at hB2
  have HR := Kp.mk r2
  have HB2 := Kp.mk hB2
  have HA := Kp.mk (hA.later hB2)
  have HB := Kp.mk (hB.later hB2)
  clear r1 r2 hB2
  go_enter Try.func22, Try.ntmps22
  go_wp2
  clear hw2 ho1 ho2
  go_region_held3 (fun w' => w'.cell? ⟨w.heap.size, 0, none⟩ = some (.int .i64 p) ∧ w'.cell? ⟨w.heap.size, 1, none⟩ = some (.slice A xs.length c) ∧ w'.cell? ⟨w.heap.size, 2, none⟩ = some (.slice B ys.length d)) (first | go_keep | exact ⟨by assumption, by assumption, by assumption⟩)
    (first
      | (go_at_call_of 25 A; refine (cloneS_any xs A c w2.drew HA.out.drew hn).mono ?_; rintro e w3 ⟨v, rfl, hown, hb3⟩; obtain ⟨C, e', rfl, q1, q2, hC⟩ := SlS.of_own (B := 0) hown (by omega); clear hown
         have k0 := (hb3.cell (p := ⟨w.heap.size, 0, none⟩) hg1).trans c0; have k1 := (hb3.cell (p := ⟨w.heap.size, 1, none⟩) hg1).trans c1; have k2 := (hb3.cell (p := ⟨w.heap.size, 2, none⟩) hg1).trans c2
         have HR3 := Kp.mk (HR.out.drew.below hb3); have hg3 : w.heap.size < w3.heap.size := Nat.lt_of_lt_of_le hg1 hb3.size)
      | (go_at_call_of 25 B; refine (cloneS_any ys B d w3 (HB.out.drew.later hb3) hm).mono ?_; rintro e w4 ⟨v, rfl, hown, hb4⟩; obtain ⟨D, f, rfl, q3, q4, hD⟩ := SlS.of_own (B := 0) hown (by omega); clear hown
         have m0 := (hb4.cell (p := ⟨w.heap.size, 0, none⟩) hg3).trans k0; have m1 := (hb4.cell (p := ⟨w.heap.size, 1, none⟩) hg3).trans k1; have m2 := (hb4.cell (p := ⟨w.heap.size, 2, none⟩) hg3).trans k2
         have hR4 := HR3.out.below hb4; have d0 := hR4.c0; have d1 := hR4.c1; have d2 := hR4.c2; have f0 := hR4.free 0; have f1 := hR4.free 1; have f2 := hR4.free 2; have HR4 := Kp.mk hR4; clear hR4))
  have hb4' : Below w.heap.size w w4 := (HB2.out.drew.trans (hb3.mono HB2.out.drew.size)).trans (hb4.mono (HB2.out.drew.trans (hb3.mono HB2.out.drew.size)).size)
  have hE := HR4.out.setAll (.int .i64 (p + z)) (.slice C xs.length e') (.slice D ys.length f)
  have hC5 := (hC.below hb4).setHk HR4.out (Nat.zero_le _) (.int .i64 (p + z)) (.slice C xs.length e') (.slice D ys.length f)
  have hD5 := hD.setHk HR4.out (Nat.zero_le _) (.int .i64 (p + z)) (.slice C xs.length e') (.slice D ys.length f)
  have hb5 := below_setHk hb4' (Nat.le_succ w.heap.size) (.int .i64 (p + z)) (.slice C xs.length e') (.slice D ys.length f)
  have HE := Kp.mk hE
  clear hE d0 d1 d2 f0 f1 f2
  go_wp2
  refine bodyPost_ret (results_h1 rfl _ _ (w.heap.size + 1) _ _ _ rfl HE.out) rfl ?_
  exact ⟨_, _, _, _, rfl, q1, q2, q3, q4, hC5, hD5, hb5⟩
end Go.Proofs.Ytnepgecdnhiokaa
