/- Layer 6: swap.Pass: two hunks of one list, the second one ahead of the first one: the walks. -/
import Derived.Test.YtnepgecdnhiokaaSwapW
namespace Go.Proofs.Ytnepgecdnhiokaa
open Go.RowKit

/-- The two hunks' boxes and the two results' blocks. -/
theorem pass_boxes (w : World) (v0 v1 v2 u0 u1 u2 z0 z1 z2 : Value) (w4 : World) (hw : (((w.alloc (.cells #[v0, v1, v2] 24)).alloc (.cells #[u0, u1, u2] 24)).alloc (.cells #[z0, z1, z2] 24)).alloc (.cells #[z0, z1, z2] 24) = w4) :
    Below w.heap.size w w4 ∧ HkAt w4 w.heap.size v0 v1 v2 ∧ HkAt w4 (w.heap.size + 1) u0 u1 u2 ∧ HkAt w4 (w.heap.size + 1 + 1) z0 z1 z2 ∧ HkAt w4 (w.heap.size + 1 + 1 + 1) z0 z1 z2 := by
  subst hw
  have h1 := HkAt.new w v0 v1 v2
  have h2 := HkAt.new (w.alloc (.cells #[v0, v1, v2] 24)) u0 u1 u2
  have h3 := HkAt.new ((w.alloc (.cells #[v0, v1, v2] 24)).alloc (.cells #[u0, u1, u2] 24)) z0 z1 z2
  have h4 := HkAt.new (((w.alloc (.cells #[v0, v1, v2] 24)).alloc (.cells #[u0, u1, u2] 24)).alloc (.cells #[z0, z1, z2] 24)) z0 z1 z2
  simp only [World.size_alloc] at h2 h3 h4
  exact ⟨((((Below.refl _ w).alloc (Nat.le_refl _) _).alloc (by simp only [World.size_alloc]; omega) _).alloc (by simp only [World.size_alloc]; omega) _).alloc (by simp only [World.size_alloc]; omega) _,
    ((h1.alloc _).alloc _).alloc _, (h2.alloc _).alloc _, h3.alloc _, h4⟩
theorem Pass_no1 (p q : Int) (xs ys us vs : List ByteArray) (A B C D : Option Addr) (n m n' m' c d c' d' : Nat) (w : World) (hx : n = xs.length) (hy : m = ys.length) (hu : n' = us.length) (hv : m' = vs.length)
    (hA : SlS w.heap.size w A xs) (hB : SlS w.heap.size w B ys) (hC : SlS w.heap.size w C us) (hD : SlS w.heap.size w D vs) (lx : xs.length ≤ 100000) (ly : ys.length ≤ 100000) (lu : us.length ≤ 100000) (lv : vs.length ≤ 100000)
    (sx : ∀ x ∈ xs, x.size ≤ 9223372036854775807) (sy : ∀ x ∈ ys, x.size ≤ 9223372036854775807) (su : ∀ x ∈ us, x.size ≤ 9223372036854775807) (sv : ∀ x ∈ vs, x.size ≤ 9223372036854775807)
    (m1 : hMay p xs ys = false) :
    Calls Try.prog 12 #[.agg #[.int .i64 p, .slice A n c, .slice B m d], .agg #[.int .i64 q, .slice C n' c', .slice D m' d']] w fun e w' => e = .returned (.tuple #[(.agg #[.int .i64 0, .slice none 0 0, .slice none 0 0]), (.agg #[.int .i64 0, .slice none 0 0, .slice none 0 0]), .bool false]) ∧ Below w.heap.size w w' := by
  subst hx hy hu hv
  have HX := Kp.mk (And.intro hC (And.intro hD (And.intro lu lv)))
  clear HX
  obtain ⟨o1, ho1⟩ : ∃ o, Obj.cells #[.int .i64 p, .slice A xs.length c, .slice B ys.length d] 24 = o := ⟨_, rfl⟩
  obtain ⟨o2, ho2⟩ : ∃ o, Obj.cells #[.int .i64 q, .slice C us.length c', .slice D vs.length d'] 24 = o := ⟨_, rfl⟩
  obtain ⟨o0, ho0⟩ : ∃ o, Obj.cells #[.int .i64 0, .slice none 0 0, .slice none 0 0] 24 = o := ⟨_, rfl⟩
  obtain ⟨w4, hw4⟩ : ∃ w4, (((w.alloc o1).alloc o2).alloc o0).alloc o0 = w4 := ⟨_, rfl⟩
  obtain ⟨hb4, k1, k2, k3, k4⟩ := pass_boxes w (.int .i64 p) (.slice A xs.length c) (.slice B ys.length d) (.int .i64 q) (.slice C us.length c') (.slice D vs.length d') (.int .i64 0) (.slice none 0 0) (.slice none 0 0) w4 (by rw [ho1, ho2, ho0]; exact hw4)
  have M1 := Kp.mk m1
  clear m1
  have HM1 := Kp.mk (hmay_any p xs ys A B _ _ c d w4 rfl rfl (hA.later hb4) (hB.later hb4) lx ly sx sy)
  have SU := Kp.mk su
  have SV := Kp.mk sv
  have K1 := Kp.mk k1
  have K2 := Kp.mk k2
  have K3 := Kp.mk k3
  have K4 := Kp.mk k4
  have p0 := k1.c0
  have p1 := k1.c1
  have p2 := k1.c2
  clear sx sy su sv k1 k2 k3 k4
  go_enter Try.func12, Try.ntmps12
  go_wp2_with (go_at_call_of 20 p; refine HM1.out.mono ?_; rintro e w5 ⟨rfl, hb5⟩; rw [M1.out]; have HB5 := Kp.mk (hb4.trans (hb5.mono hb4.size)); have tr := (K3.out.below hb5); have r0_5 := tr.c0; have r1_5 := tr.c1; have r2_5 := tr.c2; have fr0_5 := tr.free 0; have fr1_5 := tr.free 1; have fr2_5 := tr.free 2; have R5 := Kp.mk tr; clear tr; have ts := (K4.out.below hb5); have s0_5 := ts.c0; have s1_5 := ts.c1; have s2_5 := ts.c2; have fs0_5 := ts.free 0; have fs1_5 := ts.free 1; have fs2_5 := ts.free 2; have S5 := Kp.mk ts; clear ts; clear p0 p1 p2)
  have E3 := R5.out.setBoth S5.out (by omega) (.int .i64 0) (.slice none 0 0) (.slice none 0 0) (.int .i64 0) (.slice none 0 0) (.slice none 0 0)
  refine bodyPost_ret (results_h2 rfl _ _ (w.heap.size + 1 + 1) (w.heap.size + 1 + 1 + 1) _ _ _ _ _ _ rfl rfl E3.1 E3.2 _ rfl) rfl ?_
  exact ⟨rfl, below_setHk (below_setHk HB5.out (by omega) _ _ _) (by omega) _ _ _⟩
theorem Pass_no2 (p q : Int) (xs ys us vs : List ByteArray) (A B C D : Option Addr) (n m n' m' c d c' d' : Nat) (w : World) (hx : n = xs.length) (hy : m = ys.length) (hu : n' = us.length) (hv : m' = vs.length)
    (hA : SlS w.heap.size w A xs) (hB : SlS w.heap.size w B ys) (hC : SlS w.heap.size w C us) (hD : SlS w.heap.size w D vs) (lx : xs.length ≤ 100000) (ly : ys.length ≤ 100000) (lu : us.length ≤ 100000) (lv : vs.length ≤ 100000)
    (sx : ∀ x ∈ xs, x.size ≤ 9223372036854775807) (sy : ∀ x ∈ ys, x.size ≤ 9223372036854775807) (su : ∀ x ∈ us, x.size ≤ 9223372036854775807) (sv : ∀ x ∈ vs, x.size ≤ 9223372036854775807)
    (m1 : hMay p xs ys = true) (m2 : hMay q us vs = false) :
    Calls Try.prog 12 #[.agg #[.int .i64 p, .slice A n c, .slice B m d], .agg #[.int .i64 q, .slice C n' c', .slice D m' d']] w fun e w' => e = .returned (.tuple #[(.agg #[.int .i64 0, .slice none 0 0, .slice none 0 0]), (.agg #[.int .i64 0, .slice none 0 0, .slice none 0 0]), .bool false]) ∧ Below w.heap.size w w' := by
  subst hx hy hu hv
  have HX := Kp.mk (And.intro hC (And.intro hD (And.intro lu lv)))
  clear HX
  obtain ⟨o1, ho1⟩ : ∃ o, Obj.cells #[.int .i64 p, .slice A xs.length c, .slice B ys.length d] 24 = o := ⟨_, rfl⟩
  obtain ⟨o2, ho2⟩ : ∃ o, Obj.cells #[.int .i64 q, .slice C us.length c', .slice D vs.length d'] 24 = o := ⟨_, rfl⟩
  obtain ⟨o0, ho0⟩ : ∃ o, Obj.cells #[.int .i64 0, .slice none 0 0, .slice none 0 0] 24 = o := ⟨_, rfl⟩
  obtain ⟨w4, hw4⟩ : ∃ w4, (((w.alloc o1).alloc o2).alloc o0).alloc o0 = w4 := ⟨_, rfl⟩
  obtain ⟨hb4, k1, k2, k3, k4⟩ := pass_boxes w (.int .i64 p) (.slice A xs.length c) (.slice B ys.length d) (.int .i64 q) (.slice C us.length c') (.slice D vs.length d') (.int .i64 0) (.slice none 0 0) (.slice none 0 0) w4 (by rw [ho1, ho2, ho0]; exact hw4)
  have M1 := Kp.mk m1
  have M2 := Kp.mk m2
  clear m1 m2
  have HM1 := Kp.mk (hmay_any p xs ys A B _ _ c d w4 rfl rfl (hA.later hb4) (hB.later hb4) lx ly sx sy)
  have SU := Kp.mk su
  have SV := Kp.mk sv
  have K1 := Kp.mk k1
  have K2 := Kp.mk k2
  have K3 := Kp.mk k3
  have K4 := Kp.mk k4
  have p0 := k1.c0
  have p1 := k1.c1
  have p2 := k1.c2
  clear sx sy su sv k1 k2 k3 k4
  go_enter Try.func12, Try.ntmps12
  go_wp2_with (first
    | (go_at_call_of 20 p; refine HM1.out.mono ?_; rintro e w5 ⟨rfl, hb5⟩; rw [M1.out]; have HB5 := Kp.mk (hb4.trans (hb5.mono hb4.size)); have tq := (K2.out.below hb5); have q0_5 := tq.c0; have q1_5 := tq.c1; have q2_5 := tq.c2; have Q5 := Kp.mk tq; clear tq; have tr := (K3.out.below hb5); have r0_5 := tr.c0; have r1_5 := tr.c1; have r2_5 := tr.c2; have fr0_5 := tr.free 0; have fr1_5 := tr.free 1; have fr2_5 := tr.free 2; have R5 := Kp.mk tr; clear tr; have ts := (K4.out.below hb5); have s0_5 := ts.c0; have s1_5 := ts.c1; have s2_5 := ts.c2; have fs0_5 := ts.free 0; have fs1_5 := ts.free 1; have fs2_5 := ts.free 2; have S5 := Kp.mk ts; clear ts; clear p0 p1 p2)
    | (go_at_call_of 20 q; refine (hmay_any q us vs C D _ _ c' d' w5 rfl rfl (hC.later HB5.out) (hD.later HB5.out) lu lv SU.out SV.out).mono ?_; rintro e w6 ⟨rfl, hb6⟩; rw [M2.out]; have HB6 := Kp.mk (HB5.out.trans (hb6.mono HB5.out.size)); clear q0_5 q1_5 q2_5; have tr := (R5.out.below hb6); have r0_6 := tr.c0; have r1_6 := tr.c1; have r2_6 := tr.c2; have fr0_6 := tr.free 0; have fr1_6 := tr.free 1; have fr2_6 := tr.free 2; have R6 := Kp.mk tr; clear tr; have ts := (S5.out.below hb6); have s0_6 := ts.c0; have s1_6 := ts.c1; have s2_6 := ts.c2; have fs0_6 := ts.free 0; have fs1_6 := ts.free 1; have fs2_6 := ts.free 2; have S6 := Kp.mk ts; clear ts))
  have E3 := R6.out.setBoth S6.out (by omega) (.int .i64 0) (.slice none 0 0) (.slice none 0 0) (.int .i64 0) (.slice none 0 0) (.slice none 0 0)
  refine bodyPost_ret (results_h2 rfl _ _ (w.heap.size + 1 + 1) (w.heap.size + 1 + 1 + 1) _ _ _ _ _ _ rfl rfl E3.1 E3.2 _ rfl) rfl ?_
  exact ⟨rfl, below_setHk (below_setHk HB6.out (by omega) _ _ _) (by omega) _ _ _⟩
set_option maxHeartbeats 1000000 in
theorem Pass_no3 (p q : Int) (xs ys us vs : List ByteArray) (A B C D : Option Addr) (n m n' m' c d c' d' : Nat) (w : World) (hx : n = xs.length) (hy : m = ys.length) (hu : n' = us.length) (hv : m' = vs.length)
    (hA : SlS w.heap.size w A xs) (hB : SlS w.heap.size w B ys) (hC : SlS w.heap.size w C us) (hD : SlS w.heap.size w D vs) (lx : xs.length ≤ 100000) (ly : ys.length ≤ 100000) (lu : us.length ≤ 100000) (lv : vs.length ≤ 100000)
    (sx : ∀ x ∈ xs, x.size ≤ 9223372036854775807) (sy : ∀ x ∈ ys, x.size ≤ 9223372036854775807) (su : ∀ x ∈ us, x.size ≤ 9223372036854775807) (sv : ∀ x ∈ vs, x.size ≤ 9223372036854775807)
    (m1 : hMay p xs ys = true) (m2 : hMay q us vs = true) (d1 : p + (ys.length : Int) < q) (d2 : ¬ q + -((ys.length : Int) - (xs.length : Int)) ≤ 1048576) :
    Calls Try.prog 12 #[.agg #[.int .i64 p, .slice A n c, .slice B m d], .agg #[.int .i64 q, .slice C n' c', .slice D m' d']] w fun e w' => e = .returned (.tuple #[(.agg #[.int .i64 0, .slice none 0 0, .slice none 0 0]), (.agg #[.int .i64 0, .slice none 0 0, .slice none 0 0]), .bool false]) ∧ Below w.heap.size w w' := by
  subst hx hy hu hv
  have HX := Kp.mk (And.intro hC (And.intro hD (And.intro lu lv)))
  clear HX
  obtain ⟨o1, ho1⟩ : ∃ o, Obj.cells #[.int .i64 p, .slice A xs.length c, .slice B ys.length d] 24 = o := ⟨_, rfl⟩
  obtain ⟨o2, ho2⟩ : ∃ o, Obj.cells #[.int .i64 q, .slice C us.length c', .slice D vs.length d'] 24 = o := ⟨_, rfl⟩
  obtain ⟨o0, ho0⟩ : ∃ o, Obj.cells #[.int .i64 0, .slice none 0 0, .slice none 0 0] 24 = o := ⟨_, rfl⟩
  obtain ⟨w4, hw4⟩ : ∃ w4, (((w.alloc o1).alloc o2).alloc o0).alloc o0 = w4 := ⟨_, rfl⟩
  obtain ⟨hb4, k1, k2, k3, k4⟩ := pass_boxes w (.int .i64 p) (.slice A xs.length c) (.slice B ys.length d) (.int .i64 q) (.slice C us.length c') (.slice D vs.length d') (.int .i64 0) (.slice none 0 0) (.slice none 0 0) w4 (by rw [ho1, ho2, ho0]; exact hw4)
  have M1 := Kp.mk m1
  have M2 := Kp.mk m2
  obtain ⟨⟨a1, a2⟩, -⟩ := hMay_out m1
  obtain ⟨⟨a3, a4⟩, -⟩ := hMay_out m2
  clear m1 m2
  have D1 : Kp (decide (p + (ys.length : Int) < q) = true) := ⟨decide_eq_true d1⟩
  have HM1 := Kp.mk (hmay_any p xs ys A B _ _ c d w4 rfl rfl (hA.later hb4) (hB.later hb4) lx ly sx sy)
  have SU := Kp.mk su
  have SV := Kp.mk sv
  have K1 := Kp.mk k1
  have K2 := Kp.mk k2
  have K3 := Kp.mk k3
  have K4 := Kp.mk k4
  have p0 := k1.c0
  have p1 := k1.c1
  have p2 := k1.c2
  clear sx sy su sv k1 k2 k3 k4
  go_enter Try.func12, Try.ntmps12
  go_wp2_with (first
    | (go_at_call_of 20 p; refine HM1.out.mono ?_; rintro e w5 ⟨rfl, hb5⟩; rw [M1.out]; have HB5 := Kp.mk (hb4.trans (hb5.mono hb4.size)); have tp := (K1.out.below hb5); have p0_5 := tp.c0; have p1_5 := tp.c1; have p2_5 := tp.c2; have P5 := Kp.mk tp; clear tp; have tq := (K2.out.below hb5); have q0_5 := tq.c0; have q1_5 := tq.c1; have q2_5 := tq.c2; have Q5 := Kp.mk tq; clear tq; have tr := (K3.out.below hb5); have r0_5 := tr.c0; have r1_5 := tr.c1; have r2_5 := tr.c2; have fr0_5 := tr.free 0; have fr1_5 := tr.free 1; have fr2_5 := tr.free 2; have R5 := Kp.mk tr; clear tr; have ts := (K4.out.below hb5); have s0_5 := ts.c0; have s1_5 := ts.c1; have s2_5 := ts.c2; have fs0_5 := ts.free 0; have fs1_5 := ts.free 1; have fs2_5 := ts.free 2; have S5 := Kp.mk ts; clear ts; clear p0 p1 p2)
    | (go_at_call_of 20 q; refine (hmay_any q us vs C D _ _ c' d' w5 rfl rfl (hC.later HB5.out) (hD.later HB5.out) lu lv SU.out SV.out).mono ?_; rintro e w6 ⟨rfl, hb6⟩; rw [M2.out]; have HB6 := Kp.mk (HB5.out.trans (hb6.mono HB5.out.size)); have tp := (P5.out.below hb6); have p0_6 := tp.c0; have p1_6 := tp.c1; have p2_6 := tp.c2; have P6 := Kp.mk tp; clear tp; have tq := (Q5.out.below hb6); have q0_6 := tq.c0; have q1_6 := tq.c1; have q2_6 := tq.c2; have Q6 := Kp.mk tq; clear tq; have tr := (R5.out.below hb6); have r0_6 := tr.c0; have r1_6 := tr.c1; have r2_6 := tr.c2; have fr0_6 := tr.free 0; have fr1_6 := tr.free 1; have fr2_6 := tr.free 2; have R6 := Kp.mk tr; clear tr; have ts := (S5.out.below hb6); have s0_6 := ts.c0; have s1_6 := ts.c1; have s2_6 := ts.c2; have fs0_6 := ts.free 0; have fs1_6 := ts.free 1; have fs2_6 := ts.free 2; have S6 := Kp.mk ts; clear ts)
    | (go_at_call 21; refine (ways_st p q A B C D _ _ c d _ _ c' d' w6).mono ?_; rintro e w7 ⟨gw, gp, gq, rfl, hb7, hp7, hq7, hgw, e7, e7'⟩; have HB7 := Kp.mk (HB6.out.trans (hb7.mono HB6.out.size)); have HP7 := Kp.mk hp7; have HQ7 := Kp.mk hq7; have E7 := Kp.mk e7'; clear hp7 hq7 e7' p0_6 p1_6 p2_6 q0_6 q1_6 q2_6 r0_6 r1_6 r2_6 fr0_6 fr1_6 fr2_6 s0_6 s1_6 s2_6 fs0_6 fs1_6 fs2_6; have tp := (P6.out.below hb7); have p0_7 := tp.c0; have p1_7 := tp.c1; have p2_7 := tp.c2; have P7 := Kp.mk tp; clear tp; have tq := (Q6.out.below hb7); have q0_7 := tq.c0; have q1_7 := tq.c1; have q2_7 := tq.c2; have Q7 := Kp.mk tq; clear tq; have tr := (R6.out.below hb7); have r0_7 := tr.c0; have r1_7 := tr.c1; have r2_7 := tr.c2; have fr0_7 := tr.free 0; have fr1_7 := tr.free 1; have fr2_7 := tr.free 2; have R7 := Kp.mk tr; clear tr; have ts := (S6.out.below hb7); have s0_7 := ts.c0; have s1_7 := ts.c1; have s2_7 := ts.c2; have fs0_7 := ts.free 0; have fs1_7 := ts.free 1; have fs2_7 := ts.free 2; have S7 := Kp.mk ts; clear ts))
  refine wp_loop_rounds 4 ?_
  rw [rounds_succ]
  go_wp2_with (go_at_call 28; refine (way1_any p q A B _ _ c d gp gq w7 lx ly (by omega) (by omega) (by omega) (by omega) HP7.out.c0 HP7.out.c1 HP7.out.c2 HQ7.out.c0 HP7.out.lt HQ7.out.lt).mono ?_; rintro e w8 ⟨rfl, hb8⟩; rw [D1.out]; have HB8 := Kp.mk (HB7.out.trans (hb8.mono HB7.out.size)); clear e7 p0_7 p1_7 p2_7 q0_7 q1_7 q2_7 r0_7 r1_7 r2_7 fr0_7 fr1_7 fr2_7 s0_7 s1_7 s2_7 fs0_7 fs1_7 fs2_7; have e8 := (hb8.cell (p := ⟨gw, 1, none⟩) hgw).trans E7.out; have tp := (P7.out.below hb8); have p0_8 := tp.c0; have p1_8 := tp.c1; have p2_8 := tp.c2; have P8 := Kp.mk tp; clear tp; have tq := (Q7.out.below hb8); have q0_8 := tq.c0; have q1_8 := tq.c1; have q2_8 := tq.c2; have Q8 := Kp.mk tq; clear tq; have tr := (R7.out.below hb8); have r0_8 := tr.c0; have r1_8 := tr.c1; have r2_8 := tr.c2; have fr0_8 := tr.free 0; have fr1_8 := tr.free 1; have fr2_8 := tr.free 2; have R8 := Kp.mk tr; clear tr; have ts := (S7.out.below hb8); have s0_8 := ts.c0; have s1_8 := ts.c1; have s2_8 := ts.c2; have fs0_8 := ts.free 0; have fs1_8 := ts.free 1; have fs2_8 := ts.free 2; have S8 := Kp.mk ts; clear ts)
  have E3 := R8.out.setBoth S8.out (by omega) (.int .i64 0) (.slice none 0 0) (.slice none 0 0) (.int .i64 0) (.slice none 0 0) (.slice none 0 0)
  refine bodyPost_ret (results_h2 rfl _ _ (w.heap.size + 1 + 1) (w.heap.size + 1 + 1 + 1) _ _ _ _ _ _ rfl rfl E3.1 E3.2 _ rfl) rfl ?_
  exact ⟨rfl, below_setHk (below_setHk HB8.out (by omega) _ _ _) (by omega) _ _ _⟩
set_option maxHeartbeats 1000000 in
theorem Pass_no4 (p q : Int) (xs ys us vs : List ByteArray) (A B C D : Option Addr) (n m n' m' c d c' d' : Nat) (w : World) (hx : n = xs.length) (hy : m = ys.length) (hu : n' = us.length) (hv : m' = vs.length)
    (hA : SlS w.heap.size w A xs) (hB : SlS w.heap.size w B ys) (hC : SlS w.heap.size w C us) (hD : SlS w.heap.size w D vs) (lx : xs.length ≤ 100000) (ly : ys.length ≤ 100000) (lu : us.length ≤ 100000) (lv : vs.length ≤ 100000)
    (sx : ∀ x ∈ xs, x.size ≤ 9223372036854775807) (sy : ∀ x ∈ ys, x.size ≤ 9223372036854775807) (su : ∀ x ∈ us, x.size ≤ 9223372036854775807) (sv : ∀ x ∈ vs, x.size ≤ 9223372036854775807)
    (m1 : hMay p xs ys = true) (m2 : hMay q us vs = true) (d1 : ¬ p + (ys.length : Int) < q) (d2 : q + (us.length : Int) < p) (d3 : ¬ p + ((vs.length : Int) - (us.length : Int)) ≤ 1048576) :
    Calls Try.prog 12 #[.agg #[.int .i64 p, .slice A n c, .slice B m d], .agg #[.int .i64 q, .slice C n' c', .slice D m' d']] w fun e w' => e = .returned (.tuple #[(.agg #[.int .i64 0, .slice none 0 0, .slice none 0 0]), (.agg #[.int .i64 0, .slice none 0 0, .slice none 0 0]), .bool false]) ∧ Below w.heap.size w w' := by
  subst hx hy hu hv
  have HX := Kp.mk (And.intro hC (And.intro hD (And.intro lu lv)))
  clear HX
  obtain ⟨o1, ho1⟩ : ∃ o, Obj.cells #[.int .i64 p, .slice A xs.length c, .slice B ys.length d] 24 = o := ⟨_, rfl⟩
  obtain ⟨o2, ho2⟩ : ∃ o, Obj.cells #[.int .i64 q, .slice C us.length c', .slice D vs.length d'] 24 = o := ⟨_, rfl⟩
  obtain ⟨o0, ho0⟩ : ∃ o, Obj.cells #[.int .i64 0, .slice none 0 0, .slice none 0 0] 24 = o := ⟨_, rfl⟩
  obtain ⟨w4, hw4⟩ : ∃ w4, (((w.alloc o1).alloc o2).alloc o0).alloc o0 = w4 := ⟨_, rfl⟩
  obtain ⟨hb4, k1, k2, k3, k4⟩ := pass_boxes w (.int .i64 p) (.slice A xs.length c) (.slice B ys.length d) (.int .i64 q) (.slice C us.length c') (.slice D vs.length d') (.int .i64 0) (.slice none 0 0) (.slice none 0 0) w4 (by rw [ho1, ho2, ho0]; exact hw4)
  have M1 := Kp.mk m1
  have M2 := Kp.mk m2
  obtain ⟨⟨a1, a2⟩, -⟩ := hMay_out m1
  obtain ⟨⟨a3, a4⟩, -⟩ := hMay_out m2
  clear m1 m2
  have D1 : Kp (decide (p + (ys.length : Int) < q) = false) := ⟨decide_eq_false d1⟩
  have D2 : Kp (decide (q + (us.length : Int) < p) = true) := ⟨decide_eq_true d2⟩
  have HM1 := Kp.mk (hmay_any p xs ys A B _ _ c d w4 rfl rfl (hA.later hb4) (hB.later hb4) lx ly sx sy)
  have SU := Kp.mk su
  have SV := Kp.mk sv
  have K1 := Kp.mk k1
  have K2 := Kp.mk k2
  have K3 := Kp.mk k3
  have K4 := Kp.mk k4
  have p0 := k1.c0
  have p1 := k1.c1
  have p2 := k1.c2
  clear sx sy su sv k1 k2 k3 k4
  go_enter Try.func12, Try.ntmps12
  go_wp2_with (first
    | (go_at_call_of 20 p; refine HM1.out.mono ?_; rintro e w5 ⟨rfl, hb5⟩; rw [M1.out]; have HB5 := Kp.mk (hb4.trans (hb5.mono hb4.size)); have tp := (K1.out.below hb5); have p0_5 := tp.c0; have p1_5 := tp.c1; have p2_5 := tp.c2; have P5 := Kp.mk tp; clear tp; have tq := (K2.out.below hb5); have q0_5 := tq.c0; have q1_5 := tq.c1; have q2_5 := tq.c2; have Q5 := Kp.mk tq; clear tq; have tr := (K3.out.below hb5); have r0_5 := tr.c0; have r1_5 := tr.c1; have r2_5 := tr.c2; have fr0_5 := tr.free 0; have fr1_5 := tr.free 1; have fr2_5 := tr.free 2; have R5 := Kp.mk tr; clear tr; have ts := (K4.out.below hb5); have s0_5 := ts.c0; have s1_5 := ts.c1; have s2_5 := ts.c2; have fs0_5 := ts.free 0; have fs1_5 := ts.free 1; have fs2_5 := ts.free 2; have S5 := Kp.mk ts; clear ts; clear p0 p1 p2)
    | (go_at_call_of 20 q; refine (hmay_any q us vs C D _ _ c' d' w5 rfl rfl (hC.later HB5.out) (hD.later HB5.out) lu lv SU.out SV.out).mono ?_; rintro e w6 ⟨rfl, hb6⟩; rw [M2.out]; have HB6 := Kp.mk (HB5.out.trans (hb6.mono HB5.out.size)); have tp := (P5.out.below hb6); have p0_6 := tp.c0; have p1_6 := tp.c1; have p2_6 := tp.c2; have P6 := Kp.mk tp; clear tp; have tq := (Q5.out.below hb6); have q0_6 := tq.c0; have q1_6 := tq.c1; have q2_6 := tq.c2; have Q6 := Kp.mk tq; clear tq; have tr := (R5.out.below hb6); have r0_6 := tr.c0; have r1_6 := tr.c1; have r2_6 := tr.c2; have fr0_6 := tr.free 0; have fr1_6 := tr.free 1; have fr2_6 := tr.free 2; have R6 := Kp.mk tr; clear tr; have ts := (S5.out.below hb6); have s0_6 := ts.c0; have s1_6 := ts.c1; have s2_6 := ts.c2; have fs0_6 := ts.free 0; have fs1_6 := ts.free 1; have fs2_6 := ts.free 2; have S6 := Kp.mk ts; clear ts)
    | (go_at_call 21; refine (ways_st p q A B C D _ _ c d _ _ c' d' w6).mono ?_; rintro e w7 ⟨gw, gp, gq, rfl, hb7, hp7, hq7, hgw, e7, e7'⟩; have HB7 := Kp.mk (HB6.out.trans (hb7.mono HB6.out.size)); have HP7 := Kp.mk hp7; have HQ7 := Kp.mk hq7; have E7 := Kp.mk e7'; clear hp7 hq7 e7' p0_6 p1_6 p2_6 q0_6 q1_6 q2_6 r0_6 r1_6 r2_6 fr0_6 fr1_6 fr2_6 s0_6 s1_6 s2_6 fs0_6 fs1_6 fs2_6; have tp := (P6.out.below hb7); have p0_7 := tp.c0; have p1_7 := tp.c1; have p2_7 := tp.c2; have P7 := Kp.mk tp; clear tp; have tq := (Q6.out.below hb7); have q0_7 := tq.c0; have q1_7 := tq.c1; have q2_7 := tq.c2; have Q7 := Kp.mk tq; clear tq; have tr := (R6.out.below hb7); have r0_7 := tr.c0; have r1_7 := tr.c1; have r2_7 := tr.c2; have fr0_7 := tr.free 0; have fr1_7 := tr.free 1; have fr2_7 := tr.free 2; have R7 := Kp.mk tr; clear tr; have ts := (S6.out.below hb7); have s0_7 := ts.c0; have s1_7 := ts.c1; have s2_7 := ts.c2; have fs0_7 := ts.free 0; have fs1_7 := ts.free 1; have fs2_7 := ts.free 2; have S7 := Kp.mk ts; clear ts))
  refine wp_loop_rounds 4 ?_
  rw [rounds_succ]
  go_wp2_with (go_at_call 28; refine (way1_any p q A B _ _ c d gp gq w7 lx ly (by omega) (by omega) (by omega) (by omega) HP7.out.c0 HP7.out.c1 HP7.out.c2 HQ7.out.c0 HP7.out.lt HQ7.out.lt).mono ?_; rintro e w8 ⟨rfl, hb8⟩; rw [D1.out]; have HB8 := Kp.mk (HB7.out.trans (hb8.mono HB7.out.size)); clear e7 p0_7 p1_7 p2_7 q0_7 q1_7 q2_7 r0_7 r1_7 r2_7 fr0_7 fr1_7 fr2_7 s0_7 s1_7 s2_7 fs0_7 fs1_7 fs2_7; have e8 := (hb8.cell (p := ⟨gw, 1, none⟩) hgw).trans E7.out; have tp := (P7.out.below hb8); have p0_8 := tp.c0; have p1_8 := tp.c1; have p2_8 := tp.c2; have P8 := Kp.mk tp; clear tp; have tq := (Q7.out.below hb8); have q0_8 := tq.c0; have q1_8 := tq.c1; have q2_8 := tq.c2; have Q8 := Kp.mk tq; clear tq; have tr := (R7.out.below hb8); have r0_8 := tr.c0; have r1_8 := tr.c1; have r2_8 := tr.c2; have fr0_8 := tr.free 0; have fr1_8 := tr.free 1; have fr2_8 := tr.free 2; have R8 := Kp.mk tr; clear tr; have ts := (S7.out.below hb8); have s0_8 := ts.c0; have s1_8 := ts.c1; have s2_8 := ts.c2; have fs0_8 := ts.free 0; have fs1_8 := ts.free 1; have fs2_8 := ts.free 2; have S8 := Kp.mk ts; clear ts)
  rw [rounds_succ]
  go_wp2_with (go_at_call 30; refine (way2_any q p C D _ _ c' d' gq gp w8 lu lv (by omega) (by omega) (by omega) (by omega) (HQ7.out.below hb8).c0 (HQ7.out.below hb8).c1 (HQ7.out.below hb8).c2 (HP7.out.below hb8).c0 (HQ7.out.below hb8).lt (HP7.out.below hb8).lt).mono ?_; rintro e w9 ⟨rfl, hb9⟩; rw [D2.out]; have HB9 := Kp.mk (HB8.out.trans (hb9.mono HB8.out.size)); clear e8 p0_8 p1_8 p2_8 q0_8 q1_8 q2_8 r0_8 r1_8 r2_8 fr0_8 fr1_8 fr2_8 s0_8 s1_8 s2_8 fs0_8 fs1_8 fs2_8; have tp := (P8.out.below hb9); have p0_9 := tp.c0; have p1_9 := tp.c1; have p2_9 := tp.c2; have P9 := Kp.mk tp; clear tp; have tq := (Q8.out.below hb9); have q0_9 := tq.c0; have q1_9 := tq.c1; have q2_9 := tq.c2; have Q9 := Kp.mk tq; clear tq; have tr := (R8.out.below hb9); have r0_9 := tr.c0; have r1_9 := tr.c1; have r2_9 := tr.c2; have fr0_9 := tr.free 0; have fr1_9 := tr.free 1; have fr2_9 := tr.free 2; have R9 := Kp.mk tr; clear tr; have ts := (S8.out.below hb9); have s0_9 := ts.c0; have s1_9 := ts.c1; have s2_9 := ts.c2; have fs0_9 := ts.free 0; have fs1_9 := ts.free 1; have fs2_9 := ts.free 2; have S9 := Kp.mk ts; clear ts)
  have E3 := R9.out.setBoth S9.out (by omega) (.int .i64 0) (.slice none 0 0) (.slice none 0 0) (.int .i64 0) (.slice none 0 0) (.slice none 0 0)
  refine bodyPost_ret (results_h2 rfl _ _ (w.heap.size + 1 + 1) (w.heap.size + 1 + 1 + 1) _ _ _ _ _ _ rfl rfl E3.1 E3.2 _ rfl) rfl ?_
  exact ⟨rfl, below_setHk (below_setHk HB9.out (by omega) _ _ _) (by omega) _ _ _⟩
set_option maxHeartbeats 1000000 in
theorem Pass_no5 (p q : Int) (xs ys us vs : List ByteArray) (A B C D : Option Addr) (n m n' m' c d c' d' : Nat) (w : World) (hx : n = xs.length) (hy : m = ys.length) (hu : n' = us.length) (hv : m' = vs.length)
    (hA : SlS w.heap.size w A xs) (hB : SlS w.heap.size w B ys) (hC : SlS w.heap.size w C us) (hD : SlS w.heap.size w D vs) (lx : xs.length ≤ 100000) (ly : ys.length ≤ 100000) (lu : us.length ≤ 100000) (lv : vs.length ≤ 100000)
    (sx : ∀ x ∈ xs, x.size ≤ 9223372036854775807) (sy : ∀ x ∈ ys, x.size ≤ 9223372036854775807) (su : ∀ x ∈ us, x.size ≤ 9223372036854775807) (sv : ∀ x ∈ vs, x.size ≤ 9223372036854775807)
    (m1 : hMay p xs ys = true) (m2 : hMay q us vs = true) (d1 : ¬ p + (ys.length : Int) < q) (d2 : ¬ q + (us.length : Int) < p) :
    Calls Try.prog 12 #[.agg #[.int .i64 p, .slice A n c, .slice B m d], .agg #[.int .i64 q, .slice C n' c', .slice D m' d']] w fun e w' => e = .returned (.tuple #[(.agg #[.int .i64 0, .slice none 0 0, .slice none 0 0]), (.agg #[.int .i64 0, .slice none 0 0, .slice none 0 0]), .bool false]) ∧ Below w.heap.size w w' := by
  subst hx hy hu hv
  have HX := Kp.mk (And.intro hC (And.intro hD (And.intro lu lv)))
  clear HX
  obtain ⟨o1, ho1⟩ : ∃ o, Obj.cells #[.int .i64 p, .slice A xs.length c, .slice B ys.length d] 24 = o := ⟨_, rfl⟩
  obtain ⟨o2, ho2⟩ : ∃ o, Obj.cells #[.int .i64 q, .slice C us.length c', .slice D vs.length d'] 24 = o := ⟨_, rfl⟩
  obtain ⟨o0, ho0⟩ : ∃ o, Obj.cells #[.int .i64 0, .slice none 0 0, .slice none 0 0] 24 = o := ⟨_, rfl⟩
  obtain ⟨w4, hw4⟩ : ∃ w4, (((w.alloc o1).alloc o2).alloc o0).alloc o0 = w4 := ⟨_, rfl⟩
  obtain ⟨hb4, k1, k2, k3, k4⟩ := pass_boxes w (.int .i64 p) (.slice A xs.length c) (.slice B ys.length d) (.int .i64 q) (.slice C us.length c') (.slice D vs.length d') (.int .i64 0) (.slice none 0 0) (.slice none 0 0) w4 (by rw [ho1, ho2, ho0]; exact hw4)
  have M1 := Kp.mk m1
  have M2 := Kp.mk m2
  obtain ⟨⟨a1, a2⟩, -⟩ := hMay_out m1
  obtain ⟨⟨a3, a4⟩, -⟩ := hMay_out m2
  clear m1 m2
  have D1 : Kp (decide (p + (ys.length : Int) < q) = false) := ⟨decide_eq_false d1⟩
  have D2 : Kp (decide (q + (us.length : Int) < p) = false) := ⟨decide_eq_false d2⟩
  have HM1 := Kp.mk (hmay_any p xs ys A B _ _ c d w4 rfl rfl (hA.later hb4) (hB.later hb4) lx ly sx sy)
  have SU := Kp.mk su
  have SV := Kp.mk sv
  have K1 := Kp.mk k1
  have K2 := Kp.mk k2
  have K3 := Kp.mk k3
  have K4 := Kp.mk k4
  have p0 := k1.c0
  have p1 := k1.c1
  have p2 := k1.c2
  clear sx sy su sv k1 k2 k3 k4
  go_enter Try.func12, Try.ntmps12
  go_wp2_with (first
    | (go_at_call_of 20 p; refine HM1.out.mono ?_; rintro e w5 ⟨rfl, hb5⟩; rw [M1.out]; have HB5 := Kp.mk (hb4.trans (hb5.mono hb4.size)); have tp := (K1.out.below hb5); have p0_5 := tp.c0; have p1_5 := tp.c1; have p2_5 := tp.c2; have P5 := Kp.mk tp; clear tp; have tq := (K2.out.below hb5); have q0_5 := tq.c0; have q1_5 := tq.c1; have q2_5 := tq.c2; have Q5 := Kp.mk tq; clear tq; have tr := (K3.out.below hb5); have r0_5 := tr.c0; have r1_5 := tr.c1; have r2_5 := tr.c2; have fr0_5 := tr.free 0; have fr1_5 := tr.free 1; have fr2_5 := tr.free 2; have R5 := Kp.mk tr; clear tr; have ts := (K4.out.below hb5); have s0_5 := ts.c0; have s1_5 := ts.c1; have s2_5 := ts.c2; have fs0_5 := ts.free 0; have fs1_5 := ts.free 1; have fs2_5 := ts.free 2; have S5 := Kp.mk ts; clear ts; clear p0 p1 p2)
    | (go_at_call_of 20 q; refine (hmay_any q us vs C D _ _ c' d' w5 rfl rfl (hC.later HB5.out) (hD.later HB5.out) lu lv SU.out SV.out).mono ?_; rintro e w6 ⟨rfl, hb6⟩; rw [M2.out]; have HB6 := Kp.mk (HB5.out.trans (hb6.mono HB5.out.size)); have tp := (P5.out.below hb6); have p0_6 := tp.c0; have p1_6 := tp.c1; have p2_6 := tp.c2; have P6 := Kp.mk tp; clear tp; have tq := (Q5.out.below hb6); have q0_6 := tq.c0; have q1_6 := tq.c1; have q2_6 := tq.c2; have Q6 := Kp.mk tq; clear tq; have tr := (R5.out.below hb6); have r0_6 := tr.c0; have r1_6 := tr.c1; have r2_6 := tr.c2; have fr0_6 := tr.free 0; have fr1_6 := tr.free 1; have fr2_6 := tr.free 2; have R6 := Kp.mk tr; clear tr; have ts := (S5.out.below hb6); have s0_6 := ts.c0; have s1_6 := ts.c1; have s2_6 := ts.c2; have fs0_6 := ts.free 0; have fs1_6 := ts.free 1; have fs2_6 := ts.free 2; have S6 := Kp.mk ts; clear ts)
    | (go_at_call 21; refine (ways_st p q A B C D _ _ c d _ _ c' d' w6).mono ?_; rintro e w7 ⟨gw, gp, gq, rfl, hb7, hp7, hq7, hgw, e7, e7'⟩; have HB7 := Kp.mk (HB6.out.trans (hb7.mono HB6.out.size)); have HP7 := Kp.mk hp7; have HQ7 := Kp.mk hq7; have E7 := Kp.mk e7'; clear hp7 hq7 e7' p0_6 p1_6 p2_6 q0_6 q1_6 q2_6 r0_6 r1_6 r2_6 fr0_6 fr1_6 fr2_6 s0_6 s1_6 s2_6 fs0_6 fs1_6 fs2_6; have tp := (P6.out.below hb7); have p0_7 := tp.c0; have p1_7 := tp.c1; have p2_7 := tp.c2; have P7 := Kp.mk tp; clear tp; have tq := (Q6.out.below hb7); have q0_7 := tq.c0; have q1_7 := tq.c1; have q2_7 := tq.c2; have Q7 := Kp.mk tq; clear tq; have tr := (R6.out.below hb7); have r0_7 := tr.c0; have r1_7 := tr.c1; have r2_7 := tr.c2; have fr0_7 := tr.free 0; have fr1_7 := tr.free 1; have fr2_7 := tr.free 2; have R7 := Kp.mk tr; clear tr; have ts := (S6.out.below hb7); have s0_7 := ts.c0; have s1_7 := ts.c1; have s2_7 := ts.c2; have fs0_7 := ts.free 0; have fs1_7 := ts.free 1; have fs2_7 := ts.free 2; have S7 := Kp.mk ts; clear ts))
  refine wp_loop_rounds 4 ?_
  rw [rounds_succ]
  go_wp2_with (go_at_call 28; refine (way1_any p q A B _ _ c d gp gq w7 lx ly (by omega) (by omega) (by omega) (by omega) HP7.out.c0 HP7.out.c1 HP7.out.c2 HQ7.out.c0 HP7.out.lt HQ7.out.lt).mono ?_; rintro e w8 ⟨rfl, hb8⟩; rw [D1.out]; have HB8 := Kp.mk (HB7.out.trans (hb8.mono HB7.out.size)); clear e7 p0_7 p1_7 p2_7 q0_7 q1_7 q2_7 r0_7 r1_7 r2_7 fr0_7 fr1_7 fr2_7 s0_7 s1_7 s2_7 fs0_7 fs1_7 fs2_7; have e8 := (hb8.cell (p := ⟨gw, 1, none⟩) hgw).trans E7.out; have tp := (P7.out.below hb8); have p0_8 := tp.c0; have p1_8 := tp.c1; have p2_8 := tp.c2; have P8 := Kp.mk tp; clear tp; have tq := (Q7.out.below hb8); have q0_8 := tq.c0; have q1_8 := tq.c1; have q2_8 := tq.c2; have Q8 := Kp.mk tq; clear tq; have tr := (R7.out.below hb8); have r0_8 := tr.c0; have r1_8 := tr.c1; have r2_8 := tr.c2; have fr0_8 := tr.free 0; have fr1_8 := tr.free 1; have fr2_8 := tr.free 2; have R8 := Kp.mk tr; clear tr; have ts := (S7.out.below hb8); have s0_8 := ts.c0; have s1_8 := ts.c1; have s2_8 := ts.c2; have fs0_8 := ts.free 0; have fs1_8 := ts.free 1; have fs2_8 := ts.free 2; have S8 := Kp.mk ts; clear ts)
  rw [rounds_succ]
  go_wp2_with (go_at_call 30; refine (way2_any q p C D _ _ c' d' gq gp w8 lu lv (by omega) (by omega) (by omega) (by omega) (HQ7.out.below hb8).c0 (HQ7.out.below hb8).c1 (HQ7.out.below hb8).c2 (HP7.out.below hb8).c0 (HQ7.out.below hb8).lt (HP7.out.below hb8).lt).mono ?_; rintro e w9 ⟨rfl, hb9⟩; rw [D2.out]; have HB9 := Kp.mk (HB8.out.trans (hb9.mono HB8.out.size)); clear e8 p0_8 p1_8 p2_8 q0_8 q1_8 q2_8 r0_8 r1_8 r2_8 fr0_8 fr1_8 fr2_8 s0_8 s1_8 s2_8 fs0_8 fs1_8 fs2_8; have tp := (P8.out.below hb9); have p0_9 := tp.c0; have p1_9 := tp.c1; have p2_9 := tp.c2; have P9 := Kp.mk tp; clear tp; have tq := (Q8.out.below hb9); have q0_9 := tq.c0; have q1_9 := tq.c1; have q2_9 := tq.c2; have Q9 := Kp.mk tq; clear tq; have tr := (R8.out.below hb9); have r0_9 := tr.c0; have r1_9 := tr.c1; have r2_9 := tr.c2; have fr0_9 := tr.free 0; have fr1_9 := tr.free 1; have fr2_9 := tr.free 2; have R9 := Kp.mk tr; clear tr; have ts := (S8.out.below hb9); have s0_9 := ts.c0; have s1_9 := ts.c1; have s2_9 := ts.c2; have fs0_9 := ts.free 0; have fs1_9 := ts.free 1; have fs2_9 := ts.free 2; have S9 := Kp.mk ts; clear ts)
  rw [rounds_succ]
  go_wp2
  have E3 := R9.out.setBoth S9.out (by omega) (.int .i64 0) (.slice none 0 0) (.slice none 0 0) (.int .i64 0) (.slice none 0 0) (.slice none 0 0)
  refine bodyPost_ret (results_h2 rfl _ _ (w.heap.size + 1 + 1) (w.heap.size + 1 + 1 + 1) _ _ _ _ _ _ rfl rfl E3.1 E3.2 _ rfl) rfl ?_
  exact ⟨rfl, below_setHk (below_setHk HB9.out (by omega) _ _ _) (by omega) _ _ _⟩
end Go.Proofs.Ytnepgecdnhiokaa
