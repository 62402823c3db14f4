/- quiltmakerref06.Pass: the document's answer: the walks. -/
import Derived.Test.YtnepgecdnhiokaaSwapP
namespace Go.Proofs.Ytnepgecdnhiokaa
open Go.RowKit

set_option maxHeartbeats 1000000 in
theorem rPass_no1 (p q : Int) (xs ys us vs : List ByteArray) (A B C D : Option Addr) (n m n' m' c d c' d' : Nat) (w : World) (hx : n = xs.length) (hy : m = ys.length) (hu : n' = us.length) (hv : m' = vs.length)
    (hA : SlS w.heap.size w A xs) (hB : SlS w.heap.size w B ys) (hC : SlS w.heap.size w C us) (hD : SlS w.heap.size w D vs) (lx : xs.length ≤ 100000) (ly : ys.length ≤ 100000) (lu : us.length ≤ 100000) (lv : vs.length ≤ 100000)
    (sx : ∀ x ∈ xs, x.size ≤ 9223372036854775807) (sy : ∀ x ∈ ys, x.size ≤ 9223372036854775807) (su : ∀ x ∈ us, x.size ≤ 9223372036854775807) (sv : ∀ x ∈ vs, x.size ≤ 9223372036854775807)
    (b1 b2 : Bool) (m1 : hMay p xs ys = b1) (m2 : hMay q us vs = b2) (mm : (b1 && b2) = false) :
    Calls Try.prog 13 #[.agg #[.int .i64 p, .slice A n c, .slice B m d], .agg #[.int .i64 q, .slice C n' c', .slice D m' d']] w fun e w' => e = .returned (.tuple #[(.agg #[.int .i64 0, .slice none 0 0, .slice none 0 0]), (.agg #[.int .i64 0, .slice none 0 0, .slice none 0 0]), .bool false]) ∧ Below w.heap.size w w' := by
  subst hx hy hu hv
  have HX := Kp.mk (And.intro hC (And.intro hD (And.intro lu lv)))
  clear HX
  obtain ⟨o1, ho1⟩ : ∃ o, Obj.cells #[.int .i64 p, .slice A xs.length c, .slice B ys.length d] 24 = o := ⟨_, rfl⟩
  obtain ⟨o2, ho2⟩ : ∃ o, Obj.cells #[.int .i64 q, .slice C us.length c', .slice D vs.length d'] 24 = o := ⟨_, rfl⟩
  obtain ⟨o0, ho0⟩ : ∃ o, Obj.cells #[.int .i64 0, .slice none 0 0, .slice none 0 0] 24 = o := ⟨_, rfl⟩
  obtain ⟨w4, hw4⟩ : ∃ w4, (((w.alloc o1).alloc o2).alloc o0).alloc o0 = w4 := ⟨_, rfl⟩
  obtain ⟨hb4, k1, k2, k3, k4⟩ := pass_boxes w (.int .i64 p) (.slice A xs.length c) (.slice B ys.length d) (.int .i64 q) (.slice C us.length c') (.slice D vs.length d') (.int .i64 0) (.slice none 0 0) (.slice none 0 0) w4 (by rw [ho1, ho2, ho0]; exact hw4)
  have M1 := Kp.mk m1
  have M2 := Kp.mk m2
  clear m1 m2
  have hn5 := HkAt.new w4 (.int .i64 0) (.slice none 0 0) (.slice none 0 0)
  rw [ho0] at hn5
  have hb5 : Below w.heap.size w (w4.alloc o0) := hb4.alloc hb4.size o0
  have hg4 := k4.lt
  obtain ⟨gn, hgn⟩ : ∃ gn, w4.heap.size = gn := ⟨_, rfl⟩
  obtain ⟨w5, hw5⟩ : ∃ w5, w4.alloc o0 = w5 := ⟨_, rfl⟩
  have j1 := k1.alloc o0
  have j2 := k2.alloc o0
  have j3 := k3.alloc o0
  have j4 := k4.alloc o0
  rw [hw5] at hn5 hb5 j1 j2 j3 j4
  rw [hgn] at hn5 hg4
  obtain ⟨w6, hw6⟩ : ∃ w6, ((w5.setCell ⟨gn, 0, none⟩ (.int .i64 0)).setCell ⟨gn, 1, none⟩ (.slice none 0 0)).setCell ⟨gn, 2, none⟩ (.slice none 0 0) = w6 := ⟨_, rfl⟩
  have i1 := j1.farHk (h := gn) (by omega) (.int .i64 0) (.slice none 0 0) (.slice none 0 0)
  have i2 := j2.farHk (h := gn) (by omega) (.int .i64 0) (.slice none 0 0) (.slice none 0 0)
  have i3 := j3.farHk (h := gn) (by omega) (.int .i64 0) (.slice none 0 0) (.slice none 0 0)
  have i4 := j4.farHk (h := gn) (by omega) (.int .i64 0) (.slice none 0 0) (.slice none 0 0)
  have i5 := hn5.setAll (.int .i64 0) (.slice none 0 0) (.slice none 0 0)
  have hb6 := below_setHk hb5 (g := gn) (by omega) (.int .i64 0) (.slice none 0 0) (.slice none 0 0)
  rw [hw6] at i1 i2 i3 i4 i5 hb6
  have n0 := hn5.c0
  have n1 := hn5.c1
  have n2 := hn5.c2
  have fn0 := hn5.free 0
  have fn1 := hn5.free 1
  have fn2 := hn5.free 2
  have p0 := i1.c0
  have p1 := i1.c1
  have p2 := i1.c2
  have P6 := Kp.mk i1
  have Q6 := Kp.mk i2
  have R6 := Kp.mk i3
  have S6 := Kp.mk i4
  have N6 := Kp.mk i5
  have HB6 := Kp.mk hb6
  have HM1 := Kp.mk (rhmay_any p xs ys A B _ _ c d w6 rfl rfl (hA.later hb6) (hB.later hb6) lx ly sx sy)
  have SU := Kp.mk su
  have SV := Kp.mk sv
  have HZ : Kp (∀ W, Below w.heap.size w W → SlS W.heap.size W A xs ∧ SlS W.heap.size W B ys ∧ SlS W.heap.size W C us ∧ SlS W.heap.size W D vs) := ⟨fun W hW => ⟨hA.later hW, hB.later hW, hC.later hW, hD.later hW⟩⟩
  clear sx sy su sv i1 i2 i3 i4 i5 hb6 k1 k2 k3 k4 j1 j2 j3 j4 hn5 hb5 hb4
  cases b1 <;> cases b2
  all_goals (first | (exfalso; revert mm; decide) | skip)
  all_goals
    go_enter Try.func13, Try.ntmps13
    go_wp2_with (first
      | (go_at_call_of 23 p; refine HM1.out.mono ?_; rintro e w7 ⟨rfl, hb7⟩; rw [M1.out]; have HB7 := Kp.mk (HB6.out.trans (hb7.mono HB6.out.size)); clear p0 p1 p2 n0 n1 n2 fn0 fn1 fn2; have tp := P6.out.below hb7; have p0_7 := tp.c0; have p1_7 := tp.c1; have p2_7 := tp.c2; have fp0_7 := tp.free 0; have fp1_7 := tp.free 1; have fp2_7 := tp.free 2; have P7 := Kp.mk tp; clear tp; have tq := Q6.out.below hb7; have q0_7 := tq.c0; have q1_7 := tq.c1; have q2_7 := tq.c2; have fq0_7 := tq.free 0; have fq1_7 := tq.free 1; have fq2_7 := tq.free 2; have Q7 := Kp.mk tq; clear tq; have tr := R6.out.below hb7; have r0_7 := tr.c0; have r1_7 := tr.c1; have r2_7 := tr.c2; have fr0_7 := tr.free 0; have fr1_7 := tr.free 1; have fr2_7 := tr.free 2; have R7 := Kp.mk tr; clear tr; have ts := S6.out.below hb7; have s0_7 := ts.c0; have s1_7 := ts.c1; have s2_7 := ts.c2; have fs0_7 := ts.free 0; have fs1_7 := ts.free 1; have fs2_7 := ts.free 2; have S7 := Kp.mk ts; clear ts; have tn := N6.out.below hb7; have n0_7 := tn.c0; have n1_7 := tn.c1; have n2_7 := tn.c2; have N7 := Kp.mk tn; clear tn)
      | (go_at_call_of 23 q; refine (rhmay_any q us vs C D _ _ c' d' w7 rfl rfl (HZ.out w7 HB7.out).2.2.1 (HZ.out w7 HB7.out).2.2.2 lu lv SU.out SV.out).mono ?_; rintro e w8 ⟨rfl, hb8⟩; rw [M2.out]; have HB8 := Kp.mk (HB7.out.trans (hb8.mono HB7.out.size)); clear p0_7 p1_7 p2_7 fp0_7 fp1_7 fp2_7 q0_7 q1_7 q2_7 fq0_7 fq1_7 fq2_7 r0_7 r1_7 r2_7 fr0_7 fr1_7 fr2_7 s0_7 s1_7 s2_7 fs0_7 fs1_7 fs2_7 n0_7 n1_7 n2_7; have tp := P7.out.below hb8; have p0_8 := tp.c0; have p1_8 := tp.c1; have p2_8 := tp.c2; have fp0_8 := tp.free 0; have fp1_8 := tp.free 1; have fp2_8 := tp.free 2; have P8 := Kp.mk tp; clear tp; have tq := Q7.out.below hb8; have q0_8 := tq.c0; have q1_8 := tq.c1; have q2_8 := tq.c2; have fq0_8 := tq.free 0; have fq1_8 := tq.free 1; have fq2_8 := tq.free 2; have Q8 := Kp.mk tq; clear tq; have tr := R7.out.below hb8; have r0_8 := tr.c0; have r1_8 := tr.c1; have r2_8 := tr.c2; have fr0_8 := tr.free 0; have fr1_8 := tr.free 1; have fr2_8 := tr.free 2; have R8 := Kp.mk tr; clear tr; have ts := S7.out.below hb8; have s0_8 := ts.c0; have s1_8 := ts.c1; have s2_8 := ts.c2; have fs0_8 := ts.free 0; have fs1_8 := ts.free 1; have fs2_8 := ts.free 2; have S8 := Kp.mk ts; clear ts; have tn := N7.out.below hb8; have n0_8 := tn.c0; have n1_8 := tn.c1; have n2_8 := tn.c2; have N8 := Kp.mk tn; clear tn))
    clear p0_8 p1_8 p2_8 fp0_8 fp1_8 fp2_8 q0_8 q1_8 q2_8 fq0_8 fq1_8 fq2_8 hw4 hw5 hw6 ho1 ho2 ho0 hgn hb7 hb8
    go_region
    clear r0_8 r1_8 r2_8 fr0_8 fr1_8 fr2_8 s0_8 s1_8 s2_8 fs0_8 fs1_8 fs2_8 n0_8 n1_8 n2_8
    go_wp2
    have E := (R8.out).setBoth (S8.out) (by omega) (.int .i64 0) (.slice none 0 0) (.slice none 0 0) (.int .i64 0) (.slice none 0 0) (.slice none 0 0)
    have F := below_setHk (below_setHk HB8.out (g := w.heap.size + 1 + 1) (by omega) (.int .i64 0) (.slice none 0 0) (.slice none 0 0)) (g := w.heap.size + 1 + 1 + 1) (by omega) (.int .i64 0) (.slice none 0 0) (.slice none 0 0)
    refine bodyPost_ret (results_h2 rfl _ _ (w.heap.size + 1 + 1) (w.heap.size + 1 + 1 + 1) _ _ _ _ _ _ rfl rfl E.1.drew E.2.drew _ rfl) rfl ?_
    exact ⟨rfl, F.drew⟩

set_option maxHeartbeats 1000000 in
theorem rPass_no4 (p q : Int) (xs ys us vs : List ByteArray) (A B C D : Option Addr) (n m n' m' c d c' d' : Nat) (w : World) (hx : n = xs.length) (hy : m = ys.length) (hu : n' = us.length) (hv : m' = vs.length)
    (hA : SlS w.heap.size w A xs) (hB : SlS w.heap.size w B ys) (hC : SlS w.heap.size w C us) (hD : SlS w.heap.size w D vs) (lx : xs.length ≤ 100000) (ly : ys.length ≤ 100000) (lu : us.length ≤ 100000) (lv : vs.length ≤ 100000)
    (sx : ∀ x ∈ xs, x.size ≤ 9223372036854775807) (sy : ∀ x ∈ ys, x.size ≤ 9223372036854775807) (su : ∀ x ∈ us, x.size ≤ 9223372036854775807) (sv : ∀ x ∈ vs, x.size ≤ 9223372036854775807)
    (m1 : hMay p xs ys = true) (m2 : hMay q us vs = true) (d1 : ¬ p + (ys.length : Int) < q) (d2 : ¬ q + (us.length : Int) < p) :
    Calls Try.prog 13 #[.agg #[.int .i64 p, .slice A n c, .slice B m d], .agg #[.int .i64 q, .slice C n' c', .slice D m' d']] w fun e w' => e = .returned (.tuple #[(.agg #[.int .i64 0, .slice none 0 0, .slice none 0 0]), (.agg #[.int .i64 0, .slice none 0 0, .slice none 0 0]), .bool false]) ∧ Below w.heap.size w w' := by
  subst hx hy hu hv
  have HX := Kp.mk (And.intro hC (And.intro hD (And.intro lu lv)))
  clear HX
  obtain ⟨o1, ho1⟩ : ∃ o, Obj.cells #[.int .i64 p, .slice A xs.length c, .slice B ys.length d] 24 = o := ⟨_, rfl⟩
  obtain ⟨o2, ho2⟩ : ∃ o, Obj.cells #[.int .i64 q, .slice C us.length c', .slice D vs.length d'] 24 = o := ⟨_, rfl⟩
  obtain ⟨o0, ho0⟩ : ∃ o, Obj.cells #[.int .i64 0, .slice none 0 0, .slice none 0 0] 24 = o := ⟨_, rfl⟩
  obtain ⟨w4, hw4⟩ : ∃ w4, (((w.alloc o1).alloc o2).alloc o0).alloc o0 = w4 := ⟨_, rfl⟩
  obtain ⟨hb4, k1, k2, k3, k4⟩ := pass_boxes w (.int .i64 p) (.slice A xs.length c) (.slice B ys.length d) (.int .i64 q) (.slice C us.length c') (.slice D vs.length d') (.int .i64 0) (.slice none 0 0) (.slice none 0 0) w4 (by rw [ho1, ho2, ho0]; exact hw4)
  have M1 := Kp.mk m1
  have M2 := Kp.mk m2
  obtain ⟨⟨a1, a2⟩, -⟩ := hMay_out m1
  obtain ⟨⟨a3, a4⟩, -⟩ := hMay_out m2
  clear m1 m2
  have hn5 := HkAt.new w4 (.int .i64 0) (.slice none 0 0) (.slice none 0 0)
  rw [ho0] at hn5
  have hb5 : Below w.heap.size w (w4.alloc o0) := hb4.alloc hb4.size o0
  have hg4 := k4.lt
  obtain ⟨gn, hgn⟩ : ∃ gn, w4.heap.size = gn := ⟨_, rfl⟩
  obtain ⟨w5, hw5⟩ : ∃ w5, w4.alloc o0 = w5 := ⟨_, rfl⟩
  have j1 := k1.alloc o0
  have j2 := k2.alloc o0
  have j3 := k3.alloc o0
  have j4 := k4.alloc o0
  rw [hw5] at hn5 hb5 j1 j2 j3 j4
  rw [hgn] at hn5 hg4
  obtain ⟨w6, hw6⟩ : ∃ w6, ((w5.setCell ⟨gn, 0, none⟩ (.int .i64 0)).setCell ⟨gn, 1, none⟩ (.slice none 0 0)).setCell ⟨gn, 2, none⟩ (.slice none 0 0) = w6 := ⟨_, rfl⟩
  have i1 := j1.farHk (h := gn) (by omega) (.int .i64 0) (.slice none 0 0) (.slice none 0 0)
  have i2 := j2.farHk (h := gn) (by omega) (.int .i64 0) (.slice none 0 0) (.slice none 0 0)
  have i3 := j3.farHk (h := gn) (by omega) (.int .i64 0) (.slice none 0 0) (.slice none 0 0)
  have i4 := j4.farHk (h := gn) (by omega) (.int .i64 0) (.slice none 0 0) (.slice none 0 0)
  have i5 := hn5.setAll (.int .i64 0) (.slice none 0 0) (.slice none 0 0)
  have hb6 := below_setHk hb5 (g := gn) (by omega) (.int .i64 0) (.slice none 0 0) (.slice none 0 0)
  rw [hw6] at i1 i2 i3 i4 i5 hb6
  have n0 := hn5.c0
  have n1 := hn5.c1
  have n2 := hn5.c2
  have fn0 := hn5.free 0
  have fn1 := hn5.free 1
  have fn2 := hn5.free 2
  have p0 := i1.c0
  have p1 := i1.c1
  have p2 := i1.c2
  have P6 := Kp.mk i1
  have Q6 := Kp.mk i2
  have R6 := Kp.mk i3
  have S6 := Kp.mk i4
  have N6 := Kp.mk i5
  have HB6 := Kp.mk hb6
  have HM1 := Kp.mk (rhmay_any p xs ys A B _ _ c d w6 rfl rfl (hA.later hb6) (hB.later hb6) lx ly sx sy)
  have SU := Kp.mk su
  have SV := Kp.mk sv
  have HZ : Kp (∀ W, Below w.heap.size w W → SlS W.heap.size W A xs ∧ SlS W.heap.size W B ys ∧ SlS W.heap.size W C us ∧ SlS W.heap.size W D vs) := ⟨fun W hW => ⟨hA.later hW, hB.later hW, hC.later hW, hD.later hW⟩⟩
  clear sx sy su sv i1 i2 i3 i4 i5 hb6 k1 k2 k3 k4 j1 j2 j3 j4 hn5 hb5 hb4
  go_enter Try.func13, Try.ntmps13
  go_wp2_with (first
    | (go_at_call_of 23 p; refine HM1.out.mono ?_; rintro e w7 ⟨rfl, hb7⟩; rw [M1.out]; have HB7 := Kp.mk (HB6.out.trans (hb7.mono HB6.out.size)); clear p0 p1 p2 n0 n1 n2 fn0 fn1 fn2; have tp := P6.out.below hb7; have p0_7 := tp.c0; have p1_7 := tp.c1; have p2_7 := tp.c2; have fp0_7 := tp.free 0; have fp1_7 := tp.free 1; have fp2_7 := tp.free 2; have P7 := Kp.mk tp; clear tp; have tq := Q6.out.below hb7; have q0_7 := tq.c0; have q1_7 := tq.c1; have q2_7 := tq.c2; have fq0_7 := tq.free 0; have fq1_7 := tq.free 1; have fq2_7 := tq.free 2; have Q7 := Kp.mk tq; clear tq; have tr := R6.out.below hb7; have r0_7 := tr.c0; have r1_7 := tr.c1; have r2_7 := tr.c2; have fr0_7 := tr.free 0; have fr1_7 := tr.free 1; have fr2_7 := tr.free 2; have R7 := Kp.mk tr; clear tr; have ts := S6.out.below hb7; have s0_7 := ts.c0; have s1_7 := ts.c1; have s2_7 := ts.c2; have fs0_7 := ts.free 0; have fs1_7 := ts.free 1; have fs2_7 := ts.free 2; have S7 := Kp.mk ts; clear ts; have tn := N6.out.below hb7; have n0_7 := tn.c0; have n1_7 := tn.c1; have n2_7 := tn.c2; have N7 := Kp.mk tn; clear tn)
    | (go_at_call_of 23 q; refine (rhmay_any q us vs C D _ _ c' d' w7 rfl rfl (HZ.out w7 HB7.out).2.2.1 (HZ.out w7 HB7.out).2.2.2 lu lv SU.out SV.out).mono ?_; rintro e w8 ⟨rfl, hb8⟩; rw [M2.out]; have HB8 := Kp.mk (HB7.out.trans (hb8.mono HB7.out.size)); clear p0_7 p1_7 p2_7 fp0_7 fp1_7 fp2_7 q0_7 q1_7 q2_7 fq0_7 fq1_7 fq2_7 r0_7 r1_7 r2_7 fr0_7 fr1_7 fr2_7 s0_7 s1_7 s2_7 fs0_7 fs1_7 fs2_7 n0_7 n1_7 n2_7; have tp := P7.out.below hb8; have p0_8 := tp.c0; have p1_8 := tp.c1; have p2_8 := tp.c2; have fp0_8 := tp.free 0; have fp1_8 := tp.free 1; have fp2_8 := tp.free 2; have P8 := Kp.mk tp; clear tp; have tq := Q7.out.below hb8; have q0_8 := tq.c0; have q1_8 := tq.c1; have q2_8 := tq.c2; have fq0_8 := tq.free 0; have fq1_8 := tq.free 1; have fq2_8 := tq.free 2; have Q8 := Kp.mk tq; clear tq; have tr := R7.out.below hb8; have r0_8 := tr.c0; have r1_8 := tr.c1; have r2_8 := tr.c2; have fr0_8 := tr.free 0; have fr1_8 := tr.free 1; have fr2_8 := tr.free 2; have R8 := Kp.mk tr; clear tr; have ts := S7.out.below hb8; have s0_8 := ts.c0; have s1_8 := ts.c1; have s2_8 := ts.c2; have fs0_8 := ts.free 0; have fs1_8 := ts.free 1; have fs2_8 := ts.free 2; have S8 := Kp.mk ts; clear ts; have tn := N7.out.below hb8; have n0_8 := tn.c0; have n1_8 := tn.c1; have n2_8 := tn.c2; have N8 := Kp.mk tn; clear tn))
  clear p0_8 p1_8 p2_8 fp0_8 fp1_8 fp2_8 q0_8 q1_8 q2_8 fq0_8 fq1_8 fq2_8 hw4 hw5 hw6 ho1 ho2 ho0 hgn hb7 hb8
  go_region
  clear r0_8 r1_8 r2_8 fr0_8 fr1_8 fr2_8 s0_8 s1_8 s2_8 fs0_8 fs1_8 fs2_8 n0_8 n1_8 n2_8
  go_wp2
  have E := (R8.out).setBoth (S8.out) (by omega) (.int .i64 0) (.slice none 0 0) (.slice none 0 0) (.int .i64 0) (.slice none 0 0) (.slice none 0 0)
  have F := below_setHk (below_setHk HB8.out (g := w.heap.size + 1 + 1) (by omega) (.int .i64 0) (.slice none 0 0) (.slice none 0 0)) (g := w.heap.size + 1 + 1 + 1) (by omega) (.int .i64 0) (.slice none 0 0) (.slice none 0 0)
  refine bodyPost_ret (results_h2 rfl _ _ (w.heap.size + 1 + 1) (w.heap.size + 1 + 1 + 1) _ _ _ _ _ _ rfl rfl E.1.drew E.2.drew _ rfl) rfl ?_
  exact ⟨rfl, F.drew⟩

set_option maxHeartbeats 1000000 in
theorem rPass_no2 (p q : Int) (xs ys us vs : List ByteArray) (A B C D : Option Addr) (n m n' m' c d c' d' : Nat) (w : World) (hx : n = xs.length) (hy : m = ys.length) (hu : n' = us.length) (hv : m' = vs.length)
    (hA : SlS w.heap.size w A xs) (hB : SlS w.heap.size w B ys) (hC : SlS w.heap.size w C us) (hD : SlS w.heap.size w D vs) (lx : xs.length ≤ 100000) (ly : ys.length ≤ 100000) (lu : us.length ≤ 100000) (lv : vs.length ≤ 100000)
    (sx : ∀ x ∈ xs, x.size ≤ 9223372036854775807) (sy : ∀ x ∈ ys, x.size ≤ 9223372036854775807) (su : ∀ x ∈ us, x.size ≤ 9223372036854775807) (sv : ∀ x ∈ vs, x.size ≤ 9223372036854775807)
    (m1 : hMay p xs ys = true) (m2 : hMay q us vs = true) (d1 : p + (ys.length : Int) < q) (d2 : ¬ q + -((ys.length : Int) - (xs.length : Int)) ≤ 1048576) :
    Calls Try.prog 13 #[.agg #[.int .i64 p, .slice A n c, .slice B m d], .agg #[.int .i64 q, .slice C n' c', .slice D m' d']] w fun e w' => e = .returned (.tuple #[(.agg #[.int .i64 0, .slice none 0 0, .slice none 0 0]), (.agg #[.int .i64 0, .slice none 0 0, .slice none 0 0]), .bool false]) ∧ Below w.heap.size w w' := by
  subst hx hy hu hv
  have HX := Kp.mk (And.intro hC (And.intro hD (And.intro lu lv)))
  clear HX
  obtain ⟨o1, ho1⟩ : ∃ o, Obj.cells #[.int .i64 p, .slice A xs.length c, .slice B ys.length d] 24 = o := ⟨_, rfl⟩
  obtain ⟨o2, ho2⟩ : ∃ o, Obj.cells #[.int .i64 q, .slice C us.length c', .slice D vs.length d'] 24 = o := ⟨_, rfl⟩
  obtain ⟨o0, ho0⟩ : ∃ o, Obj.cells #[.int .i64 0, .slice none 0 0, .slice none 0 0] 24 = o := ⟨_, rfl⟩
  obtain ⟨w4, hw4⟩ : ∃ w4, (((w.alloc o1).alloc o2).alloc o0).alloc o0 = w4 := ⟨_, rfl⟩
  obtain ⟨hb4, k1, k2, k3, k4⟩ := pass_boxes w (.int .i64 p) (.slice A xs.length c) (.slice B ys.length d) (.int .i64 q) (.slice C us.length c') (.slice D vs.length d') (.int .i64 0) (.slice none 0 0) (.slice none 0 0) w4 (by rw [ho1, ho2, ho0]; exact hw4)
  have M1 := Kp.mk m1
  have M2 := Kp.mk m2
  obtain ⟨⟨a1, a2⟩, -⟩ := hMay_out m1
  obtain ⟨⟨a3, a4⟩, -⟩ := hMay_out m2
  clear m1 m2
  have hn5 := HkAt.new w4 (.int .i64 0) (.slice none 0 0) (.slice none 0 0)
  rw [ho0] at hn5
  have hb5 : Below w.heap.size w (w4.alloc o0) := hb4.alloc hb4.size o0
  have hg4 := k4.lt
  obtain ⟨gn, hgn⟩ : ∃ gn, w4.heap.size = gn := ⟨_, rfl⟩
  obtain ⟨w5, hw5⟩ : ∃ w5, w4.alloc o0 = w5 := ⟨_, rfl⟩
  have j1 := k1.alloc o0
  have j2 := k2.alloc o0
  have j3 := k3.alloc o0
  have j4 := k4.alloc o0
  rw [hw5] at hn5 hb5 j1 j2 j3 j4
  rw [hgn] at hn5 hg4
  obtain ⟨w6, hw6⟩ : ∃ w6, ((w5.setCell ⟨gn, 0, none⟩ (.int .i64 0)).setCell ⟨gn, 1, none⟩ (.slice none 0 0)).setCell ⟨gn, 2, none⟩ (.slice none 0 0) = w6 := ⟨_, rfl⟩
  have i1 := j1.farHk (h := gn) (by omega) (.int .i64 0) (.slice none 0 0) (.slice none 0 0)
  have i2 := j2.farHk (h := gn) (by omega) (.int .i64 0) (.slice none 0 0) (.slice none 0 0)
  have i3 := j3.farHk (h := gn) (by omega) (.int .i64 0) (.slice none 0 0) (.slice none 0 0)
  have i4 := j4.farHk (h := gn) (by omega) (.int .i64 0) (.slice none 0 0) (.slice none 0 0)
  have i5 := hn5.setAll (.int .i64 0) (.slice none 0 0) (.slice none 0 0)
  have hb6 := below_setHk hb5 (g := gn) (by omega) (.int .i64 0) (.slice none 0 0) (.slice none 0 0)
  rw [hw6] at i1 i2 i3 i4 i5 hb6
  have n0 := hn5.c0
  have n1 := hn5.c1
  have n2 := hn5.c2
  have fn0 := hn5.free 0
  have fn1 := hn5.free 1
  have fn2 := hn5.free 2
  have p0 := i1.c0
  have p1 := i1.c1
  have p2 := i1.c2
  have P6 := Kp.mk i1
  have Q6 := Kp.mk i2
  have R6 := Kp.mk i3
  have S6 := Kp.mk i4
  have N6 := Kp.mk i5
  have HB6 := Kp.mk hb6
  have HM1 := Kp.mk (rhmay_any p xs ys A B _ _ c d w6 rfl rfl (hA.later hb6) (hB.later hb6) lx ly sx sy)
  have SU := Kp.mk su
  have SV := Kp.mk sv
  have HZ : Kp (∀ W, Below w.heap.size w W → SlS W.heap.size W A xs ∧ SlS W.heap.size W B ys ∧ SlS W.heap.size W C us ∧ SlS W.heap.size W D vs) := ⟨fun W hW => ⟨hA.later hW, hB.later hW, hC.later hW, hD.later hW⟩⟩
  clear sx sy su sv i1 i2 i3 i4 i5 hb6 k1 k2 k3 k4 j1 j2 j3 j4 hn5 hb5 hb4
  go_enter Try.func13, Try.ntmps13
  go_wp2_with (first
    | (go_at_call_of 23 p; refine HM1.out.mono ?_; rintro e w7 ⟨rfl, hb7⟩; rw [M1.out]; have HB7 := Kp.mk (HB6.out.trans (hb7.mono HB6.out.size)); clear p0 p1 p2 n0 n1 n2 fn0 fn1 fn2; have tp := P6.out.below hb7; have p0_7 := tp.c0; have p1_7 := tp.c1; have p2_7 := tp.c2; have fp0_7 := tp.free 0; have fp1_7 := tp.free 1; have fp2_7 := tp.free 2; have P7 := Kp.mk tp; clear tp; have tq := Q6.out.below hb7; have q0_7 := tq.c0; have q1_7 := tq.c1; have q2_7 := tq.c2; have fq0_7 := tq.free 0; have fq1_7 := tq.free 1; have fq2_7 := tq.free 2; have Q7 := Kp.mk tq; clear tq; have tr := R6.out.below hb7; have r0_7 := tr.c0; have r1_7 := tr.c1; have r2_7 := tr.c2; have fr0_7 := tr.free 0; have fr1_7 := tr.free 1; have fr2_7 := tr.free 2; have R7 := Kp.mk tr; clear tr; have ts := S6.out.below hb7; have s0_7 := ts.c0; have s1_7 := ts.c1; have s2_7 := ts.c2; have fs0_7 := ts.free 0; have fs1_7 := ts.free 1; have fs2_7 := ts.free 2; have S7 := Kp.mk ts; clear ts; have tn := N6.out.below hb7; have n0_7 := tn.c0; have n1_7 := tn.c1; have n2_7 := tn.c2; have N7 := Kp.mk tn; clear tn)
    | (go_at_call_of 23 q; refine (rhmay_any q us vs C D _ _ c' d' w7 rfl rfl (HZ.out w7 HB7.out).2.2.1 (HZ.out w7 HB7.out).2.2.2 lu lv SU.out SV.out).mono ?_; rintro e w8 ⟨rfl, hb8⟩; rw [M2.out]; have HB8 := Kp.mk (HB7.out.trans (hb8.mono HB7.out.size)); clear p0_7 p1_7 p2_7 fp0_7 fp1_7 fp2_7 q0_7 q1_7 q2_7 fq0_7 fq1_7 fq2_7 r0_7 r1_7 r2_7 fr0_7 fr1_7 fr2_7 s0_7 s1_7 s2_7 fs0_7 fs1_7 fs2_7 n0_7 n1_7 n2_7; have tp := P7.out.below hb8; have p0_8 := tp.c0; have p1_8 := tp.c1; have p2_8 := tp.c2; have fp0_8 := tp.free 0; have fp1_8 := tp.free 1; have fp2_8 := tp.free 2; have P8 := Kp.mk tp; clear tp; have tq := Q7.out.below hb8; have q0_8 := tq.c0; have q1_8 := tq.c1; have q2_8 := tq.c2; have fq0_8 := tq.free 0; have fq1_8 := tq.free 1; have fq2_8 := tq.free 2; have Q8 := Kp.mk tq; clear tq; have tr := R7.out.below hb8; have r0_8 := tr.c0; have r1_8 := tr.c1; have r2_8 := tr.c2; have fr0_8 := tr.free 0; have fr1_8 := tr.free 1; have fr2_8 := tr.free 2; have R8 := Kp.mk tr; clear tr; have ts := S7.out.below hb8; have s0_8 := ts.c0; have s1_8 := ts.c1; have s2_8 := ts.c2; have fs0_8 := ts.free 0; have fs1_8 := ts.free 1; have fs2_8 := ts.free 2; have S8 := Kp.mk ts; clear ts; have tn := N7.out.below hb8; have n0_8 := tn.c0; have n1_8 := tn.c1; have n2_8 := tn.c2; have N8 := Kp.mk tn; clear tn))
  clear  hw4 hw5 hw6 ho1 ho2 ho0 hgn hb7 hb8
  go_region
  clear p0_8 p1_8 p2_8 fp0_8 fp1_8 fp2_8 q0_8 q1_8 q2_8 fq0_8 fq1_8 fq2_8 r0_8 r1_8 r2_8 fr0_8 fr1_8 fr2_8 s0_8 s1_8 s2_8 fs0_8 fs1_8 fs2_8 n0_8 n1_8 n2_8
  go_wp2
  have E := (R8.out.far (show _ ≠ (⟨w.heap.size + 1, 0, none⟩ : Addr).block by dsimp only; omega) (.int .i64 (q - (ys.length : Int) + (xs.length : Int)))).setBoth (S8.out.far (show _ ≠ (⟨w.heap.size + 1, 0, none⟩ : Addr).block by dsimp only; omega) (.int .i64 (q - (ys.length : Int) + (xs.length : Int)))) (by omega) (.int .i64 0) (.slice none 0 0) (.slice none 0 0) (.int .i64 0) (.slice none 0 0) (.slice none 0 0)
  have F := below_setHk (below_setHk (HB8.out.setCell (show w.heap.size ≤ (⟨w.heap.size + 1, 0, none⟩ : Addr).block by dsimp only; omega) (.int .i64 (q - (ys.length : Int) + (xs.length : Int)))) (g := w.heap.size + 1 + 1) (by omega) (.int .i64 0) (.slice none 0 0) (.slice none 0 0)) (g := w.heap.size + 1 + 1 + 1) (by omega) (.int .i64 0) (.slice none 0 0) (.slice none 0 0)
  refine bodyPost_ret (results_h2 rfl _ _ (w.heap.size + 1 + 1) (w.heap.size + 1 + 1 + 1) _ _ _ _ _ _ rfl rfl E.1.drew E.2.drew _ rfl) rfl ?_
  exact ⟨rfl, F.drew⟩

set_option maxHeartbeats 1000000 in
theorem rPass_no3 (p q : Int) (xs ys us vs : List ByteArray) (A B C D : Option Addr) (n m n' m' c d c' d' : Nat) (w : World) (hx : n = xs.length) (hy : m = ys.length) (hu : n' = us.length) (hv : m' = vs.length)
    (hA : SlS w.heap.size w A xs) (hB : SlS w.heap.size w B ys) (hC : SlS w.heap.size w C us) (hD : SlS w.heap.size w D vs) (lx : xs.length ≤ 100000) (ly : ys.length ≤ 100000) (lu : us.length ≤ 100000) (lv : vs.length ≤ 100000)
    (sx : ∀ x ∈ xs, x.size ≤ 9223372036854775807) (sy : ∀ x ∈ ys, x.size ≤ 9223372036854775807) (su : ∀ x ∈ us, x.size ≤ 9223372036854775807) (sv : ∀ x ∈ vs, x.size ≤ 9223372036854775807)
    (m1 : hMay p xs ys = true) (m2 : hMay q us vs = true) (d1 : ¬ p + (ys.length : Int) < q) (d2 : q + (us.length : Int) < p) (d3 : ¬ p + ((vs.length : Int) - (us.length : Int)) ≤ 1048576) :
    Calls Try.prog 13 #[.agg #[.int .i64 p, .slice A n c, .slice B m d], .agg #[.int .i64 q, .slice C n' c', .slice D m' d']] w fun e w' => e = .returned (.tuple #[(.agg #[.int .i64 0, .slice none 0 0, .slice none 0 0]), (.agg #[.int .i64 0, .slice none 0 0, .slice none 0 0]), .bool false]) ∧ Below w.heap.size w w' := by
  subst hx hy hu hv
  have HX := Kp.mk (And.intro hC (And.intro hD (And.intro lu lv)))
  clear HX
  obtain ⟨o1, ho1⟩ : ∃ o, Obj.cells #[.int .i64 p, .slice A xs.length c, .slice B ys.length d] 24 = o := ⟨_, rfl⟩
  obtain ⟨o2, ho2⟩ : ∃ o, Obj.cells #[.int .i64 q, .slice C us.length c', .slice D vs.length d'] 24 = o := ⟨_, rfl⟩
  obtain ⟨o0, ho0⟩ : ∃ o, Obj.cells #[.int .i64 0, .slice none 0 0, .slice none 0 0] 24 = o := ⟨_, rfl⟩
  obtain ⟨w4, hw4⟩ : ∃ w4, (((w.alloc o1).alloc o2).alloc o0).alloc o0 = w4 := ⟨_, rfl⟩
  obtain ⟨hb4, k1, k2, k3, k4⟩ := pass_boxes w (.int .i64 p) (.slice A xs.length c) (.slice B ys.length d) (.int .i64 q) (.slice C us.length c') (.slice D vs.length d') (.int .i64 0) (.slice none 0 0) (.slice none 0 0) w4 (by rw [ho1, ho2, ho0]; exact hw4)
  have M1 := Kp.mk m1
  have M2 := Kp.mk m2
  obtain ⟨⟨a1, a2⟩, -⟩ := hMay_out m1
  obtain ⟨⟨a3, a4⟩, -⟩ := hMay_out m2
  clear m1 m2
  have hn5 := HkAt.new w4 (.int .i64 0) (.slice none 0 0) (.slice none 0 0)
  rw [ho0] at hn5
  have hb5 : Below w.heap.size w (w4.alloc o0) := hb4.alloc hb4.size o0
  have hg4 := k4.lt
  obtain ⟨gn, hgn⟩ : ∃ gn, w4.heap.size = gn := ⟨_, rfl⟩
  obtain ⟨w5, hw5⟩ : ∃ w5, w4.alloc o0 = w5 := ⟨_, rfl⟩
  have j1 := k1.alloc o0
  have j2 := k2.alloc o0
  have j3 := k3.alloc o0
  have j4 := k4.alloc o0
  rw [hw5] at hn5 hb5 j1 j2 j3 j4
  rw [hgn] at hn5 hg4
  obtain ⟨w6, hw6⟩ : ∃ w6, ((w5.setCell ⟨gn, 0, none⟩ (.int .i64 0)).setCell ⟨gn, 1, none⟩ (.slice none 0 0)).setCell ⟨gn, 2, none⟩ (.slice none 0 0) = w6 := ⟨_, rfl⟩
  have i1 := j1.farHk (h := gn) (by omega) (.int .i64 0) (.slice none 0 0) (.slice none 0 0)
  have i2 := j2.farHk (h := gn) (by omega) (.int .i64 0) (.slice none 0 0) (.slice none 0 0)
  have i3 := j3.farHk (h := gn) (by omega) (.int .i64 0) (.slice none 0 0) (.slice none 0 0)
  have i4 := j4.farHk (h := gn) (by omega) (.int .i64 0) (.slice none 0 0) (.slice none 0 0)
  have i5 := hn5.setAll (.int .i64 0) (.slice none 0 0) (.slice none 0 0)
  have hb6 := below_setHk hb5 (g := gn) (by omega) (.int .i64 0) (.slice none 0 0) (.slice none 0 0)
  rw [hw6] at i1 i2 i3 i4 i5 hb6
  have n0 := hn5.c0
  have n1 := hn5.c1
  have n2 := hn5.c2
  have fn0 := hn5.free 0
  have fn1 := hn5.free 1
  have fn2 := hn5.free 2
  have p0 := i1.c0
  have p1 := i1.c1
  have p2 := i1.c2
  have P6 := Kp.mk i1
  have Q6 := Kp.mk i2
  have R6 := Kp.mk i3
  have S6 := Kp.mk i4
  have N6 := Kp.mk i5
  have HB6 := Kp.mk hb6
  have HM1 := Kp.mk (rhmay_any p xs ys A B _ _ c d w6 rfl rfl (hA.later hb6) (hB.later hb6) lx ly sx sy)
  have SU := Kp.mk su
  have SV := Kp.mk sv
  have HZ : Kp (∀ W, Below w.heap.size w W → SlS W.heap.size W A xs ∧ SlS W.heap.size W B ys ∧ SlS W.heap.size W C us ∧ SlS W.heap.size W D vs) := ⟨fun W hW => ⟨hA.later hW, hB.later hW, hC.later hW, hD.later hW⟩⟩
  clear sx sy su sv i1 i2 i3 i4 i5 hb6 k1 k2 k3 k4 j1 j2 j3 j4 hn5 hb5 hb4
  go_enter Try.func13, Try.ntmps13
  go_wp2_with (first
    | (go_at_call_of 23 p; refine HM1.out.mono ?_; rintro e w7 ⟨rfl, hb7⟩; rw [M1.out]; have HB7 := Kp.mk (HB6.out.trans (hb7.mono HB6.out.size)); clear p0 p1 p2 n0 n1 n2 fn0 fn1 fn2; have tp := P6.out.below hb7; have p0_7 := tp.c0; have p1_7 := tp.c1; have p2_7 := tp.c2; have fp0_7 := tp.free 0; have fp1_7 := tp.free 1; have fp2_7 := tp.free 2; have P7 := Kp.mk tp; clear tp; have tq := Q6.out.below hb7; have q0_7 := tq.c0; have q1_7 := tq.c1; have q2_7 := tq.c2; have fq0_7 := tq.free 0; have fq1_7 := tq.free 1; have fq2_7 := tq.free 2; have Q7 := Kp.mk tq; clear tq; have tr := R6.out.below hb7; have r0_7 := tr.c0; have r1_7 := tr.c1; have r2_7 := tr.c2; have fr0_7 := tr.free 0; have fr1_7 := tr.free 1; have fr2_7 := tr.free 2; have R7 := Kp.mk tr; clear tr; have ts := S6.out.below hb7; have s0_7 := ts.c0; have s1_7 := ts.c1; have s2_7 := ts.c2; have fs0_7 := ts.free 0; have fs1_7 := ts.free 1; have fs2_7 := ts.free 2; have S7 := Kp.mk ts; clear ts; have tn := N6.out.below hb7; have n0_7 := tn.c0; have n1_7 := tn.c1; have n2_7 := tn.c2; have N7 := Kp.mk tn; clear tn)
    | (go_at_call_of 23 q; refine (rhmay_any q us vs C D _ _ c' d' w7 rfl rfl (HZ.out w7 HB7.out).2.2.1 (HZ.out w7 HB7.out).2.2.2 lu lv SU.out SV.out).mono ?_; rintro e w8 ⟨rfl, hb8⟩; rw [M2.out]; have HB8 := Kp.mk (HB7.out.trans (hb8.mono HB7.out.size)); clear p0_7 p1_7 p2_7 fp0_7 fp1_7 fp2_7 q0_7 q1_7 q2_7 fq0_7 fq1_7 fq2_7 r0_7 r1_7 r2_7 fr0_7 fr1_7 fr2_7 s0_7 s1_7 s2_7 fs0_7 fs1_7 fs2_7 n0_7 n1_7 n2_7; have tp := P7.out.below hb8; have p0_8 := tp.c0; have p1_8 := tp.c1; have p2_8 := tp.c2; have fp0_8 := tp.free 0; have fp1_8 := tp.free 1; have fp2_8 := tp.free 2; have P8 := Kp.mk tp; clear tp; have tq := Q7.out.below hb8; have q0_8 := tq.c0; have q1_8 := tq.c1; have q2_8 := tq.c2; have fq0_8 := tq.free 0; have fq1_8 := tq.free 1; have fq2_8 := tq.free 2; have Q8 := Kp.mk tq; clear tq; have tr := R7.out.below hb8; have r0_8 := tr.c0; have r1_8 := tr.c1; have r2_8 := tr.c2; have fr0_8 := tr.free 0; have fr1_8 := tr.free 1; have fr2_8 := tr.free 2; have R8 := Kp.mk tr; clear tr; have ts := S7.out.below hb8; have s0_8 := ts.c0; have s1_8 := ts.c1; have s2_8 := ts.c2; have fs0_8 := ts.free 0; have fs1_8 := ts.free 1; have fs2_8 := ts.free 2; have S8 := Kp.mk ts; clear ts; have tn := N7.out.below hb8; have n0_8 := tn.c0; have n1_8 := tn.c1; have n2_8 := tn.c2; have N8 := Kp.mk tn; clear tn))
  clear  hw4 hw5 hw6 ho1 ho2 ho0 hgn hb7 hb8
  go_region
  clear p0_8 p1_8 p2_8 fp0_8 fp1_8 fp2_8 q0_8 q1_8 q2_8 fq0_8 fq1_8 fq2_8 r0_8 r1_8 r2_8 fr0_8 fr1_8 fr2_8 s0_8 s1_8 s2_8 fs0_8 fs1_8 fs2_8 n0_8 n1_8 n2_8
  go_wp2
  have E := (R8.out.far (show _ ≠ (⟨w.heap.size, 0, none⟩ : Addr).block by dsimp only; omega) (.int .i64 (p - (us.length : Int) + (vs.length : Int)))).setBoth (S8.out.far (show _ ≠ (⟨w.heap.size, 0, none⟩ : Addr).block by dsimp only; omega) (.int .i64 (p - (us.length : Int) + (vs.length : Int)))) (by omega) (.int .i64 0) (.slice none 0 0) (.slice none 0 0) (.int .i64 0) (.slice none 0 0) (.slice none 0 0)
  have F := below_setHk (below_setHk (HB8.out.setCell (show w.heap.size ≤ (⟨w.heap.size, 0, none⟩ : Addr).block by dsimp only; omega) (.int .i64 (p - (us.length : Int) + (vs.length : Int)))) (g := w.heap.size + 1 + 1) (by omega) (.int .i64 0) (.slice none 0 0) (.slice none 0 0)) (g := w.heap.size + 1 + 1 + 1) (by omega) (.int .i64 0) (.slice none 0 0) (.slice none 0 0)
  refine bodyPost_ret (results_h2 rfl _ _ (w.heap.size + 1 + 1) (w.heap.size + 1 + 1 + 1) _ _ _ _ _ _ rfl rfl E.1.drew E.2.drew _ rfl) rfl ?_
  exact ⟨rfl, F.drew⟩

set_option maxHeartbeats 1000000 in
theorem rPass_yes1 (p q : Int) (xs ys us vs : List ByteArray) (A B C D : Option Addr) (n m n' m' c d c' d' : Nat) (w : World) (hx : n = xs.length) (hy : m = ys.length) (hu : n' = us.length) (hv : m' = vs.length)
    (hA : SlS w.heap.size w A xs) (hB : SlS w.heap.size w B ys) (hC : SlS w.heap.size w C us) (hD : SlS w.heap.size w D vs) (lx : xs.length ≤ 100000) (ly : ys.length ≤ 100000) (lu : us.length ≤ 100000) (lv : vs.length ≤ 100000)
    (sx : ∀ x ∈ xs, x.size ≤ 9223372036854775807) (sy : ∀ x ∈ ys, x.size ≤ 9223372036854775807) (su : ∀ x ∈ us, x.size ≤ 9223372036854775807) (sv : ∀ x ∈ vs, x.size ≤ 9223372036854775807)
    (m1 : hMay p xs ys = true) (m2 : hMay q us vs = true) (d1 : p + (ys.length : Int) < q) (d2 : q + -((ys.length : Int) - (xs.length : Int)) ≤ 1048576) :
    Calls Try.prog 13 #[.agg #[.int .i64 p, .slice A n c, .slice B m d], .agg #[.int .i64 q, .slice C n' c', .slice D m' d']] w fun e w' => ∃ x y, x = p ∧ y = q - (ys.length : Int) + (xs.length : Int) ∧ e = .returned (.tuple #[.agg #[.int .i64 y, .slice C us.length c', .slice D vs.length d'], .agg #[.int .i64 x, .slice A xs.length c, .slice B ys.length d], .bool true]) ∧ Below w.heap.size w w' := by
  subst hx hy hu hv
  have HX := Kp.mk (And.intro hC (And.intro hD (And.intro lu lv)))
  clear HX
  obtain ⟨o1, ho1⟩ : ∃ o, Obj.cells #[.int .i64 p, .slice A xs.length c, .slice B ys.length d] 24 = o := ⟨_, rfl⟩
  obtain ⟨o2, ho2⟩ : ∃ o, Obj.cells #[.int .i64 q, .slice C us.length c', .slice D vs.length d'] 24 = o := ⟨_, rfl⟩
  obtain ⟨o0, ho0⟩ : ∃ o, Obj.cells #[.int .i64 0, .slice none 0 0, .slice none 0 0] 24 = o := ⟨_, rfl⟩
  obtain ⟨w4, hw4⟩ : ∃ w4, (((w.alloc o1).alloc o2).alloc o0).alloc o0 = w4 := ⟨_, rfl⟩
  obtain ⟨hb4, k1, k2, k3, k4⟩ := pass_boxes w (.int .i64 p) (.slice A xs.length c) (.slice B ys.length d) (.int .i64 q) (.slice C us.length c') (.slice D vs.length d') (.int .i64 0) (.slice none 0 0) (.slice none 0 0) w4 (by rw [ho1, ho2, ho0]; exact hw4)
  have M1 := Kp.mk m1
  have M2 := Kp.mk m2
  obtain ⟨⟨a1, a2⟩, -⟩ := hMay_out m1
  obtain ⟨⟨a3, a4⟩, -⟩ := hMay_out m2
  clear m1 m2
  have hn5 := HkAt.new w4 (.int .i64 0) (.slice none 0 0) (.slice none 0 0)
  rw [ho0] at hn5
  have hb5 : Below w.heap.size w (w4.alloc o0) := hb4.alloc hb4.size o0
  have hg4 := k4.lt
  obtain ⟨gn, hgn⟩ : ∃ gn, w4.heap.size = gn := ⟨_, rfl⟩
  obtain ⟨w5, hw5⟩ : ∃ w5, w4.alloc o0 = w5 := ⟨_, rfl⟩
  have j1 := k1.alloc o0
  have j2 := k2.alloc o0
  have j3 := k3.alloc o0
  have j4 := k4.alloc o0
  rw [hw5] at hn5 hb5 j1 j2 j3 j4
  rw [hgn] at hn5 hg4
  obtain ⟨w6, hw6⟩ : ∃ w6, ((w5.setCell ⟨gn, 0, none⟩ (.int .i64 0)).setCell ⟨gn, 1, none⟩ (.slice none 0 0)).setCell ⟨gn, 2, none⟩ (.slice none 0 0) = w6 := ⟨_, rfl⟩
  have i1 := j1.farHk (h := gn) (by omega) (.int .i64 0) (.slice none 0 0) (.slice none 0 0)
  have i2 := j2.farHk (h := gn) (by omega) (.int .i64 0) (.slice none 0 0) (.slice none 0 0)
  have i3 := j3.farHk (h := gn) (by omega) (.int .i64 0) (.slice none 0 0) (.slice none 0 0)
  have i4 := j4.farHk (h := gn) (by omega) (.int .i64 0) (.slice none 0 0) (.slice none 0 0)
  have i5 := hn5.setAll (.int .i64 0) (.slice none 0 0) (.slice none 0 0)
  have hb6 := below_setHk hb5 (g := gn) (by omega) (.int .i64 0) (.slice none 0 0) (.slice none 0 0)
  rw [hw6] at i1 i2 i3 i4 i5 hb6
  have n0 := hn5.c0
  have n1 := hn5.c1
  have n2 := hn5.c2
  have fn0 := hn5.free 0
  have fn1 := hn5.free 1
  have fn2 := hn5.free 2
  have p0 := i1.c0
  have p1 := i1.c1
  have p2 := i1.c2
  have P6 := Kp.mk i1
  have Q6 := Kp.mk i2
  have R6 := Kp.mk i3
  have S6 := Kp.mk i4
  have N6 := Kp.mk i5
  have HB6 := Kp.mk hb6
  have HM1 := Kp.mk (rhmay_any p xs ys A B _ _ c d w6 rfl rfl (hA.later hb6) (hB.later hb6) lx ly sx sy)
  have SU := Kp.mk su
  have SV := Kp.mk sv
  have HZ : Kp (∀ W, Below w.heap.size w W → SlS W.heap.size W A xs ∧ SlS W.heap.size W B ys ∧ SlS W.heap.size W C us ∧ SlS W.heap.size W D vs) := ⟨fun W hW => ⟨hA.later hW, hB.later hW, hC.later hW, hD.later hW⟩⟩
  clear sx sy su sv i1 i2 i3 i4 i5 hb6 k1 k2 k3 k4 j1 j2 j3 j4 hn5 hb5 hb4
  go_enter Try.func13, Try.ntmps13
  go_wp2_with (first
    | (go_at_call_of 23 p; refine HM1.out.mono ?_; rintro e w7 ⟨rfl, hb7⟩; rw [M1.out]; have HB7 := Kp.mk (HB6.out.trans (hb7.mono HB6.out.size)); clear p0 p1 p2 n0 n1 n2 fn0 fn1 fn2; have tp := P6.out.below hb7; have p0_7 := tp.c0; have p1_7 := tp.c1; have p2_7 := tp.c2; have fp0_7 := tp.free 0; have fp1_7 := tp.free 1; have fp2_7 := tp.free 2; have P7 := Kp.mk tp; clear tp; have tq := Q6.out.below hb7; have q0_7 := tq.c0; have q1_7 := tq.c1; have q2_7 := tq.c2; have fq0_7 := tq.free 0; have fq1_7 := tq.free 1; have fq2_7 := tq.free 2; have Q7 := Kp.mk tq; clear tq; have tr := R6.out.below hb7; have r0_7 := tr.c0; have r1_7 := tr.c1; have r2_7 := tr.c2; have fr0_7 := tr.free 0; have fr1_7 := tr.free 1; have fr2_7 := tr.free 2; have R7 := Kp.mk tr; clear tr; have ts := S6.out.below hb7; have s0_7 := ts.c0; have s1_7 := ts.c1; have s2_7 := ts.c2; have fs0_7 := ts.free 0; have fs1_7 := ts.free 1; have fs2_7 := ts.free 2; have S7 := Kp.mk ts; clear ts; have tn := N6.out.below hb7; have n0_7 := tn.c0; have n1_7 := tn.c1; have n2_7 := tn.c2; have N7 := Kp.mk tn; clear tn)
    | (go_at_call_of 23 q; refine (rhmay_any q us vs C D _ _ c' d' w7 rfl rfl (HZ.out w7 HB7.out).2.2.1 (HZ.out w7 HB7.out).2.2.2 lu lv SU.out SV.out).mono ?_; rintro e w8 ⟨rfl, hb8⟩; rw [M2.out]; have HB8 := Kp.mk (HB7.out.trans (hb8.mono HB7.out.size)); clear p0_7 p1_7 p2_7 fp0_7 fp1_7 fp2_7 q0_7 q1_7 q2_7 fq0_7 fq1_7 fq2_7 r0_7 r1_7 r2_7 fr0_7 fr1_7 fr2_7 s0_7 s1_7 s2_7 fs0_7 fs1_7 fs2_7 n0_7 n1_7 n2_7; have tp := P7.out.below hb8; have p0_8 := tp.c0; have p1_8 := tp.c1; have p2_8 := tp.c2; have fp0_8 := tp.free 0; have fp1_8 := tp.free 1; have fp2_8 := tp.free 2; have P8 := Kp.mk tp; clear tp; have tq := Q7.out.below hb8; have q0_8 := tq.c0; have q1_8 := tq.c1; have q2_8 := tq.c2; have fq0_8 := tq.free 0; have fq1_8 := tq.free 1; have fq2_8 := tq.free 2; have Q8 := Kp.mk tq; clear tq; have tr := R7.out.below hb8; have r0_8 := tr.c0; have r1_8 := tr.c1; have r2_8 := tr.c2; have fr0_8 := tr.free 0; have fr1_8 := tr.free 1; have fr2_8 := tr.free 2; have R8 := Kp.mk tr; clear tr; have ts := S7.out.below hb8; have s0_8 := ts.c0; have s1_8 := ts.c1; have s2_8 := ts.c2; have fs0_8 := ts.free 0; have fs1_8 := ts.free 1; have fs2_8 := ts.free 2; have S8 := Kp.mk ts; clear ts; have tn := N7.out.below hb8; have n0_8 := tn.c0; have n1_8 := tn.c1; have n2_8 := tn.c2; have N8 := Kp.mk tn; clear tn))
  clear  hw4 hw5 hw6 ho1 ho2 ho0 hgn hb7 hb8
  go_region
  clear p0_8 p1_8 p2_8 fp0_8 fp1_8 fp2_8 q0_8 q1_8 q2_8 fq0_8 fq1_8 fq2_8 r0_8 r1_8 r2_8 fr0_8 fr1_8 fr2_8 s0_8 s1_8 s2_8 fs0_8 fs1_8 fs2_8 n0_8 n1_8 n2_8
  go_wp2
  have E := (R8.out.far (show _ ≠ (⟨w.heap.size + 1, 0, none⟩ : Addr).block by dsimp only; omega) (.int .i64 (q - (ys.length : Int) + (xs.length : Int)))).setBoth (S8.out.far (show _ ≠ (⟨w.heap.size + 1, 0, none⟩ : Addr).block by dsimp only; omega) (.int .i64 (q - (ys.length : Int) + (xs.length : Int)))) (by omega) (.int .i64 (q - (ys.length : Int) + (xs.length : Int))) (.slice C us.length c') (.slice D vs.length d') (.int .i64 (p)) (.slice A xs.length c) (.slice B ys.length d)
  have F := below_setHk (below_setHk (HB8.out.setCell (show w.heap.size ≤ (⟨w.heap.size + 1, 0, none⟩ : Addr).block by dsimp only; omega) (.int .i64 (q - (ys.length : Int) + (xs.length : Int)))) (g := w.heap.size + 1 + 1) (by omega) (.int .i64 (q - (ys.length : Int) + (xs.length : Int))) (.slice C us.length c') (.slice D vs.length d')) (g := w.heap.size + 1 + 1 + 1) (by omega) (.int .i64 (p)) (.slice A xs.length c) (.slice B ys.length d)
  refine bodyPost_ret (results_h2 rfl _ _ (w.heap.size + 1 + 1) (w.heap.size + 1 + 1 + 1) _ _ _ _ _ _ rfl rfl E.1.drew E.2.drew _ rfl) rfl ?_
  exact ⟨_, _, rfl, rfl, rfl, F.drew⟩

set_option maxHeartbeats 1000000 in
theorem rPass_yes2 (p q : Int) (xs ys us vs : List ByteArray) (A B C D : Option Addr) (n m n' m' c d c' d' : Nat) (w : World) (hx : n = xs.length) (hy : m = ys.length) (hu : n' = us.length) (hv : m' = vs.length)
    (hA : SlS w.heap.size w A xs) (hB : SlS w.heap.size w B ys) (hC : SlS w.heap.size w C us) (hD : SlS w.heap.size w D vs) (lx : xs.length ≤ 100000) (ly : ys.length ≤ 100000) (lu : us.length ≤ 100000) (lv : vs.length ≤ 100000)
    (sx : ∀ x ∈ xs, x.size ≤ 9223372036854775807) (sy : ∀ x ∈ ys, x.size ≤ 9223372036854775807) (su : ∀ x ∈ us, x.size ≤ 9223372036854775807) (sv : ∀ x ∈ vs, x.size ≤ 9223372036854775807)
    (m1 : hMay p xs ys = true) (m2 : hMay q us vs = true) (d1 : ¬ p + (ys.length : Int) < q) (d2 : q + (us.length : Int) < p) (d3 : p + ((vs.length : Int) - (us.length : Int)) ≤ 1048576) :
    Calls Try.prog 13 #[.agg #[.int .i64 p, .slice A n c, .slice B m d], .agg #[.int .i64 q, .slice C n' c', .slice D m' d']] w fun e w' => ∃ x y, x = p - (us.length : Int) + (vs.length : Int) ∧ y = q ∧ e = .returned (.tuple #[.agg #[.int .i64 y, .slice C us.length c', .slice D vs.length d'], .agg #[.int .i64 x, .slice A xs.length c, .slice B ys.length d], .bool true]) ∧ Below w.heap.size w w' := by
  subst hx hy hu hv
  have HX := Kp.mk (And.intro hC (And.intro hD (And.intro lu lv)))
  clear HX
  obtain ⟨o1, ho1⟩ : ∃ o, Obj.cells #[.int .i64 p, .slice A xs.length c, .slice B ys.length d] 24 = o := ⟨_, rfl⟩
  obtain ⟨o2, ho2⟩ : ∃ o, Obj.cells #[.int .i64 q, .slice C us.length c', .slice D vs.length d'] 24 = o := ⟨_, rfl⟩
  obtain ⟨o0, ho0⟩ : ∃ o, Obj.cells #[.int .i64 0, .slice none 0 0, .slice none 0 0] 24 = o := ⟨_, rfl⟩
  obtain ⟨w4, hw4⟩ : ∃ w4, (((w.alloc o1).alloc o2).alloc o0).alloc o0 = w4 := ⟨_, rfl⟩
  obtain ⟨hb4, k1, k2, k3, k4⟩ := pass_boxes w (.int .i64 p) (.slice A xs.length c) (.slice B ys.length d) (.int .i64 q) (.slice C us.length c') (.slice D vs.length d') (.int .i64 0) (.slice none 0 0) (.slice none 0 0) w4 (by rw [ho1, ho2, ho0]; exact hw4)
  have M1 := Kp.mk m1
  have M2 := Kp.mk m2
  obtain ⟨⟨a1, a2⟩, -⟩ := hMay_out m1
  obtain ⟨⟨a3, a4⟩, -⟩ := hMay_out m2
  clear m1 m2
  have hn5 := HkAt.new w4 (.int .i64 0) (.slice none 0 0) (.slice none 0 0)
  rw [ho0] at hn5
  have hb5 : Below w.heap.size w (w4.alloc o0) := hb4.alloc hb4.size o0
  have hg4 := k4.lt
  obtain ⟨gn, hgn⟩ : ∃ gn, w4.heap.size = gn := ⟨_, rfl⟩
  obtain ⟨w5, hw5⟩ : ∃ w5, w4.alloc o0 = w5 := ⟨_, rfl⟩
  have j1 := k1.alloc o0
  have j2 := k2.alloc o0
  have j3 := k3.alloc o0
  have j4 := k4.alloc o0
  rw [hw5] at hn5 hb5 j1 j2 j3 j4
  rw [hgn] at hn5 hg4
  obtain ⟨w6, hw6⟩ : ∃ w6, ((w5.setCell ⟨gn, 0, none⟩ (.int .i64 0)).setCell ⟨gn, 1, none⟩ (.slice none 0 0)).setCell ⟨gn, 2, none⟩ (.slice none 0 0) = w6 := ⟨_, rfl⟩
  have i1 := j1.farHk (h := gn) (by omega) (.int .i64 0) (.slice none 0 0) (.slice none 0 0)
  have i2 := j2.farHk (h := gn) (by omega) (.int .i64 0) (.slice none 0 0) (.slice none 0 0)
  have i3 := j3.farHk (h := gn) (by omega) (.int .i64 0) (.slice none 0 0) (.slice none 0 0)
  have i4 := j4.farHk (h := gn) (by omega) (.int .i64 0) (.slice none 0 0) (.slice none 0 0)
  have i5 := hn5.setAll (.int .i64 0) (.slice none 0 0) (.slice none 0 0)
  have hb6 := below_setHk hb5 (g := gn) (by omega) (.int .i64 0) (.slice none 0 0) (.slice none 0 0)
  rw [hw6] at i1 i2 i3 i4 i5 hb6
  have n0 := hn5.c0
  have n1 := hn5.c1
  have n2 := hn5.c2
  have fn0 := hn5.free 0
  have fn1 := hn5.free 1
  have fn2 := hn5.free 2
  have p0 := i1.c0
  have p1 := i1.c1
  have p2 := i1.c2
  have P6 := Kp.mk i1
  have Q6 := Kp.mk i2
  have R6 := Kp.mk i3
  have S6 := Kp.mk i4
  have N6 := Kp.mk i5
  have HB6 := Kp.mk hb6
  have HM1 := Kp.mk (rhmay_any p xs ys A B _ _ c d w6 rfl rfl (hA.later hb6) (hB.later hb6) lx ly sx sy)
  have SU := Kp.mk su
  have SV := Kp.mk sv
  have HZ : Kp (∀ W, Below w.heap.size w W → SlS W.heap.size W A xs ∧ SlS W.heap.size W B ys ∧ SlS W.heap.size W C us ∧ SlS W.heap.size W D vs) := ⟨fun W hW => ⟨hA.later hW, hB.later hW, hC.later hW, hD.later hW⟩⟩
  clear sx sy su sv i1 i2 i3 i4 i5 hb6 k1 k2 k3 k4 j1 j2 j3 j4 hn5 hb5 hb4
  go_enter Try.func13, Try.ntmps13
  go_wp2_with (first
    | (go_at_call_of 23 p; refine HM1.out.mono ?_; rintro e w7 ⟨rfl, hb7⟩; rw [M1.out]; have HB7 := Kp.mk (HB6.out.trans (hb7.mono HB6.out.size)); clear p0 p1 p2 n0 n1 n2 fn0 fn1 fn2; have tp := P6.out.below hb7; have p0_7 := tp.c0; have p1_7 := tp.c1; have p2_7 := tp.c2; have fp0_7 := tp.free 0; have fp1_7 := tp.free 1; have fp2_7 := tp.free 2; have P7 := Kp.mk tp; clear tp; have tq := Q6.out.below hb7; have q0_7 := tq.c0; have q1_7 := tq.c1; have q2_7 := tq.c2; have fq0_7 := tq.free 0; have fq1_7 := tq.free 1; have fq2_7 := tq.free 2; have Q7 := Kp.mk tq; clear tq; have tr := R6.out.below hb7; have r0_7 := tr.c0; have r1_7 := tr.c1; have r2_7 := tr.c2; have fr0_7 := tr.free 0; have fr1_7 := tr.free 1; have fr2_7 := tr.free 2; have R7 := Kp.mk tr; clear tr; have ts := S6.out.below hb7; have s0_7 := ts.c0; have s1_7 := ts.c1; have s2_7 := ts.c2; have fs0_7 := ts.free 0; have fs1_7 := ts.free 1; have fs2_7 := ts.free 2; have S7 := Kp.mk ts; clear ts; have tn := N6.out.below hb7; have n0_7 := tn.c0; have n1_7 := tn.c1; have n2_7 := tn.c2; have N7 := Kp.mk tn; clear tn)
    | (go_at_call_of 23 q; refine (rhmay_any q us vs C D _ _ c' d' w7 rfl rfl (HZ.out w7 HB7.out).2.2.1 (HZ.out w7 HB7.out).2.2.2 lu lv SU.out SV.out).mono ?_; rintro e w8 ⟨rfl, hb8⟩; rw [M2.out]; have HB8 := Kp.mk (HB7.out.trans (hb8.mono HB7.out.size)); clear p0_7 p1_7 p2_7 fp0_7 fp1_7 fp2_7 q0_7 q1_7 q2_7 fq0_7 fq1_7 fq2_7 r0_7 r1_7 r2_7 fr0_7 fr1_7 fr2_7 s0_7 s1_7 s2_7 fs0_7 fs1_7 fs2_7 n0_7 n1_7 n2_7; have tp := P7.out.below hb8; have p0_8 := tp.c0; have p1_8 := tp.c1; have p2_8 := tp.c2; have fp0_8 := tp.free 0; have fp1_8 := tp.free 1; have fp2_8 := tp.free 2; have P8 := Kp.mk tp; clear tp; have tq := Q7.out.below hb8; have q0_8 := tq.c0; have q1_8 := tq.c1; have q2_8 := tq.c2; have fq0_8 := tq.free 0; have fq1_8 := tq.free 1; have fq2_8 := tq.free 2; have Q8 := Kp.mk tq; clear tq; have tr := R7.out.below hb8; have r0_8 := tr.c0; have r1_8 := tr.c1; have r2_8 := tr.c2; have fr0_8 := tr.free 0; have fr1_8 := tr.free 1; have fr2_8 := tr.free 2; have R8 := Kp.mk tr; clear tr; have ts := S7.out.below hb8; have s0_8 := ts.c0; have s1_8 := ts.c1; have s2_8 := ts.c2; have fs0_8 := ts.free 0; have fs1_8 := ts.free 1; have fs2_8 := ts.free 2; have S8 := Kp.mk ts; clear ts; have tn := N7.out.below hb8; have n0_8 := tn.c0; have n1_8 := tn.c1; have n2_8 := tn.c2; have N8 := Kp.mk tn; clear tn))
  clear  hw4 hw5 hw6 ho1 ho2 ho0 hgn hb7 hb8
  go_region
  clear p0_8 p1_8 p2_8 fp0_8 fp1_8 fp2_8 q0_8 q1_8 q2_8 fq0_8 fq1_8 fq2_8 r0_8 r1_8 r2_8 fr0_8 fr1_8 fr2_8 s0_8 s1_8 s2_8 fs0_8 fs1_8 fs2_8 n0_8 n1_8 n2_8
  go_wp2
  have E := (R8.out.far (show _ ≠ (⟨w.heap.size, 0, none⟩ : Addr).block by dsimp only; omega) (.int .i64 (p - (us.length : Int) + (vs.length : Int)))).setBoth (S8.out.far (show _ ≠ (⟨w.heap.size, 0, none⟩ : Addr).block by dsimp only; omega) (.int .i64 (p - (us.length : Int) + (vs.length : Int)))) (by omega) (.int .i64 (q)) (.slice C us.length c') (.slice D vs.length d') (.int .i64 (p - (us.length : Int) + (vs.length : Int))) (.slice A xs.length c) (.slice B ys.length d)
  have F := below_setHk (below_setHk (HB8.out.setCell (show w.heap.size ≤ (⟨w.heap.size, 0, none⟩ : Addr).block by dsimp only; omega) (.int .i64 (p - (us.length : Int) + (vs.length : Int)))) (g := w.heap.size + 1 + 1) (by omega) (.int .i64 (q)) (.slice C us.length c') (.slice D vs.length d')) (g := w.heap.size + 1 + 1 + 1) (by omega) (.int .i64 (p - (us.length : Int) + (vs.length : Int))) (.slice A xs.length c) (.slice B ys.length d)
  refine bodyPost_ret (results_h2 rfl _ _ (w.heap.size + 1 + 1) (w.heap.size + 1 + 1 + 1) _ _ _ _ _ _ rfl rfl E.1.drew E.2.drew _ rfl) rfl ?_
  exact ⟨_, _, rfl, rfl, rfl, F.drew⟩

end Go.Proofs.Ytnepgecdnhiokaa
