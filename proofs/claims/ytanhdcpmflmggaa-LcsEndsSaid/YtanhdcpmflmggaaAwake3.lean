/- quiltmakerlaw03.awake: the chapter's example holds. -/
import Derived.Test.YtanhdcpmflmggaaLcsP
import Derived.Test.YtanhdcpmflmggaaEqPair
namespace Go.Proofs.Ytanhdcpmflmggaa
open Go.RowKit
attribute [local go_sem] run_equal_pair

def exA : List ByteArray := [⟨#[97]⟩, ⟨#[98]⟩, ⟨#[99]⟩, ⟨#[100]⟩]
def exB : List ByteArray := [⟨#[98]⟩, ⟨#[100]⟩, ⟨#[97]⟩]
theorem ex_pairs : Qm.pairs exA exB 0 0 = [(1, 0), (3, 1)] := by decide +kernel
theorem ex_many : tab exA exB 0 0 = 2 := by decide +kernel

theorem ex_pairs_any (A B : Option Addr) (w : World) (hA : SlS w.heap.size w A exA) (hB : SlS w.heap.size w B exB) :
    Calls Try.prog 12 #[.slice A 4 4, .slice B 3 3] w fun e w' => ∃ C k, e = .returned (.slice C 2 k) ∧ SlP w.heap.size w' C [(1, 0), (3, 1)] ∧ Below w.heap.size w w' := by
  have h := pairs_any exA exB A B 4 3 w hA hB (by decide) (by decide)
  rw [ex_pairs] at h
  exact h
theorem ex_many_any (A B : Option Addr) (w : World) (hA : SlS w.heap.size w A exA) (hB : SlS w.heap.size w B exB) :
    Calls Try.prog 14 #[.slice A 4 4, .slice B 3 3] w fun e w' => e = .returned (.int .i64 2) ∧ Below w.heap.size w w' := by
  have h := many_any exA exB A B 4 3 w hA hB (by decide) (by decide)
  rw [ex_many] at h
  exact h

set_option maxHeartbeats 400000 in
theorem awake_any (w : World) : Calls Try.prog 9 #[] w fun e w' => e = .returned (.bool true) ∧ Below w.heap.size w w' := by
  have hA := SlS.lit w.heap.size w exA #[.string ⟨#[97]⟩, .string ⟨#[98]⟩, .string ⟨#[99]⟩, .string ⟨#[100]⟩] rfl (by decide)
  have hB := SlS.lit w.heap.size (w.alloc (.cells #[.string ⟨#[97]⟩, .string ⟨#[98]⟩, .string ⟨#[99]⟩, .string ⟨#[100]⟩] 9)) exB #[.string ⟨#[98]⟩, .string ⟨#[100]⟩, .string ⟨#[97]⟩] rfl (by decide)
  have hA1 := hA.alloc (.cells #[.string ⟨#[98]⟩, .string ⟨#[100]⟩, .string ⟨#[97]⟩] 9)
  have hP := ex_pairs_any _ _ _ hA1.wide hB.wide
  rw [World.size_alloc] at hP
  go_enter Try.func9, Try.ntmps9
  clear hA hB
  have HP := Kp.mk hP
  have HA := Kp.mk hA1
  clear hP hA1
  go_wp2_with fail
  refine HP.out.mono ?_
  rintro e w1 ⟨C, k, rfl, hC, hb⟩
  have hz := hb.size
  have hA2 := (HA.out.below hb)
  have hA3 := hA2.alloc (.cells #[.string ⟨#[98]⟩, .string ⟨#[100]⟩, .string ⟨#[97]⟩] 9)
  have hB3 := SlS.lit w.heap.size w1 exB #[.string ⟨#[98]⟩, .string ⟨#[100]⟩, .string ⟨#[97]⟩] rfl (by decide)
  have hM := ex_many_any _ _ _ hA3.wide hB3.wide
  obtain ⟨g, o, rfl, hab, hcs⟩ := hC.at_ (by decide)
  have h0 := hcs 0 (by decide)
  have h1 := hcs 1 (by decide)
  have HM := Kp.mk hM
  clear hM hA2 hA3 hB3 HA HP
  go_wp2_with fail
  refine HM.out.mono ?_
  rintro e w2 ⟨rfl, hb2⟩
  have hz2 := hb2.size
  rw [World.size_alloc] at hz2
  have hcell : ∀ n, w2.cell? ⟨g, n, none⟩ = w1.cell? ⟨g, n, none⟩ := fun n =>
    (hb2.cell (p := ⟨g, n, none⟩) (by rw [World.size_alloc]; simp; omega)).trans (World.cell?_alloc_lt w1 _ ⟨g, n, none⟩ hab)
  have c0 : w2.cell? ⟨g, o, none⟩ = some (.int .i64 1) := by rw [hcell]; exact h0.1
  have c1 : w2.cell? ⟨g, o + 1, none⟩ = some (.int .i64 0) := by rw [hcell]; exact h0.2
  have c2 : w2.cell? ⟨g, o + 2, none⟩ = some (.int .i64 3) := by rw [hcell]; exact h1.1
  have c3 : w2.cell? ⟨g, o + 2 + 1, none⟩ = some (.int .i64 1) := by rw [hcell]; exact h1.2
  clear hcell h0 h1 hcs HM hC
  go_wp2
  go_ret
  refine ⟨rfl, ?_⟩
  have hb0 := hb.mono (B' := w.heap.size) (by simp; omega)
  have hb20 := hb2.mono (B' := w.heap.size) (by rw [World.size_alloc]; simp at hz; omega)
  exact ((((Below.refl _ w).alloc (Nat.le_refl _) _).alloc (by simp) _).trans hb0).trans (((Below.refl _ w1).alloc (by simp at hz; omega) _).trans hb20)
end Go.Proofs.Ytanhdcpmflmggaa
