/- quiltmakerlaw02.awake: the chapter's examples hold. -/
import Derived.Test.YtaffkplllmnjoaaSeqA
namespace Go.Proofs.Ytaffkplllmnjoaa
open Go.RowKit

def exA : List ByteArray := [⟨#[97]⟩, ⟨#[98]⟩, ⟨#[99]⟩]
def exO : List ByteArray := [⟨#[98]⟩]
def exN : List ByteArray := [⟨#[120]⟩, ⟨#[121]⟩]
def exB : List ByteArray := [⟨#[97]⟩, ⟨#[120]⟩, ⟨#[99]⟩]
theorem ex_stands : stands exA ((1 : Nat) : Int) exO = true := by decide +kernel
theorem ex_swp : swp exA 1 1 exN = [⟨#[97]⟩, ⟨#[120]⟩, ⟨#[121]⟩, ⟨#[99]⟩] := by decide +kernel
theorem ex_com : com exA exB = 1 := by decide +kernel
theorem ex_bak : bak exA exB = 1 := by decide +kernel
theorem ex_swap (A B C : Option Addr) (w : World) (hA : SlS w.heap.size w A exA) (hB : SlS w.heap.size w B exO) (hC : SlS w.heap.size w C exN) :
    Calls Try.prog 10 #[.slice A 3 3, .int .i64 1, .slice B 1 1, .slice C 2 2] w fun e w' => ∃ D r, e = .returned (.tuple #[.slice D 4 r, .bool true]) ∧
      SlS w.heap.size w' D [⟨#[97]⟩, ⟨#[120]⟩, ⟨#[121]⟩, ⟨#[99]⟩] ∧ Below w.heap.size w w' := by
  have h := Swap_yes exA exO exN A B C 3 1 2 3 1 2 1 w rfl rfl rfl ex_stands (by decide) hA hB hC (by decide) (by decide) (by decide)
  rw [show exO.length = 1 from rfl, ex_swp] at h
  refine h.mono ?_
  rintro e w' ⟨D, r, h1, _, _, h2, h3⟩
  exact ⟨D, r, h1, h2, h3⟩
theorem ex_front (A B : Option Addr) (w : World) (hA : SlS w.heap.size w A exA) (hB : SlS w.heap.size w B exB) :
    Calls Try.prog 15 #[.slice A 3 3, .slice B 3 3] w fun e w' => e = .returned (.int .i64 1) ∧ Below w.heap.size w w' := by
  have h := Front_any exA exB A B 3 3 w hA hB (by decide)
  rw [ex_com] at h
  exact h
theorem ex_back (A B : Option Addr) (w : World) (hA : SlS w.heap.size w A exA) (hB : SlS w.heap.size w B exB) :
    Calls Try.prog 17 #[.slice A 3 3, .slice B 3 3] w fun e w' => e = .returned (.int .i64 1) ∧ Below w.heap.size w w' := by
  have h := Back_any exA exB A B 3 3 w (by decide) (by decide) hA hB (by decide) (by decide)
  rw [ex_bak] at h
  exact h

set_option maxHeartbeats 400000 in
theorem awake_any (w : World) : Calls Try.prog 8 #[] w fun e w' => e = .returned (.bool true) ∧ Below w.heap.size w w' := by
  obtain ⟨oA, eA⟩ : ∃ o, Obj.cells #[.string ⟨#[97]⟩, .string ⟨#[98]⟩, .string ⟨#[99]⟩] 9 = o := ⟨_, rfl⟩
  obtain ⟨oO, eO⟩ : ∃ o, Obj.cells #[.string ⟨#[98]⟩] 9 = o := ⟨_, rfl⟩
  obtain ⟨oN, eN⟩ : ∃ o, Obj.cells #[.string ⟨#[120]⟩, .string ⟨#[121]⟩] 9 = o := ⟨_, rfl⟩
  obtain ⟨oB, eB⟩ : ∃ o, Obj.cells #[.string ⟨#[97]⟩, .string ⟨#[120]⟩, .string ⟨#[99]⟩] 9 = o := ⟨_, rfl⟩
  have hA : SlS w.heap.size (w.alloc oA) (some ⟨w.heap.size, 0, none⟩) exA := by subst eA; exact SlS.lit w.heap.size w exA _ rfl (by decide)
  have hO : SlS w.heap.size ((w.alloc oA).alloc oO) (some ⟨(w.alloc oA).heap.size, 0, none⟩) exO := by subst eO; exact SlS.lit w.heap.size _ exO _ rfl (by decide)
  have hN : SlS w.heap.size (((w.alloc oA).alloc oO).alloc oN) (some ⟨((w.alloc oA).alloc oO).heap.size, 0, none⟩) exN := by subst eN; exact SlS.lit w.heap.size _ exN _ rfl (by decide)
  have hA2 := (hA.alloc oO).alloc oN
  have hO2 := hO.alloc oN
  have hB0 : Below w.heap.size w (((w.alloc oA).alloc oO).alloc oN) := (((Below.refl _ w).alloc (Nat.le_refl _) oA).alloc (by simp only [World.size_alloc]; omega) oO).alloc (by simp only [World.size_alloc]; omega) oN
  obtain ⟨w3, e3⟩ : ∃ w3, ((w.alloc oA).alloc oO).alloc oN = w3 := ⟨_, rfl⟩
  rw [e3] at hA2 hO2 hN hB0
  have hS := ex_swap _ _ _ w3 hA2.wide hO2.wide hN.wide
  simp only [World.size_alloc] at hS
  have HS := Kp.mk hS
  have HA2 := Kp.mk hA2
  have E3 := Kp.mk e3
  have EA := Kp.mk eA
  have EO := Kp.mk eO
  have EN := Kp.mk eN
  have EB := Kp.mk eB
  clear hS hA2 hO2 hN hA hO e3 eA eO eN eB
  go_enter Try.func8, Try.ntmps8
  go_wp2_with fail
  rw [EA.out, EO.out, EN.out, E3.out]
  refine HS.out.mono ?_
  rintro e w4 ⟨D, r, rfl, hD, hb4⟩
  have hz := hB0.size
  have hb4' := hB0.trans (hb4.mono hz)
  obtain ⟨gD, oD, rfl, hDg, hDc⟩ := hD.at3 (k := 1) (by decide)
  have c1 : w4.cell? ⟨gD, oD + 1, none⟩ = some (.string ⟨#[120]⟩) := hDc 1 (by decide)
  have c3 : w4.cell? ⟨gD, oD + 3, none⟩ = some (.string ⟨#[99]⟩) := hDc 3 (by decide)
  clear hDc
  have HA4 := Kp.mk (HA2.out.below hb4)
  have hB5 : SlS w.heap.size (w4.alloc oB) (some ⟨w4.heap.size, 0, none⟩) exB := by rw [← EB.out]; exact SlS.lit w.heap.size w4 exB _ rfl (by decide)
  have HB5 := Kp.mk hB5
  have hcell := Below.heap_alloc w4 oB gD hDg
  have hF := ex_front _ _ (w4.alloc oB) (HA4.out.alloc oB).wide hB5.wide
  have HF := Kp.mk hF
  clear hF hB5
  go_wp2_with fail
  rw [EB.out]
  refine HF.out.mono ?_
  rintro e w5 ⟨rfl, kb5⟩
  have hb5 := (hb4'.alloc hb4'.size oB).trans (kb5.mono (by have := hb4'.size; simp only [World.size_alloc]; omega))
  have hBk := ex_back _ _ w5 ((HA4.out.alloc oB).later kb5) (HB5.out.later kb5)
  have HBk := Kp.mk hBk
  clear hBk
  go_wp2_with fail
  refine HBk.out.mono ?_
  rintro e w6 ⟨rfl, kb6⟩
  have hb6 := hb5.trans (kb6.mono hb5.size)
  go_wp2
  go_ret
  exact ⟨rfl, hb6⟩
end Go.Proofs.Ytaffkplllmnjoaa
