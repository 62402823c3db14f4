/- quiltmakerlaw06.awake: the chapter's examples hold. -/
import Derived.Test.YtnepgecdnhiokaaSwapA
import Derived.Test.YtnepgecdnhiokaaHkSt
namespace Go.Proofs.Ytnepgecdnhiokaa
open Go.RowKit

theorem ex6_pass1 : passX 0 [] [⟨#[120]⟩] 5 [⟨#[98]⟩] [] = some (0, -1) := by decide +kernel
theorem ex6_pass2 : passX 3 [] [⟨#[120]⟩] 4 [] [⟨#[121]⟩] = none := by decide +kernel
theorem ex6_sz (b : UInt8) : ∀ x ∈ [(⟨#[b]⟩ : ByteArray)], x.size ≤ 9223372036854775807 := fun x hx => by
  obtain rfl : x = ⟨#[b]⟩ := by simpa using hx
  show 1 ≤ _
  omega
theorem ex6_nil : ∀ x ∈ ([] : List ByteArray), x.size ≤ 9223372036854775807 := fun x hx => by cases hx
theorem ex6_one (A B : Option Addr) (w : World) (hA : SlS w.heap.size w A [⟨#[120]⟩]) (hB : SlS w.heap.size w B [⟨#[98]⟩]) :
    Calls Try.prog 12 #[.agg #[.int .i64 0, .slice none 0 0, .slice A 1 1], .agg #[.int .i64 5, .slice B 1 1, .slice none 0 0]] w fun e w' => ∃ C e1 D e2 A' e3 B' e4,
      e = .returned (.tuple #[.agg #[.int .i64 4, .slice C 1 e1, .slice D 0 e2], .agg #[.int .i64 0, .slice A' 0 e3, .slice B' 1 e4], .bool true]) ∧ Below w.heap.size w w' := by
  have h := Pass_all 0 5 [] [⟨#[120]⟩] [⟨#[98]⟩] [] none A B none 0 1 1 0 0 1 1 0 w _ ex6_pass1 rfl rfl rfl rfl SlS.nil hA hB SlS.nil (by decide) (by decide) (by decide) (by decide) ex6_nil (ex6_sz _) (ex6_sz _) ex6_nil
  refine h.mono ?_
  rintro e w' ⟨C, e1, D, e2, A', e3, B', e4, rfl, _, _, _, _, _, hb⟩
  exact ⟨C, e1, D, e2, A', e3, B', e4, rfl, hb⟩
theorem ex6_two (A B : Option Addr) (w : World) (hA : SlS w.heap.size w A [⟨#[120]⟩]) (hB : SlS w.heap.size w B [⟨#[121]⟩]) :
    Calls Try.prog 12 #[.agg #[.int .i64 3, .slice none 0 0, .slice A 1 1], .agg #[.int .i64 4, .slice none 0 0, .slice B 1 1]] w fun e w' => ∃ C e1 D e2 A' e3 B' e4,
      e = .returned (.tuple #[.agg #[.int .i64 0, .slice C 0 e1, .slice D 0 e2], .agg #[.int .i64 0, .slice A' 0 e3, .slice B' 0 e4], .bool false]) ∧ Below w.heap.size w w' := by
  have h := Pass_all 3 4 [] [⟨#[120]⟩] [] [⟨#[121]⟩] none A none B 0 1 0 1 0 1 0 1 w _ ex6_pass2 rfl rfl rfl rfl SlS.nil hA SlS.nil hB (by decide) (by decide) (by decide) (by decide) ex6_nil (ex6_sz _) ex6_nil (ex6_sz _)
  refine h.mono ?_
  rintro e w' ⟨C, e1, D, e2, A', e3, B', e4, rfl, _, _, _, _, _, hb⟩
  exact ⟨C, e1, D, e2, A', e3, B', e4, rfl, hb⟩
set_option maxHeartbeats 1000000 in
theorem awake6_any (w : World) : Calls Try.prog 10 #[] w fun e w' => e = .returned (.bool true) ∧ Below w.heap.size w w' := by
  have S := St.start w
  go_enter Try.func10, Try.ntmps10
  go_wp2_with (first
    | (refine wpList_str1 rfl _ rfl S ?_; clear S; intro gs w1 S)
    | (refine wpList_hk_alloc rfl rfl S ?_; clear S; intro g w1 S)
    | (refine wpList_hk_load rfl _ rfl _ rfl S _ _ _ _ _ (by first | exact ix0 | exact ix1 | exact ix2 | exact ix3) ?_)
    | (refine wpList_hk_store rfl _ _ rfl _ rfl _ _ _ rfl S _ _ _ _ _ (by first | exact ix0 | exact ix1 | exact ix2 | exact ix3) rfl rfl rfl ?_; clear S; intro w1 S; simp only [List.set] at S; first | (have _t := S.hk ix5; have c0 := (S.hk ix3).c0; have c1 := (S.hk ix3).c1; have k0 := (S.hk ix2).c0; have k2 := (S.hk ix2).c2; clear _t) | skip)
    | (go_at_call_of 12 (Value.int IntKind.i64 5); refine (ex6_one _ _ _ (S.ln mm1) (S.ln mm0)).mono ?_; rintro e w1 ⟨C1, e1, D1, e2, A1, e3, B1, e4, rfl, hb⟩; replace S := S.call hb; clear hb)
    | (go_at_call_of 12 (Value.int IntKind.i64 3); refine (ex6_two _ _ _ (S.ln mm1) (S.ln mm0)).mono ?_; rintro e w1 ⟨C2, e5, D2, e6, A2, e7, B2, e8, rfl, hb⟩; replace S := S.call hb; clear hb))
  go_ret
  exact ⟨rfl, S.below⟩
end Go.Proofs.Ytnepgecdnhiokaa
