/- quiltmakerlaw04.awake: the chapter's example holds. -/
import Derived.Test.YtgbkbcdplcehmaaDapp
import Derived.Test.YtgbkbcdplcehmaaLit
namespace Go.Proofs.Ytgbkbcdplcehmaa
open Go.RowKit

def exA : List ByteArray := [⟨#[97]⟩, ⟨#[98]⟩, ⟨#[99]⟩]
def exB : List ByteArray := [⟨#[97]⟩, ⟨#[120]⟩, ⟨#[99]⟩]
theorem ex_pairs : Qm.pairs exA exB 0 0 = [(0, 0), (2, 2)] := by decide +kernel
theorem ex_edits : edits exA exB = [(1, 1, [⟨#[120]⟩])] := by unfold edits; rw [ex_pairs]; decide +kernel
theorem ex_app : apR exA [(1, 1, [⟨#[120]⟩])] = some exB := by decide +kernel
theorem eds_one {l : List EdA} {x : Int × Int × List ByteArray} (h : eds l = [x]) : ∃ xa xc, l = [(x.1, x.2.1, xa, xc, x.2.2)] := by
  match l, h with
  | [e], h =>
    simp only [eds, List.map_cons, List.map_nil, List.cons.injEq, and_true] at h
    obtain ⟨e0, e1, ea, ec, es⟩ := e
    subst h
    exact ⟨ea, ec, rfl⟩
theorem ex_edits_any (A B : Option Addr) (w : World) (hA : SlS w.heap.size w A exA) (hB : SlS w.heap.size w B exB) :
    Calls Try.prog 14 #[.slice A 3 3, .slice B 3 3] w fun e w' => ∃ C k xa xc, e = .returned (.slice C 1 k) ∧ Frs w.heap.size (EdL C [(1, 1, xa, xc, [⟨#[120]⟩])]) w' ∧ Below w.heap.size w w' := by
  refine (edits_any exA exB A B 3 3 w hA hB (by decide) (by decide) (by decide) (by decide)).mono ?_
  rintro e w' ⟨C, k, l, rfl, he, _, _, hF, hb⟩
  rw [ex_edits] at he
  obtain ⟨xa, xc, rfl⟩ := eds_one he
  exact ⟨C, k, xa, xc, rfl, hF, hb⟩
theorem ex_apply_any (A C : Option Addr) (k : Nat) (xa : Option Addr) (xc : Nat) (w : World) (hA : SlS w.heap.size w A exA) (hC : EdL C [(1, 1, xa, xc, [⟨#[120]⟩])] w) :
    Calls Try.prog 17 #[.slice A 3 3, .slice C 1 k] w fun e w' => ∃ D r, e = .returned (.tuple #[.slice D 3 r, .bool true]) ∧ Frs w.heap.size (LnX D exB) w' ∧ Below w.heap.size w w' := by
  refine (dapply_any exA [(1, 1, xa, xc, [⟨#[120]⟩])] A C 3 k w hA hC (by decide) (by simp) (fun e he => by
    obtain rfl : e = (1, 1, xa, xc, [⟨#[120]⟩]) := by simpa using he
    show 1 ≤ _
    omega) (by decide) (by decide) _ ex_app).mono ?_
  rintro e w' ⟨D, r, rfl, _, _, hF, hb⟩
  exact ⟨D, r, rfl, hF, hb⟩
theorem ex_cost_any (C : Option Addr) (k : Nat) (xa : Option Addr) (xc : Nat) (w : World) (hC : EdL C [(1, 1, xa, xc, [⟨#[120]⟩])] w) :
    Calls Try.prog 20 #[.slice C 1 k] w fun e w' => e = .returned (.int .i64 2) ∧ Below w.heap.size w w' :=
  (cost_any [(1, 1, xa, xc, [⟨#[120]⟩])] C k w hC (by simp)).mono fun e w' h => ⟨by rw [h.1, show wrap64 (cost (eds [(1, 1, xa, xc, [⟨#[120]⟩])])) = 2 from by simp [eds, cost, wrap64]], h.2⟩
set_option maxHeartbeats 1000000 in
theorem awake4_any (w : World) : Calls Try.prog 11 #[] w fun e w' => e = .returned (.bool true) ∧ Below w.heap.size w w' := by
  have S := Sm.start w
  go_enter Try.func11, Try.ntmps11
  go_wp2_with (first
    | (with_reducible show wpList _ _ _ ({ dst := _, op := .buildSlice _ _ _, type := _, pos := _, after := _, guard := none } :: _) _ _; refine wpList_str3 rfl _ _ _ rfl S ?_; clear S; intro gs w1 S)
    | (go_at_call 14; refine (ex_edits_any _ _ _ (S.ln (.tail _ (.head _))) (S.ln (.head _))).mono ?_; rintro e w1 ⟨C, k, xa, xc, rfl, hF, hb⟩; replace S := S.made hb hF; obtain ⟨g, o, rfl, hg, hc⟩ := EdL.at_ hF.now (by simp); obtain ⟨c0, c1, c2⟩ := hc 0 (by simp); clear hF hb hc)
    | (go_at_call 17; refine (ex_apply_any _ _ _ xa xc _ (S.ln (.tail _ (.tail _ (.head _)))) (S.get (.head _))).mono ?_; rintro e w2 ⟨D, r, rfl, hF, hb⟩; replace S := S.made hb hF; obtain ⟨gd, od, rfl, hgd, _, hcd⟩ := (SlX.sl (T := 9) hF.now).at3 (by decide)
       have d1 : w2.cell? ⟨gd, od + 1, none⟩ = some (.string ⟨#[120]⟩) := hcd 1 (by decide)
       have e0 : w2.cell? ⟨g, o, none⟩ = some (.int .i64 1) := (hb.cell (p := ⟨g, o, none⟩) hg).trans (by simpa using c0)
       have e1 : w2.cell? ⟨g, o + 1, none⟩ = some (.int .i64 1) := (hb.cell (p := ⟨g, o + 1, none⟩) hg).trans (by simpa using c1)
       have e2 : w2.cell? ⟨g, o + 2, none⟩ = some (.slice xa 1 xc) := (hb.cell (p := ⟨g, o + 2, none⟩) hg).trans (by simpa using c2)
       clear hF hb hcd c0 c1 c2)
    | (go_at_call 20; refine (ex_cost_any _ _ xa xc _ (S.get (.tail _ (.head _)))).mono ?_; rintro e w3 ⟨rfl, hb⟩; replace S := S.call hb; clear hb))
  go_ret
  exact ⟨rfl, S.below⟩
end Go.Proofs.Ytgbkbcdplcehmaa
