/- quiltmakerref04.Same: are two lists of edits the same. -/
import Derived.Test.YtgbkbcdplcehmaaCost
import Derived.Test.YtgbkbcdplcehmaaSame
namespace Go.Proofs.Ytgbkbcdplcehmaa
open Go.RowKit

/-- A call that only reads, in a world that has been drawn from: for go_quiet. -/
theorem quiet_on {P : Program} {f : FuncId} {args : Array Value} {w : World} {q n : Nat} {v : Value}
    (h : Calls P f args (w.drewN (q + n)) fun e w' => e = .returned v ∧ ∃ m, w' = (w.drewN (q + n)).drewN m) : Calls P f args (w.drewN (q + n)) fun e w'' => e = .returned v ∧ ∃ m, w'' = w.drewN (q + m) :=
  h.mono fun e w' k => ⟨k.1, by obtain ⟨m, e2⟩ := k.2; exact ⟨n + m, by rw [e2, World.drewN_drewN, Nat.add_assoc]⟩⟩
theorem eds_at {l m : List EdA} (h : eds l = eds m) (i : Nat) (h1 : i < l.length) (h2 : i < m.length) : l[i].1 = m[i].1 ∧ l[i].2.1 = m[i].2.1 ∧ l[i].2.2.2.2 = m[i].2.2.2.2 := by
  have e := congrArg (fun z => z[i]?) h
  simp only [eds, List.getElem?_map, List.getElem?_eq_getElem h1, List.getElem?_eq_getElem h2, Option.map_some, Option.some.injEq, Prod.mk.injEq] at e
  exact e
set_option maxHeartbeats 2000000 in
theorem esame_any (l m : List EdA) (C D : Option Addr) (k k' : Nat) (w : World) (he : eds l = eds m) (hC : EdL C l w) (hD : EdL D m w) (hn : l.length ≤ 100000) (hs : ∀ e ∈ l, e.2.2.2.2.length ≤ 100000) :
    Calls Try.prog 13 #[.slice C l.length k, .slice D m.length k'] w fun e w' => e = .returned (.bool true) ∧ Below w.heap.size w w' := by
  have hl : l.length = m.length := by have := congrArg List.length he; rwa [eds_length, eds_length] at this
  have hd : ((l.length : Int) != (m.length : Int)) = false := by simp; omega
  have HL := Kp.mk hl
  have HE := Kp.mk he
  have HS := Kp.mk hs
  clear hl he hs
  go_enter Try.func13, Try.ntmps13
  go_wp2
  clear hd
  go_loopw [5] (fun vi wr => ∃ i q : Nat, vi = .int .i64 i ∧ i ≤ l.length ∧ wr = w.drewN q) (fun vi _ => l.length - (intOf vi).toNat)
  case atStart => exact ⟨0, 0, rfl, Nat.zero_le _, rfl⟩
  case round =>
    obtain ⟨i, q, rfl, hi, rfl⟩ := hrel
    by_cases hlt : i < l.length
    · have hlt2 : i < m.length := by rw [← HL.out]; exact hlt
      obtain ⟨g, o, rfl, hg, hc⟩ := EdL.at_ hC (by omega)
      obtain ⟨g', o', rfl, hg', hc'⟩ := EdL.at_ hD (by omega)
      obtain ⟨c0, c1, c2⟩ := hc i hlt
      obtain ⟨d0, d1, d2⟩ := hc' i hlt2
      obtain ⟨e0, e1, e2⟩ := eds_at HE.out i hlt hlt2
      have hx := hC.2 _ (List.getElem_mem hlt)
      have hy := hD.2 _ (List.getElem_mem hlt2)
      have hz := HS.out _ (List.getElem_mem hlt)
      obtain ⟨x, ex⟩ : ∃ x, l[i] = x := ⟨_, rfl⟩
      obtain ⟨y, ey⟩ : ∃ y, m[i] = y := ⟨_, rfl⟩
      obtain ⟨x0, x1, xa, xc, us⟩ := x
      obtain ⟨y0, y1, ya, yc, vs⟩ := y
      rw [ex] at c0 c1 c2 e0 e1 e2 hx hz
      rw [ey] at d0 d1 d2 e0 e1 e2 hy
      simp only [] at c0 c1 c2 d0 d1 d2 e0 e1 e2 hx hy hz
      subst e0 e1 e2
      have b1 : (0 : Int) ≤ (i : Int) := by omega
      have b2 : (i : Int) < (l.length : Int) := by omega
      have b3 : (i : Int) < (m.length : Int) := by omega
      have HX : Kp (∀ q, SlS (w.drewN q).heap.size (w.drewN q) xa us) := ⟨fun q => hx.ln⟩
      have HY : Kp (∀ q, SlS (w.drewN q).heap.size (w.drewN q) ya us) := ⟨fun q => hy.ln⟩
      clear hc hc' ex ey hx hy
      go_wp2
      go_quiet ((go_at_call 19; exact quiet_on (same_at_q us us xa ya _ _ xc yc true _ rfl rfl (by simp) (HX.out _) (HY.out _) (by omega))))
      go_wp2
      go_region
      go_wp2
      go_roundw
      case rel => exact ⟨i + 1, _, by go_num, by omega, rfl⟩
      case measure => simp [intOf]; omega
    · obtain rfl : i = l.length := by omega
      go_wp2
      go_ret
      exact ⟨rfl, below_drewN (Below.refl _ _) q⟩
end Go.Proofs.Ytgbkbcdplcehmaa
