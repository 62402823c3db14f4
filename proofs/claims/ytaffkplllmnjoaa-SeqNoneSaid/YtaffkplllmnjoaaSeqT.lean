/- slices.Clone and slices.Reverse at lists of lines of layer 2's own type; what is the same behind that from the other end. -/
import Derived.Lib.SliceRun
import Derived.RegionTactic
import Derived.BigRegion
import Derived.ChangeAlike
import Derived.Test.YtaffkplllmnjoaaLaw
import Derived.Test.YtaffkplllmnjoaaSeqF
namespace Go.Proofs.Ytaffkplllmnjoaa
open Go.RowKit

set_option maxHeartbeats 1000000 in
theorem cloneM_any (xs : List ByteArray) (A : Option Addr) (c : Nat) (w : World) (hA : SlS w.heap.size w A xs) (hn : xs.length ≤ 100000) :
    Calls Try.prog 25 #[.slice A xs.length c] w fun e w' => ∃ v, e = .returned v ∧ w'.ownsRow w.heap.size 9 1 v xs.length (scs xs) ∧ Below w.heap.size w w' := by
  have hnil := fun (W : World) (ad : Addr) (n m : Nat) => Lib.run_eql_slice_nil (P := Try.prog) W 33 9 (some ad) n m 0 0 Try.underlying33
  have hnil2 := fun (W : World) (n m : Nat) => Lib.run_eql_slice_nil (P := Try.prog) W 33 9 none n m 0 0 Try.underlying33
  cases A with
  | none =>
    have h0 : xs = [] := by
      rcases Nat.eq_zero_or_pos xs.length with h | h
      · exact List.eq_nil_of_length_eq_zero h
      · obtain ⟨ad, e, _⟩ := hA.2 h
        cases e
    subst h0
    go_enter Try.func25, Try.ntmps25
    go_wp2
    go_ret
    exact ⟨_, rfl, World.ownsRow_nil _ _ _ _, Below.refl _ _⟩
  | some ad =>
    go_enter Try.func25, Try.ntmps25
    have ho := World.ownsRow_made (base := w.heap.size) (e := 9) (size := 1) w #[] 0 (Nat.le_refl _) (by simp [maxLen]) rfl
    have hb0 : Below w.heap.size w (w.alloc (.cells #[] 9)) := (Below.refl _ w).alloc (Nat.le_refl _) _
    have hA1 := hA.alloc (.cells #[] 9)
    go_wp2_with (at_builtin; refine wpList_append_strs rfl _ _ 33 rfl Try.underlying33 w.heap.size _ 0 [] rfl ho _ _ _ xs _ rfl rfl hA1 (by simp; omega) (by simp) hb0 ?_; intro v2 w2 hown2 hb2 _)
    go_ret
    exact ⟨_, rfl, hown2, hb2⟩

/-- A list half turned: i from each end. -/
def rv (cur : Nat → Value) (xs : List ByteArray) (i k : Nat) : Value :=
  if k < xs.length then (if k < i ∨ xs.length ≤ k + i then .string (sAt xs (xs.length - 1 - k)) else .string (sAt xs k)) else cur k
theorem rv_zero (cur : Nat → Value) (xs : List ByteArray) (k : Nat) (h : k < xs.length) : rv cur xs 0 k = .string (sAt xs k) := by
  unfold rv; rw [if_pos h, if_neg (by omega)]
theorem rv_mid (cur : Nat → Value) (xs : List ByteArray) (i k : Nat) (h1 : i ≤ k) (h2 : k + i < xs.length) : rv cur xs i k = .string (sAt xs k) := by
  unfold rv; rw [if_pos (by omega), if_neg (by omega)]
theorem rv_step (cur : Nat → Value) (xs : List ByteArray) (i j k : Nat) (h : i + j + 1 = xs.length) (hij : i < j) :
    (if k = j then Value.string (sAt xs i) else if k = i then Value.string (sAt xs j) else rv cur xs i k) = rv cur xs (i + 1) k := by
  by_cases h1 : k = j
  · subst h1
    rw [if_pos rfl]
    unfold rv
    rw [if_pos (by omega), if_pos (.inr (by omega)), show xs.length - 1 - k = i from by omega]
  · rw [if_neg h1]
    by_cases h2 : k = i
    · subst h2
      rw [if_pos rfl]
      unfold rv
      rw [if_pos (by omega), if_pos (.inl (by omega)), show xs.length - 1 - k = j from by omega]
    · rw [if_neg h2]
      unfold rv
      by_cases h3 : k < xs.length
      · rw [if_pos h3, if_pos h3]
        by_cases h4 : k < i ∨ xs.length ≤ k + i
        · rw [if_pos h4, if_pos (by omega)]
        · rw [if_neg h4, if_neg (by omega)]
      · rw [if_neg h3, if_neg h3]
theorem rv_end (cur : Nat → Value) (xs : List ByteArray) (i k : Nat) (h : xs.length ≤ 2 * i + 1) (hk : k < xs.length) : rv cur xs i k = .string (sAt xs.reverse k) := by
  have hr : sAt xs.reverse k = sAt xs (xs.length - 1 - k) := by
    rw [sAt_lt (by simpa using hk), sAt_lt (by omega), List.getElem_reverse]
  unfold rv
  rw [if_pos hk, hr]
  by_cases h4 : k < i ∨ xs.length ≤ k + i
  · rw [if_pos h4]
  · rw [if_neg h4, show xs.length - 1 - k = k from by omega]

theorem row_of_own {w : World} {base g n cap : Nat} {xs : List ByteArray} (h : w.ownsRow base 9 1 (.slice (some ⟨g, 0, none⟩) n cap) n (scs xs)) :
    base ≤ g ∧ n = xs.length ∧ n ≤ cap ∧ cap ≤ 9223372036854775807 ∧ ∃ cur, Row w g 9 cap (rv cur xs 0) := by
  rcases h.2 with ⟨e, _⟩ | ⟨g', cap', cur, e, hb, hh, hc, hm, hs, ht⟩
  · cases e
  · cases e
    have hn : n = xs.length := by have := h.1; rw [scs_length] at this; omega
    refine ⟨hb, hn, hc, hm, fun k => cur.getD k undef, cur, hh, by omega, fun k hk => ?_⟩
    by_cases h1 : k < xs.length
    · rw [rv_zero _ _ _ h1]
      have h2 : (cur.toList.take (n * 1))[k]? = some (.string (sAt xs k)) := by rw [ht]; simp [scs, List.getElem?_eq_getElem h1, sAt_lt h1]
      rw [List.getElem?_take, if_pos (by omega)] at h2
      simpa using h2
    · unfold rv
      rw [if_neg h1]
      have : k < cur.size := by omega
      simp [this]
theorem own_of_row {w : World} {base g n cap i : Nat} {xs : List ByteArray} {cur : Nat → Value} (h : Row w g 9 cap (rv cur xs i)) (hb : base ≤ g) (hn : n = xs.length) (hc : n ≤ cap) (hm : cap ≤ 9223372036854775807) (he : xs.length ≤ 2 * i + 1) :
    w.ownsRow base 9 1 (.slice (some ⟨g, 0, none⟩) n cap) n (scs xs.reverse) := by
  obtain ⟨cs, hh, hs, hv⟩ := h
  refine ⟨by rw [scs_length]; simp [hn], .inr ⟨g, cap, cs, rfl, hb, hh, hc, hm, by omega, ?_⟩⟩
  apply List.ext_getElem?
  intro k
  rw [List.getElem?_take]
  by_cases h1 : k < n * 1
  · rw [if_pos h1]
    have h2 := hv k (by omega)
    rw [rv_end cur xs i k he (by omega)] at h2
    have h3 : k < xs.reverse.length := by simp; omega
    simp only [Array.getElem?_toList, h2, scs, List.getElem?_map, List.getElem?_eq_getElem h3, Option.map_some, sAt_lt h3]
  · rw [if_neg h1]
    simp [scs]; omega

set_option maxHeartbeats 1000000 in
theorem reverseM_any (xs : List ByteArray) (v : Value) (base : Nat) (w : World) (hown : w.ownsRow base 9 1 v xs.length (scs xs)) (hn : xs.length ≤ 100000) :
    Calls Try.prog 26 #[v] w fun e w' => e = .returned (.tuple #[]) ∧ w'.ownsRow base 9 1 v xs.length (scs xs.reverse) ∧ w.grownBy w' v.ownBlock := by
  have hv : (v = .slice none 0 0 ∧ xs.length = 0) ∨ ∃ g cap, v = .slice (some ⟨g, 0, none⟩) xs.length cap := by
    rcases hown.2 with h | ⟨g, cap, _, h, _⟩
    · exact .inl h
    · exact .inr ⟨g, cap, h⟩
  rcases hv with ⟨rfl, h0⟩ | ⟨g, cap, rfl⟩
  · have hx : xs = [] := List.eq_nil_of_length_eq_zero h0
    subst hx
    go_enter Try.func26, Try.ntmps26
    go_wp2
    refine wp_loop_rounds 1 ?_
    rw [rounds_succ]
    go_wp2
    go_end0
    exact ⟨rfl, World.ownsRow_nil _ _ _ _, World.grownBy.refl _ _⟩
  · obtain ⟨hb, _, hc, hm, cur, hrow⟩ := row_of_own hown
    clear hown
    go_enter Try.func26, Try.ntmps26
    go_wp2
    go_loopw [2, 3] (fun vi vj wr => ∃ (i : Nat) (jv : Int), vi = .int .i64 i ∧ vj = .int .i64 jv ∧ (i : Int) + jv + 1 = xs.length ∧ (i : Int) ≤ jv + 2 ∧ Kp (Row wr g 9 cap (rv cur xs i) ∧ w.grownBy wr (some g))) (fun vi vj _ => (intOf vj - intOf vi + 1).toNat)
    case atStart => exact ⟨0, _, rfl, rfl, by omega, by omega, ⟨hrow, World.grownBy.refl _ _⟩⟩
    case round =>
      clear hrow
      obtain ⟨i, jv, rfl, rfl, hij, hle, hk⟩ := hrel
      by_cases hlt : (i : Int) < jv
      · obtain ⟨j, rfl⟩ := Int.eq_ofNat_of_zero_le (show 0 ≤ jv by omega)
        have hci := hk.out.1.cell (k := i) (by omega)
        have hcj := hk.out.1.cell (k := j) (by omega)
        rw [rv_mid _ _ _ _ (by omega) (by omega)] at hci hcj
        have hfi := hk.out.1.free i
        have hfj := hk.out.1.free j
        have hb1 : (i : Int) < (xs.length : Int) := by omega
        have hb2 : (j : Int) < (xs.length : Int) := by omega
        have HIJ := Kp.mk hij
        clear hij
        go_wp2
        go_region
        go_wp2
        go_roundw
        case rel => exact ⟨i + 1, _, by go_num, rfl, by have := HIJ.out; omega, by omega, ⟨(((hk.out.1.set i _).set j _).drew).congr (fun k _ => rv_step cur xs i j k (by have := HIJ.out; omega) (by omega)), grown_drew (grown_set (grown_set hk.out.2 rfl _) rfl _)⟩⟩
        case measure => simp [intOf]; omega
      · go_wp2
        go_end0
        exact ⟨rfl, own_of_row hk.out.1 hb rfl hc hm (by omega), hk.out.2⟩
end Go.Proofs.Ytaffkplllmnjoaa
