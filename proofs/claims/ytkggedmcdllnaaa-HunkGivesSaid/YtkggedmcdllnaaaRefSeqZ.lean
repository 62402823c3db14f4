/- quiltmakerref02.At, Swap: the document's answer. -/
import Derived.Test.YtkggedmcdllnaaaSeqA
namespace Go.Proofs.Ytkggedmcdllnaaa
open Go.RowKit

theorem refAt_any (xs ys : List ByteArray) (A B : Option Addr) (n m c d : Nat) (p : Int) (b : Bool) (w : World) (hx : n = xs.length) (hy : m = ys.length) (hb : stands xs p ys = b)
    (hA : SlS w.heap.size w A xs) (hB : SlS w.heap.size w B ys) (hn : xs.length ≤ 100000) (hm : ys.length ≤ 100000) (_ : -9223372036854775808 ≤ p) (_ : p ≤ 9223372036854775807) :
    Calls Try.prog 43 #[.slice A n c, .int .i64 p, .slice B m d] w fun e w' => e = .returned (.bool b) ∧ Below w.heap.size w w' := by
  subst hx hy hb
  by_cases hp : 0 ≤ p
  · obtain ⟨k, rfl⟩ := Int.eq_ofNat_of_zero_le hp
    by_cases hk : k ≤ xs.length
    · by_cases hl : k + ys.length ≤ xs.length
      · have i0 : ¬ (k : Int) < 0 := by omega
        have i1 : ¬ (xs.length : Int) < (k : Int) := by omega
        have i2 : ¬ (xs.length : Int) - (k : Int) < (ys.length : Int) := by omega
        have HC := Kp.mk (stands_in hl)
        go_enter Try.func43, Try.ntmps43
        go_wp2
        clear i0 i1 i2
        go_loopw [7] (fun vi wr => ∃ i q : Nat, vi = .int .i64 i ∧ i ≤ ys.length ∧ Kp (∀ j, j < i → sAt xs (k + j) = sAt ys j) ∧ wr = w.drewN q) (fun vi _ => ys.length - (intOf vi).toNat)
        case atStart => exact ⟨0, 0, rfl, Nat.zero_le _, ⟨fun j hj => absurd hj (by omega)⟩, rfl⟩
        case round =>
          obtain ⟨i, q, rfl, hi, hall, rfl⟩ := hrel
          by_cases hlt : i < ys.length
          · obtain ⟨ax, rfl, hax, hcx⟩ := hA.at_ (show k + i < xs.length by omega)
            obtain ⟨ay, rfl, hay, hcy⟩ := hB.at_ hlt
            have b1 : (k : Int) + (i : Int) < (xs.length : Int) := by omega
            have b2 : (i : Int) < (ys.length : Int) := by omega
            have b3 : IntKind.i64.wrap ((k : Int) + (i : Int)) = (k : Int) + (i : Int) := IntWalk.i64_in _ (by omega)
            have b4 : ((k : Int) + (i : Int)).toNat = k + i := by omega
            have b5 : (0 : Int) ≤ (k : Int) + (i : Int) := by omega
            by_cases heq : sAt xs (k + i) = sAt ys i
            · have hbq : ((sAt xs (k + i)).toList == (sAt ys i).toList) = true := by rw [str_beq]; exact decide_eq_true heq
              have HE := Kp.mk heq
              clear heq
              go_wp2
              go_quiet (fail)
              clear b3 b4 b5
              go_wp2
              go_roundw
              case rel => exact ⟨i + 1, _, by go_num, by omega, ⟨fun j hj => by
                by_cases e : j = i
                · subst e; exact HE.out
                · exact hall.out j (by omega)⟩, rfl⟩
              case measure => simp [intOf]; omega
            · have hbq : ((sAt xs (k + i)).toList == (sAt ys i).toList) = false := by rw [str_beq]; exact decide_eq_false heq
              have HF : Kp (decide ((xs.drop k).take ys.length = ys) = false) := ⟨decide_eq_false fun e => heq (by
                rw [← sAt_drop, ← sAt_take (xs.drop k) hlt, e])⟩
              clear heq
              go_wp2
              go_quiet (fail)
              clear b3 b4 b5
              go_wp2
              go_ret
              exact ⟨ret_bool (by rw [HC.out, HF.out]), below_drewN (below_drewN (Below.refl _ _) _) _⟩
          · have HF : Kp (decide ((xs.drop k).take ys.length = ys) = true) := ⟨decide_eq_true (List.ext_getElem (by simp; omega) fun j h1 h2 => by
              rw [← sAt_lt h1, ← sAt_lt h2, sAt_take (xs.drop k) h2, sAt_drop]; exact hall.out j (by omega))⟩
            go_wp2
            go_ret
            exact ⟨ret_bool (by rw [HC.out, HF.out]), below_drewN (Below.refl _ _) _⟩
      · have i0 : ¬ (k : Int) < 0 := by omega
        have i1 : ¬ (xs.length : Int) < (k : Int) := by omega
        have i2 : (xs.length : Int) - (k : Int) < (ys.length : Int) := by omega
        have HC := Kp.mk (stands_high hl)
        go_enter Try.func43, Try.ntmps43
        go_wp2
        go_ret
        exact ⟨ret_bool (by rw [HC.out]), Below.refl _ _⟩
    · have i0 : ¬ (k : Int) < 0 := by omega
      have i1 : (xs.length : Int) < (k : Int) := by omega
      have HC := Kp.mk (stands_high (xs := xs) (ys := ys) (k := k) (by omega))
      go_enter Try.func43, Try.ntmps43
      go_wp2
      go_ret
      exact ⟨ret_bool (by rw [HC.out]), Below.refl _ _⟩
  · have i0 : p < 0 := by omega
    have HC := Kp.mk (stands_low (xs := xs) (ys := ys) hp)
    go_enter Try.func43, Try.ntmps43
    go_wp2
    go_ret
    exact ⟨ret_bool (by rw [HC.out]), Below.refl _ _⟩

theorem refSwap_no (xs ys : List ByteArray) (A B C : Option Addr) (n m o c d g : Nat) (p : Int) (w : World) (hx : n = xs.length) (hy : m = ys.length) (hs : stands xs p ys = false)
    (hA : SlS w.heap.size w A xs) (hB : SlS w.heap.size w B ys) (hn : xs.length ≤ 100000) (hm : ys.length ≤ 100000) (h1 : -9223372036854775808 ≤ p) (h2 : p ≤ 9223372036854775807) :
    Calls Try.prog 34 #[.slice A n c, .int .i64 p, .slice B m d, .slice C o g] w fun e w' => e = .returned (.tuple #[.slice none 0 0, .bool false]) ∧ Below w.heap.size w w' := by
  subst hx hy
  have HS := Kp.mk hs
  clear hs
  go_enter Try.func34, Try.ntmps34
  go_wp2_with (go_at_call 43; refine (refAt_any xs ys A B _ _ c d p false w rfl rfl HS.out hA hB hn hm h1 h2).mono ?_; rintro e w1 ⟨rfl, hb1⟩)
  go_ret2
  exact ⟨rfl, hb1⟩
set_option maxHeartbeats 1000000 in
theorem refSwap_yes (xs ys zs : List ByteArray) (A B C : Option Addr) (n m o c d g k : Nat) (w : World) (hx : n = xs.length) (hy : m = ys.length) (hz : o = zs.length) (hs : stands xs k ys = true) (hc : xs.length ≤ c)
    (hA : SlS w.heap.size w A xs) (hB : SlS w.heap.size w B ys) (hC : SlS w.heap.size w C zs) (hn : xs.length ≤ 100000) (hm : ys.length ≤ 100000) (ho1 : zs.length ≤ 100000) :
    Calls Try.prog 34 #[.slice A n c, .int .i64 k, .slice B m d, .slice C o g] w fun e w' => ∃ D r, e = .returned (.tuple #[.slice D (swp xs k ys.length zs).length r, .bool true]) ∧ (swp xs k ys.length zs).length ≤ r ∧ r ≤ 9223372036854775807 ∧
      SlS 0 w' D (swp xs k ys.length zs) ∧ Below w.heap.size w w' := by
  subst hx hy hz
  obtain ⟨k', e, hk, -⟩ := stands_split hs
  obtain rfl : k = k' := by omega
  have HS := Kp.mk hs
  clear hs e
  go_enter Try.func34, Try.ntmps34
  go_wp2_with fail
  refine (refAt_any xs ys A B _ _ c d k true w rfl rfl HS.out hA hB hn hm (by omega) (by omega)).mono ?_
  rintro e w1 ⟨rfl, hb1⟩
  have i1 : (k : Int) + (ys.length : Int) ≤ xs.length := by omega
  have i2 : k ≤ xs.length := by omega
  have i3 : k ≤ c := by omega
  have hA1 := (hA.later hb1).take i2
  have HL1 : Kp (k = (xs.take k).length) := ⟨by rw [List.length_take]; omega⟩
  have HL2 : Kp (([] : List ByteArray).length + (xs.take k).length ≤ 8000000000000) := ⟨by rw [List.length_take, List.length_nil]; omega⟩
  have HL3 : Kp (xs.length - (k + ys.length) = (xs.drop (k + ys.length)).length) := ⟨by simp⟩
  have HL4 : Kp ((([] : List ByteArray) ++ xs.take k ++ zs).length + (xs.drop (k + ys.length)).length ≤ 8000000000000) := ⟨by simp; omega⟩
  have HL5 : Kp ((([] : List ByteArray) ++ xs.take k).length + zs.length ≤ 8000000000000) := ⟨by simp; omega⟩
  go_wp2_with (first
    | (at_builtin; refine wpList_append_strs rfl (.const (.slice none 0 0)) (.tmp 20) 22 rfl Try.underlying22 w.heap.size _ 0 [] rfl (World.ownsRow_nil _ _ _ _) A _ _ (xs.take k) _ rfl HL1.out hA1 HL2.out hb1.size hb1 ?_; intro v2 w2 hown2 hb2 _)
    | (at_builtin; refine wpList_append_strs rfl (.tmp 22) (.tmp 23) 22 rfl Try.underlying22 w.heap.size _ _ _ rfl hown2 C _ _ zs _ rfl rfl (hC.later hb2) HL5.out hb2.size hb2 ?_; intro v3 w3 hown3 hb3 _; have hD1 := (hA.later hb3).cut (k := k + ys.length) (c := c) hk hc)
    | (at_builtin; refine wpList_append_strs rfl (.tmp 25) (.tmp 31) 22 rfl Try.underlying22 w.heap.size _ _ _ rfl hown3 _ _ _ (xs.drop (k + ys.length)) _ rfl HL3.out hD1 HL4.out hb3.size hb3 ?_; intro v4 w4 hown4 hb4 _)
    | fail)
  all_goals
    rw [List.nil_append] at hown4
    obtain ⟨D, r, rfl, q1, q2, hD⟩ := SlS.of_own (B := 0) hown4 (by simp; omega)
    go_ret2
    exact ⟨_, _, rfl, q1, q2, hD, hb4⟩
theorem refSwap_all (xs ys zs : List ByteArray) (A B C : Option Addr) (n m o c d g : Nat) (p : Int) (w : World) (b : Bool) (l : List ByteArray) (hb : stands xs p ys = b) (hl : swpR xs p ys zs = l) (hx : n = xs.length) (hy : m = ys.length) (hz : o = zs.length) (hc : xs.length ≤ c)
    (hA : SlS w.heap.size w A xs) (hB : SlS w.heap.size w B ys) (hC : SlS w.heap.size w C zs) (hn : xs.length ≤ 100000) (hm : ys.length ≤ 100000) (ho1 : zs.length ≤ 100000) (h1 : -9223372036854775808 ≤ p) (h2 : p ≤ 9223372036854775807) :
    Calls Try.prog 34 #[.slice A n c, .int .i64 p, .slice B m d, .slice C o g] w fun e w' => ∃ D r, e = .returned (.tuple #[.slice D l.length r, .bool b]) ∧ l.length ≤ r ∧ r ≤ 9223372036854775807 ∧ SlS 0 w' D l ∧ Below w.heap.size w w' := by
  cases b with
  | false =>
    obtain rfl : l = [] := by rw [← hl]; unfold swpR; rw [hb]; rfl
    refine (refSwap_no xs ys A B C n m o c d g p w hx hy hb hA hB hn hm h1 h2).mono ?_
    rintro e w' ⟨rfl, hb'⟩
    exact ⟨none, 0, rfl, Nat.le_refl _, by omega, SlS.nil, hb'⟩
  | true =>
    obtain ⟨k, rfl, -⟩ := stands_split hb
    obtain rfl : l = swp xs k ys.length zs := by rw [← hl]; unfold swpR; rw [hb]; rfl
    exact refSwap_yes xs ys zs A B C n m o c d g k w hx hy hz hb hc hA hB hC hn hm ho1
end Go.Proofs.Ytkggedmcdllnaaa
