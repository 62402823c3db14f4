/- Layer 1: which lines may be: text.May, text.All, and the document's answer. (The walk of IndexByte: the shelf's template.) -/
import Derived.Lib.Strings
import Derived.Lib.Slices
import Derived.Lib.Walk
import Derived.Lib.Bytealg
import Derived.Deep.QuietTactic
import Derived.BigQuiet
import Derived.Deep.DeepCutAuto
import Derived.Deep.LoopGhost
import Derived.Test.YtkggedmcdllnaaaWord
import Derived.Test.YtkggedmcdllnaaaProg
namespace Go.Proofs.Ytkggedmcdllnaaa
open Go.RowKit

set_option maxHeartbeats 1000000 in
set_option maxRecDepth 100000 in
theorem stringslite_IndexByte (s : ByteArray) (c : Int) (w : World) :
    Calls Try.prog 49 #[.string s, .int .u8 c] w fun e w' => e = .returned (.int .i64 (Lib.indexByte s.data.toList c.toNat.toUInt8)) ∧ w' = w := by
  go_enter Try.func49, Try.ntmps49
  go_wp2
  rw [run_callFunc_extern Try.func52 (by kernel_rfl) (by kernel_rfl) (by kernel_rfl) (e := Extern.BytealgIndexByte.indexByte) (by kernel_rfl), Lib.run_indexByteString]
  simp only [Result.andThen]
  rw [Oper.upon_value]
  go_wp2
  go_ret
  exact ⟨rfl, rfl⟩
theorem strings_IndexByte (s : ByteArray) (c : Int) (w : World) :
    Calls Try.prog 45 #[.string s, .int .u8 c] w fun e w' => e = .returned (.int .i64 (Lib.indexByte s.data.toList c.toNat.toUInt8)) ∧ w' = w := by
  go_enter Try.func45, Try.ntmps45
  go_wp2_with (go_at_call 49; refine (stringslite_IndexByte s c w).mono ?_; rintro e w1 ⟨rfl, rfl⟩)
  go_ret
  exact ⟨rfl, rfl⟩

/-- May a line be? -/
def lnOk (s : ByteArray) : Bool := decide (s.size ≤ 80) && decide ((10 : UInt8) ∉ s.data.toList)
/-- May all? -/
def allOk (xs : List ByteArray) : Bool := decide (xs.length ≤ 200) && xs.all lnOk
theorem indexByte_neg (l : List UInt8) (c : UInt8) : Lib.indexByte l c < 0 ↔ c ∉ l := by
  have hge := Lib.indexByte_ge
  induction l with
  | nil => simp [Lib.indexByte]
  | cons b l ih =>
    unfold Lib.indexByte
    by_cases h : b = c
    · subst h; simp
    · have h' : ¬ c = b := fun e => h e.symm
      have hg := hge l c
      simp only [beq_iff_eq, h, if_false, List.mem_cons, h', false_or]
      split
      · rename_i h2
        exact ⟨fun _ => ih.1 (by omega), fun _ => by omega⟩
      · rename_i h2
        exact ⟨fun h => by omega, fun h => absurd (ih.2 h) (by omega)⟩

theorem may_any (s : ByteArray) (w : World) (_ : s.size ≤ 9223372036854775807) :
    Calls Try.prog 37 #[.string s] w fun e w' => e = .returned (.bool (lnOk s)) ∧ w' = w := by
  by_cases h1 : s.size ≤ 80
  · have d1 : (s.size : Int) ≤ 80 := by omega
    by_cases h2 : (10 : UInt8) ∈ s.data.toList
    · have HC : Kp (lnOk s = false) := ⟨by unfold lnOk; simp [h2]⟩
      have d2 : ¬ Lib.indexByte s.data.toList 10 < 0 := fun h => (indexByte_neg _ _).1 h h2
      go_enter Try.func37, Try.ntmps37
      go_wp2_with (go_at_call 45; refine (strings_IndexByte s 10 w).mono ?_; rintro e w1 ⟨rfl, rfl⟩)
      go_ret
      exact ⟨ret_bool (by rw [HC.out]; exact decide_eq_false (by omega)), rfl⟩
    · have HC : Kp (lnOk s = true) := ⟨by unfold lnOk; simp [h2, h1]⟩
      have d2 : Lib.indexByte s.data.toList 10 < 0 := (indexByte_neg _ _).2 h2
      go_enter Try.func37, Try.ntmps37
      go_wp2_with (go_at_call 45; refine (strings_IndexByte s 10 w).mono ?_; rintro e w1 ⟨rfl, rfl⟩)
      go_ret
      exact ⟨ret_bool (by rw [HC.out]), rfl⟩
  · have d1 : ¬ (s.size : Int) ≤ 80 := by omega
    have HC : Kp (lnOk s = false) := ⟨by unfold lnOk; simp [h1]⟩
    go_enter Try.func37, Try.ntmps37
    go_wp2
    go_ret
    exact ⟨ret_bool (by rw [HC.out]), rfl⟩

theorem byte_at (s : ByteArray) (i : Nat) (h : i < s.size) : s.data.toList[i]'(by rw [Array.length_toList]; exact h) = s[i] := rfl
theorem refMay_any (s : ByteArray) (w : World) (_ : s.size ≤ 9223372036854775807) :
    Calls Try.prog 29 #[.string s] w fun e w' => e = .returned (.bool (lnOk s)) ∧ w' = w := by
  go_enter Try.func29, Try.ntmps29
  go_wp2
  go_loopw [3] (fun vi wr => ∃ i : Nat, vi = .int .i64 i ∧ i ≤ s.size ∧ Kp (∀ j (h : j < s.data.toList.length), j < i → s.data.toList[j] ≠ 10) ∧ wr = w) (fun vi _ => s.size - (intOf vi).toNat)
  case atStart => exact ⟨0, rfl, Nat.zero_le _, ⟨fun j _ hj => absurd hj (by omega)⟩, rfl⟩
  case round =>
    obtain ⟨i, rfl, hi, hall, rfl⟩ := hrel
    by_cases hlt : i < s.size
    · by_cases hb : s[i] = 10
      · have hd : (((s[i].toNat : Nat) : Int) == 10) = true := by rw [hb]; rfl
        have HC : Kp (lnOk s = false) := ⟨by
          unfold lnOk
          rw [decide_eq_false (p := (10 : UInt8) ∉ s.data.toList), Bool.and_false]
          exact fun h => h (hb ▸ byte_at s i hlt ▸ List.getElem_mem _)⟩
        clear hb
        go_wp2
        go_ret
        exact ⟨ret_bool (by rw [HC.out]), rfl⟩
      · have hd : (((s[i].toNat : Nat) : Int) == 10) = false := beq_eq_false_iff_ne.2 fun h => hb (UInt8.toNat_inj.1 (by
          have h10 : (10 : UInt8).toNat = 10 := rfl
          rw [h10]; omega))
        have HB := Kp.mk hb
        clear hb
        go_wp2
        go_roundw
        case rel => exact ⟨i + 1, by go_num, by omega, ⟨fun j h hj => by
          by_cases e : j = i
          · subst e; rw [byte_at s j hlt]; exact HB.out
          · exact hall.out j h (by omega)⟩, trivial⟩
        case measure => simp [intOf]; omega
    · have HC : Kp (lnOk s = decide (s.size ≤ 80)) := ⟨by
        unfold lnOk
        rw [decide_eq_true (p := (10 : UInt8) ∉ s.data.toList), Bool.and_true]
        intro hm
        obtain ⟨j, hj, e⟩ := List.mem_iff_getElem.1 hm
        have hl : s.data.toList.length = s.size := Array.length_toList
        exact hall.out j hj (by omega) e⟩
      go_wp2
      go_ret
      exact ⟨ret_bool (by rw [HC.out]; exact decide_eq_decide.2 (by omega)), rfl⟩

theorem refAll_any (xs : List ByteArray) (A : Option Addr) (n c : Nat) (w : World) (hx : n = xs.length) (hA : SlS w.heap.size w A xs) (hn : xs.length ≤ 100000) (hs : ∀ x ∈ xs, x.size ≤ 9223372036854775807) :
    Calls Try.prog 16 #[.slice A n c] w fun e w' => e = .returned (.bool (allOk xs)) ∧ w' = w := by
  subst hx
  have HS := Kp.mk hs
  clear hs
  go_enter Try.func16, Try.ntmps16
  go_wp2
  go_loopw [3] (fun vi wr => ∃ i : Nat, vi = .int .i64 i ∧ i ≤ xs.length ∧ Kp (∀ j (_ : j < xs.length), j < i → lnOk (sAt xs j) = true) ∧ wr = w) (fun vi _ => xs.length - (intOf vi).toNat)
  case atStart => exact ⟨0, rfl, Nat.zero_le _, ⟨fun j _ hj => absurd hj (by omega)⟩, rfl⟩
  case round =>
    obtain ⟨i, rfl, hi, hall, rfl⟩ := hrel
    by_cases hlt : i < xs.length
    · obtain ⟨ax, rfl, hax, hcx⟩ := hA.at_ hlt
      have HZ : Kp ((sAt xs i).size ≤ 9223372036854775807) := ⟨by rw [sAt_lt hlt]; exact HS.out _ (List.getElem_mem _)⟩
      obtain ⟨b, hb⟩ : ∃ b, lnOk (sAt xs i) = b := ⟨_, rfl⟩
      have hM := refMay_any (sAt xs i) wr HZ.out
      rw [hb] at hM
      have HB := Kp.mk hb
      have HM := Kp.mk hM
      clear hb hM
      cases b with
      | true =>
        go_wp2_with (go_at_call 29; refine HM.out.mono ?_; rintro e w1 ⟨rfl, rfl⟩)
        go_roundw
        case rel => exact ⟨i + 1, by go_num, by omega, ⟨fun j h hj => by
          by_cases e : j = i
          · subst e; exact HB.out
          · exact hall.out j h (by omega)⟩, trivial⟩
        case measure => simp [intOf]; omega
      | false =>
        have HC : Kp (allOk xs = false) := ⟨by
          unfold allOk
          rw [Bool.and_eq_false_iff]
          refine .inr (List.all_eq_false.2 ⟨xs[i], List.getElem_mem _, ?_⟩)
          rw [← sAt_lt hlt, HB.out]; simp⟩
        go_wp2_with (go_at_call 29; refine HM.out.mono ?_; rintro e w1 ⟨rfl, rfl⟩)
        go_ret
        exact ⟨ret_bool (by rw [HC.out]), rfl⟩
    · have HC : Kp (allOk xs = decide (xs.length ≤ 200)) := ⟨by
        unfold allOk
        rw [List.all_eq_true.2, Bool.and_true]
        intro x hx
        obtain ⟨j, hj, rfl⟩ := List.mem_iff_getElem.1 hx
        rw [← sAt_lt hj]
        exact hall.out j hj (by omega)⟩
      go_wp2
      go_ret
      exact ⟨ret_bool (by rw [HC.out]; exact decide_eq_decide.2 (by omega)), rfl⟩

theorem allNot_any (s : ByteArray) (w : World) (hs : s.size ≤ 9223372036854775807) :
    Calls Try.prog 36 #[.string s] w fun e w' => e = .returned (.bool (!(lnOk s))) ∧ w' = w := by
  go_enter Try.func36, Try.ntmps36
  go_wp2_with (go_at_call 37; refine (may_any s w hs).mono ?_; rintro e w1 ⟨rfl, rfl⟩)
  go_ret
  exact ⟨rfl, rfl⟩

theorem all_not_at {xs : List ByteArray} {i : Nat} (hlt : i < xs.length) (h : lnOk (sAt xs i) = false) : xs.all lnOk = false :=
  List.all_eq_false.2 ⟨xs[i], List.getElem_mem _, by rw [← sAt_lt hlt, h]; simp⟩
theorem all_at {xs : List ByteArray} (h : ∀ j (_ : j < xs.length), lnOk (sAt xs j) = true) : xs.all lnOk = true := by
  rw [List.all_eq_true]
  intro x hx
  obtain ⟨j, hj, rfl⟩ := List.mem_iff_getElem.1 hx
  rw [← sAt_lt hj]
  exact h j hj
theorem indexFunc_any (xs : List ByteArray) (A : Option Addr) (n c : Nat) (w : World) (hx : n = xs.length) (hA : SlS w.heap.size w A xs) (_ : xs.length ≤ 100000) (hs : ∀ x ∈ xs, x.size ≤ 9223372036854775807) :
    Calls Try.prog 44 #[.slice A n c, .func (.func 36) #[] #[]] w fun e w' => ∃ r : Int, e = .returned (.int .i64 r) ∧ (decide (0 ≤ r) = !(xs.all lnOk)) ∧ w' = w := by
  subst hx
  have HS := Kp.mk hs
  clear hs
  go_enter Try.func44, Try.ntmps44
  go_wp2
  go_loopw [8] (fun vi wr => ∃ i : Nat, vi = .int .i64 i ∧ i ≤ xs.length ∧ Kp (∀ j (_ : j < xs.length), j < i → lnOk (sAt xs j) = true) ∧ wr = w) (fun vi _ => xs.length - (intOf vi).toNat)
  case atStart => exact ⟨0, rfl, Nat.zero_le _, ⟨fun j _ hj => absurd hj (by omega)⟩, rfl⟩
  case round =>
    obtain ⟨i, rfl, hi, hall, rfl⟩ := hrel
    by_cases hlt : i < xs.length
    · obtain ⟨ax, rfl, hax, hcx⟩ := hA.at_ hlt
      have HZ : Kp ((sAt xs i).size ≤ 9223372036854775807) := ⟨by rw [sAt_lt hlt]; exact HS.out _ (List.getElem_mem _)⟩
      obtain ⟨b, hb⟩ : ∃ b, lnOk (sAt xs i) = b := ⟨_, rfl⟩
      have hM := allNot_any (sAt xs i) wr HZ.out
      rw [hb] at hM
      have HB := Kp.mk hb
      have HM := Kp.mk hM
      clear hb hM
      cases b with
      | true =>
        go_wp2_with (go_at_call 36; refine HM.out.mono ?_; rintro e w1 ⟨rfl, rfl⟩)
        go_roundw
        case rel => exact ⟨i + 1, by go_num, by omega, ⟨fun j h hj => by
          by_cases e : j = i
          · subst e; exact HB.out
          · exact hall.out j h (by omega)⟩, trivial⟩
        case measure => simp [intOf]; omega
      | false =>
        have HC : Kp (xs.all lnOk = false) := ⟨all_not_at hlt HB.out⟩
        go_wp2_with (go_at_call 36; refine HM.out.mono ?_; rintro e w1 ⟨rfl, rfl⟩)
        go_ret
        exact ⟨_, rfl, by rw [HC.out]; exact decide_eq_true (by omega), rfl⟩
    · have HC : Kp (xs.all lnOk = true) := ⟨all_at fun j hj => hall.out j hj (by omega)⟩
      go_wp2
      go_ret
      exact ⟨_, rfl, by rw [HC.out]; exact decide_eq_false (by omega), rfl⟩
theorem containsFunc_any (xs : List ByteArray) (A : Option Addr) (n c : Nat) (w : World) (hx : n = xs.length) (hA : SlS w.heap.size w A xs) (hn : xs.length ≤ 100000) (hs : ∀ x ∈ xs, x.size ≤ 9223372036854775807) :
    Calls Try.prog 35 #[.slice A n c, .func (.func 36) #[] #[]] w fun e w' => e = .returned (.bool (!(xs.all lnOk))) ∧ w' = w := by
  subst hx
  go_enter Try.func35, Try.ntmps35
  go_wp2_with (go_at_call 44; refine (indexFunc_any xs A _ c w rfl hA hn hs).mono ?_; rintro e w1 ⟨r, rfl, hr, rfl⟩)
  go_ret
  exact ⟨rfl, rfl⟩
theorem all_any (xs : List ByteArray) (A : Option Addr) (n c : Nat) (w : World) (hx : n = xs.length) (hA : SlS w.heap.size w A xs) (hn : xs.length ≤ 100000) (hs : ∀ x ∈ xs, x.size ≤ 9223372036854775807) :
    Calls Try.prog 27 #[.slice A n c] w fun e w' => e = .returned (.bool (allOk xs)) ∧ w' = w := by
  subst hx
  by_cases h : xs.length ≤ 200
  · have d1 : (xs.length : Int) ≤ 200 := by omega
    have HC : Kp (allOk xs = xs.all lnOk) := ⟨by unfold allOk; rw [decide_eq_true h, Bool.true_and]⟩
    go_enter Try.func27, Try.ntmps27
    go_wp2_with (go_at_call 35; refine (containsFunc_any xs A _ c w rfl hA hn hs).mono ?_; rintro e w1 ⟨rfl, rfl⟩)
    go_ret
    exact ⟨ret_bool (by rw [HC.out]), rfl⟩
  · have d1 : ¬ (xs.length : Int) ≤ 200 := by omega
    have HC : Kp (allOk xs = false) := ⟨by unfold allOk; rw [decide_eq_false h, Bool.false_and]⟩
    go_enter Try.func27, Try.ntmps27
    go_wp2
    go_ret
    exact ⟨ret_bool (by rw [HC.out]), rfl⟩
end Go.Proofs.Ytkggedmcdllnaaa
