/- quiltmakerref01.All, of a list of any length. Hunks of two lists, one behind the other: plain law. -/
import Derived.Test.YtkggedmcdllnaaaRef5
import Derived.Test.YtkggedmcdllnaaaHPl
namespace Go.Proofs.Ytkggedmcdllnaaa
open Go.RowKit

theorem refAllL_any (xs : List ByteArray) (A : Option Addr) (n c : Nat) (w : World) (hx : n = xs.length) (hA : SlS w.heap.size w A xs) (hs : ∀ x ∈ xs, x.size ≤ 9223372036854775807) :
    Calls Try.prog 16 #[.slice A n c] w fun e w' => e = .returned (.bool (allOk xs)) ∧ w' = w := by
  subst hx
  have hl63 : xs.length ≤ 9223372036854775807 := hA.1
  have HS := Kp.mk hs
  clear hs
  go_enter Try.func16, Try.ntmps16
  go_wp2
  go_loopw [3] (fun vi wr => ∃ i : Nat, vi = .int .i64 i ∧ i ≤ xs.length ∧ Kp (∀ j (_ : j < xs.length), j < i → lnOk (sAt xs j) = true) ∧ wr = w) (fun vi _ => xs.length - (intOf vi).toNat)
  case atStart => exact ⟨0, rfl, Nat.zero_le _, ⟨fun j _ hj => absurd hj (by omega)⟩, rfl⟩
  case round =>
    obtain ⟨i, rfl, hi, hall, rfl⟩ := hrel
    by_cases hlt : i < xs.length
    · obtain ⟨ax, rfl, hax, hcx⟩ := hA.at_ hlt
      have HZ : Kp ((sAt xs i).size ≤ 9223372036854775807) := ⟨by rw [sAt_lt hlt]; exact HS.out _ (List.getElem_mem _)⟩
      obtain ⟨b, hb⟩ : ∃ b, lnOk (sAt xs i) = b := ⟨_, rfl⟩
      have hM := refMay_any (sAt xs i) wr HZ.out
      rw [hb] at hM
      have HB := Kp.mk hb
      have HM := Kp.mk hM
      clear hb hM
      cases b with
      | true =>
        go_wp2_with (go_at_call 29; refine HM.out.mono ?_; rintro e w1 ⟨rfl, rfl⟩)
        go_roundw
        case rel => exact ⟨i + 1, by go_num, by omega, ⟨fun j h hj => by
          by_cases e : j = i
          · subst e; exact HB.out
          · exact hall.out j h (by omega)⟩, trivial⟩
        case measure => simp [intOf]; omega
      | false =>
        have HC : Kp (allOk xs = false) := ⟨by
          unfold allOk
          rw [Bool.and_eq_false_iff]
          refine .inr (List.all_eq_false.2 ⟨xs[i], List.getElem_mem _, ?_⟩)
          rw [← sAt_lt hlt, HB.out]; simp⟩
        go_wp2_with (go_at_call 29; refine HM.out.mono ?_; rintro e w1 ⟨rfl, rfl⟩)
        go_ret
        exact ⟨ret_bool (by rw [HC.out]), rfl⟩
    · have HC : Kp (allOk xs = decide (xs.length ≤ 200)) := ⟨by
        unfold allOk
        rw [List.all_eq_true.2, Bool.and_true]
        intro x hx
        obtain ⟨j, hj, rfl⟩ := List.mem_iff_getElem.1 hx
        rw [← sAt_lt hj]
        exact hall.out j hj (by omega)⟩
      go_wp2
      go_ret
      exact ⟨ret_bool (by rw [HC.out]; exact decide_eq_decide.2 (by omega)), rfl⟩

theorem allOk_sub {xs zs : List ByteArray} (h : allOk xs = true) (h1 : zs.length ≤ xs.length) (h2 : ∀ x ∈ zs, x ∈ xs) : allOk zs = true := by
  simp only [allOk, Bool.and_eq_true, decide_eq_true_eq, List.all_eq_true] at h ⊢
  exact ⟨by omega, fun x hx => h.2 x (h2 x hx)⟩
theorem allOk_out {xs : List ByteArray} (h : allOk xs = true) : xs.length ≤ 200 ∧ ∀ x ∈ xs, x.size ≤ 9223372036854775807 := by
  simp only [allOk, lnOk, Bool.and_eq_true, decide_eq_true_eq, List.all_eq_true] at h
  exact ⟨h.1, fun x hx => by have := (h.2 x hx).1; omega⟩
/-- What hunks make of a list, one behind the other. -/
def runH : List ByteArray → List Hk3 → List ByteArray
  | l, [] => l
  | l, h :: r => runH (apL l h.1 h.2.1 h.2.2) r
/-- Each changes what the ones ahead left; no list is longer than N. -/
def okH (N : Nat) : List ByteArray → List Hk3 → Prop
  | l, [] => l.length ≤ N
  | l, h :: r => l.length ≤ N ∧ apE l h.1 h.2.1 h.2.2 = 0 ∧ okH N (apL l h.1 h.2.1 h.2.2) r
theorem okH_le {N : Nat} : ∀ {hs : List Hk3} {l : List ByteArray}, okH N l hs → l.length ≤ N
  | [], _, h => h
  | _ :: _, _, h => h.1
theorem okH_at {N : Nat} : ∀ {hs : List Hk3} {l : List ByteArray}, okH N l hs → ∀ k (hk : k < hs.length), (runH l (hs.take k)).length ≤ N ∧ apE (runH l (hs.take k)) hs[k].1 hs[k].2.1 hs[k].2.2 = 0 ∧
    apL (runH l (hs.take k)) hs[k].1 hs[k].2.1 hs[k].2.2 = runH l (hs.take (k + 1)) ∧ (runH l (hs.take (k + 1))).length ≤ N
  | h :: r, l, ok, 0, _ => by
    obtain ⟨h1, h2, h3⟩ := ok
    exact ⟨h1, h2, rfl, okH_le h3⟩
  | h :: r, l, ok, k + 1, hk => by
    obtain ⟨_, _, h3⟩ := ok
    have := okH_at h3 k (by simpa using hk)
    simpa only [List.take_succ_cons, runH, List.getElem_cons_succ] using this
theorem cut_split {xs : List ByteArray} {i p : Nat} (h : i ≤ p) : xs.drop i = (xs.take p).drop i ++ xs.drop p := by
  by_cases hp : p ≤ xs.length
  · conv => lhs; rw [← List.take_append_drop p xs]
    rw [List.drop_append_of_le_length (by rw [List.length_take]; omega)]
  · rw [List.take_of_length_le (by omega), List.drop_eq_nil_of_le (show xs.length ≤ p by omega), List.append_nil]
theorem take_split {ys : List ByteArray} {j q : Nat} (h : j ≤ q) : ys.take q = ys.take j ++ (ys.drop j).take (q - j) := by
  rw [← List.take_append_drop j (ys.take q), List.take_take, Nat.min_eq_left h, List.drop_take]
/-- One hunk of two lists. -/
theorem hunk_step {xs ys : List ByteArray} {i j p q : Nat} (hx : allOk xs = true) (hy : allOk ys = true) (h1 : i ≤ p) (h2 : j ≤ q) (h4 : q ≤ ys.length) :
    apE (ys.take j ++ xs.drop i) j ((xs.take p).drop i) ((ys.drop j).take (q - j)) = 0 ∧ apL (ys.take j ++ xs.drop i) j ((xs.take p).drop i) ((ys.drop j).take (q - j)) = ys.take q ++ xs.drop p := by
  have hM : hMay j ((xs.take p).drop i) ((ys.drop j).take (q - j)) = true := by
    have hl := (allOk_out hy).1
    refine hMay_true (by omega) (by omega) (allOk_sub hx (by simp only [List.length_drop, List.length_take]; omega) fun x h => List.mem_of_mem_take (List.mem_of_mem_drop h)) (allOk_sub hy (by simp only [List.length_drop, List.length_take]; omega) fun x h => List.mem_of_mem_drop (List.mem_of_mem_take h))
  have := hap_mid (P := ys.take j) (S := xs.drop p) hM (by rw [List.length_take]; omega)
  rw [cut_split h1, take_split h2, ← List.append_assoc]
  exact this
theorem take_snoc1 {xs : List ByteArray} {p : Nat} {s : ByteArray} (h : xs[p]? = some s) : xs.take (p + 1) = xs.take p ++ [s] := by
  obtain ⟨hp, e⟩ := List.getElem?_eq_some_iff.1 h
  rw [List.take_succ_eq_append_getElem hp, e]
theorem pair_step {xs ys : List ByteArray} {p q : Nat} (hp : p < xs.length) (h : xs[p]? = ys[q]?) : ys.take q ++ xs.drop p = ys.take (q + 1) ++ xs.drop (p + 1) := by
  have hs : xs[p]? = some xs[p] := List.getElem?_eq_getElem hp
  rw [take_snoc1 (h ▸ hs), List.drop_eq_getElem_cons hp, List.append_assoc]
  rfl
theorem chain {xs ys : List ByteArray} (hx : allOk xs = true) (hy : allOk ys = true) : ∀ (ps : List (Nat × Nat)) (i j : Nat), Ris xs.length ys.length ps i j → Mat xs ys ps →
    okH (xs.length + ys.length) (ys.take j ++ xs.drop i) (hFrom xs ((j : Int) - (i : Int)) (edFrom ys (ps ++ [(xs.length, ys.length)]) i j)) ∧ runH (ys.take j ++ xs.drop i) (hFrom xs ((j : Int) - (i : Int)) (edFrom ys (ps ++ [(xs.length, ys.length)]) i j)) = ys
  | [], i, j, h, _ => by
    simp only [List.nil_append, edFrom, List.append_nil]
    have hlen : (ys.take j ++ xs.drop i).length ≤ xs.length + ys.length := by simp only [List.length_append, List.length_take, List.length_drop]; omega
    unfold edStep
    by_cases hc : i < xs.length ∨ j < ys.length
    · rw [if_pos hc]
      simp only [hFrom]
      have e0 : (i : Int) + ((j : Int) - (i : Int)) = (j : Int) := by omega
      have e1 : ((i : Int) + ((xs.length : Int) - (i : Int))).toNat = xs.length := by omega
      rw [e0, e1, Int.toNat_natCast]
      obtain ⟨h1, h2⟩ := hunk_step hx hy h.1 h.2 (Nat.le_refl _)
      have h3 : ys.take ys.length ++ xs.drop xs.length = ys := by simp
      refine ⟨⟨hlen, h1, ?_⟩, ?_⟩
      · rw [h2, h3]; simp only [okH]; omega
      · simp only [runH]; rw [h2, h3]
    · rw [if_neg hc]
      have e1 : i = xs.length := by have := h.1; omega
      have e2 : j = ys.length := by have := h.2; omega
      simp only [hFrom, okH, runH]
      refine ⟨hlen, ?_⟩
      rw [e1, e2]; simp
  | x :: r, i, j, h, hm => by
    obtain ⟨p, q⟩ := x
    obtain ⟨h1, h2, h3, h4, h5⟩ := h
    simp only at h1 h2 h3 h4 h5
    have hxy : xs[p]? = ys[q]? := hm (p, q) (by simp)
    have hm' : Mat xs ys r := fun y hy => hm y (by simp [hy])
    have ih := chain hx hy r (p + 1) (q + 1) h5 hm'
    rw [← pair_step h3 hxy] at ih
    have hlen : (ys.take j ++ xs.drop i).length ≤ xs.length + ys.length := by simp only [List.length_append, List.length_take, List.length_drop]; omega
    simp only [List.cons_append, edFrom]
    unfold edStep
    by_cases hc : i < p ∨ j < q
    · rw [if_pos hc]
      simp only [List.cons_append, List.nil_append, hFrom]
      have e0 : (i : Int) + ((j : Int) - (i : Int)) = (j : Int) := by omega
      have e1 : ((i : Int) + ((p : Int) - (i : Int))).toNat = p := by omega
      have el : ((ys.drop j).take (q - j)).length = q - j := by rw [List.length_take, List.length_drop]; omega
      have e2 : (j : Int) - (i : Int) + (((q - j : Nat) : Int) - ((p : Int) - (i : Int))) = ((q + 1 : Nat) : Int) - ((p + 1 : Nat) : Int) := by omega
      rw [e0, e1, Int.toNat_natCast, el, e2]
      obtain ⟨g1, g2⟩ := hunk_step hx hy h1 h2 (Nat.le_of_lt h4)
      refine ⟨⟨hlen, g1, ?_⟩, ?_⟩
      · rw [g2]; exact ih.1
      · simp only [runH]; rw [g2]; exact ih.2
    · rw [if_neg hc]
      have e1 : p = i := by omega
      have e2 : q = j := by omega
      subst e1 e2
      have e3 : (q : Int) - (p : Int) = ((q + 1 : Nat) : Int) - ((p + 1 : Nat) : Int) := by omega
      rw [List.nil_append, e3]
      exact ih
theorem chain0 {xs ys : List ByteArray} (hx : allOk xs = true) (hy : allOk ys = true) : okH (xs.length + ys.length) xs (hunks xs ys) ∧ runH xs (hunks xs ys) = ys := by
  have h := chain hx hy _ 0 0 (ris_pairs xs ys) (mat_pairs xs ys)
  unfold hunks edits
  simpa using h
end Go.Proofs.Ytkggedmcdllnaaa
