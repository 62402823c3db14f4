/- seq.At, seq.Swap: whether lines stand at a place, and a list whose lines there are others. -/
import Derived.Test.YtkggedmcdllnaaaEqM
import Derived.Test.YtkggedmcdllnaaaGrow
namespace Go.Proofs.Ytkggedmcdllnaaa
open Go.RowKit

/-- Do lines stand at a place? -/
def stands (xs : List ByteArray) (p : Int) (ys : List ByteArray) : Bool := decide (0 ≤ p ∧ p.toNat + ys.length ≤ xs.length ∧ (xs.drop p.toNat).take ys.length = ys)
/-- A list whose lines from k on, m of them, are others. -/
def swp (xs : List ByteArray) (k m : Nat) (now : List ByteArray) : List ByteArray := xs.take k ++ now ++ xs.drop (k + m)
theorem stands_low {xs ys : List ByteArray} {p : Int} (h : ¬ 0 ≤ p) : stands xs p ys = false := decide_eq_false fun e => h e.1
theorem stands_high {xs ys : List ByteArray} {k : Nat} (h : ¬ k + ys.length ≤ xs.length) : stands xs k ys = false := decide_eq_false fun e => h (by have := e.2.1; simpa using this)
theorem stands_in {xs ys : List ByteArray} {k : Nat} (h : k + ys.length ≤ xs.length) : stands xs k ys = decide ((xs.drop k).take ys.length = ys) := by
  unfold stands
  by_cases e : (xs.drop k).take ys.length = ys
  · rw [decide_eq_true e, decide_eq_true ⟨by omega, by simpa using h, by simpa using e⟩]
  · rw [decide_eq_false e, decide_eq_false (fun h => e (by simpa using h.2.2))]
theorem stands_split {xs ys : List ByteArray} {p : Int} (h : stands xs p ys = true) : ∃ k : Nat, p = k ∧ k + ys.length ≤ xs.length ∧ xs = xs.take k ++ ys ++ xs.drop (k + ys.length) := by
  obtain ⟨h1, h2, h3⟩ := of_decide_eq_true h
  refine ⟨p.toNat, by omega, h2, ?_⟩
  have e1 : (xs.drop p.toNat).drop ys.length = xs.drop (p.toNat + ys.length) := by rw [List.drop_drop]
  have e2 := List.take_append_drop ys.length (xs.drop p.toNat)
  rw [h3, e1] at e2
  rw [List.append_assoc, e2, List.take_append_drop]

set_option maxHeartbeats 1000000 in
theorem at_q (xs ys : List ByteArray) (A B : Option Addr) (n m c d : Nat) (p : Int) (b : Bool) (w : World) (hx : n = xs.length) (hy : m = ys.length) (hb : stands xs p ys = b) (hc : xs.length ≤ c)
    (hA : SlS w.heap.size w A xs) (hB : SlS w.heap.size w B ys) (hn : xs.length ≤ 100000) (hm : ys.length ≤ 100000) (_ : -9223372036854775808 ≤ p) (_ : p ≤ 9223372036854775807) :
    Calls Try.prog 33 #[.slice A n c, .int .i64 p, .slice B m d] w fun e w' => e = .returned (.bool b) ∧ ∃ q, w' = w.drewN q := by
  subst hx hy hb
  by_cases hp : 0 ≤ p
  · obtain ⟨k, rfl⟩ := Int.eq_ofNat_of_zero_le hp
    by_cases hk : k ≤ xs.length
    · by_cases hl : k + ys.length ≤ xs.length
      · have i1 : (k : Int) ≤ xs.length := by omega
        have i2 : (ys.length : Int) ≤ (xs.length : Int) - (k : Int) := by omega
        have HC := Kp.mk (stands_in hl)
        have hS := (hA.take (k := k + ys.length) hl).cut (k := k) (c := c) (by simp; omega) (by simp; omega)
        obtain ⟨S1, g1⟩ : ∃ S, (if c = k then A else A.map (fun x => x.add k)) = S := ⟨_, rfl⟩
        rw [g1] at hS
        have eS : (xs.take (k + ys.length)).drop k = (xs.drop k).take ys.length := by rw [List.drop_take]; congr 1; omega
        rw [eS] at hS
        have HL : Kp (ys.length = ((xs.drop k).take ys.length).length) := ⟨by simp; omega⟩
        have HN : Kp (((xs.drop k).take ys.length).length ≤ 100000) := ⟨by simp; omega⟩
        clear eS
        go_enter Try.func33, Try.ntmps33
        go_wp2_with (go_at_call 42; refine (equalM_at_q _ ys S1 B _ _ _ d _ w HL.out rfl rfl hS hB HN.out).mono ?_; rintro e w1 ⟨rfl, hb⟩)
        go_ret
        exact ⟨ret_bool (by rw [HC.out]), hb⟩
      · have i1 : (k : Int) ≤ xs.length := by omega
        have i2 : ¬ (ys.length : Int) ≤ (xs.length : Int) - (k : Int) := by omega
        have HC := Kp.mk (stands_high hl)
        go_enter Try.func33, Try.ntmps33
        go_wp2
        go_ret
        exact ⟨ret_bool (by rw [HC.out]), 0, rfl⟩
    · have i1 : ¬ (k : Int) ≤ xs.length := by omega
      have HC := Kp.mk (stands_high (xs := xs) (ys := ys) (k := k) (by omega))
      go_enter Try.func33, Try.ntmps33
      go_wp2
      go_ret
      exact ⟨ret_bool (by rw [HC.out]), 0, rfl⟩
  · have HC := Kp.mk (stands_low (xs := xs) (ys := ys) hp)
    go_enter Try.func33, Try.ntmps33
    go_wp2
    go_ret
    exact ⟨ret_bool (by rw [HC.out]), 0, rfl⟩
theorem At_q (xs ys : List ByteArray) (A B : Option Addr) (n m c d : Nat) (p : Int) (b : Bool) (w : World) (hx : n = xs.length) (hy : m = ys.length) (hb : stands xs p ys = b) (hc : xs.length ≤ c)
    (hA : SlS w.heap.size w A xs) (hB : SlS w.heap.size w B ys) (hn : xs.length ≤ 100000) (hm : ys.length ≤ 100000) (h1 : -9223372036854775808 ≤ p) (h2 : p ≤ 9223372036854775807) :
    Calls Try.prog 20 #[.slice A n c, .int .i64 p, .slice B m d] w fun e w' => e = .returned (.bool b) ∧ ∃ q, w' = w.drewN q := by
  subst hx hy hb
  go_enter Try.func20, Try.ntmps20
  go_wp2_with (go_at_call 33; refine (at_q xs ys A B _ _ c d p _ w rfl rfl rfl hc hA hB hn hm h1 h2).mono ?_; rintro e w1 ⟨rfl, hb1⟩)
  go_ret
  exact ⟨rfl, hb1⟩
theorem At_any (xs ys : List ByteArray) (A B : Option Addr) (n m c d : Nat) (p : Int) (b : Bool) (w : World) (hx : n = xs.length) (hy : m = ys.length) (hb : stands xs p ys = b) (hc : xs.length ≤ c)
    (hA : SlS w.heap.size w A xs) (hB : SlS w.heap.size w B ys) (hn : xs.length ≤ 100000) (hm : ys.length ≤ 100000) (h1 : -9223372036854775808 ≤ p) (h2 : p ≤ 9223372036854775807) :
    Calls Try.prog 20 #[.slice A n c, .int .i64 p, .slice B m d] w fun e w' => e = .returned (.bool b) ∧ Below w.heap.size w w' :=
  (At_q xs ys A B n m c d p b w hx hy hb hc hA hB hn hm h1 h2).mono fun _ _ h => ⟨h.1, by obtain ⟨q, hq⟩ := h.2; rw [hq]; exact below_drewN (Below.refl _ _) q⟩

theorem Swap_no (xs ys : List ByteArray) (A B C : Option Addr) (n m o c d g : Nat) (p : Int) (w : World) (hx : n = xs.length) (hy : m = ys.length) (hs : stands xs p ys = false) (hc : xs.length ≤ c)
    (hA : SlS w.heap.size w A xs) (hB : SlS w.heap.size w B ys) (hn : xs.length ≤ 100000) (hm : ys.length ≤ 100000) (h1 : -9223372036854775808 ≤ p) (h2 : p ≤ 9223372036854775807) :
    Calls Try.prog 28 #[.slice A n c, .int .i64 p, .slice B m d, .slice C o g] w fun e w' => e = .returned (.tuple #[.slice none 0 0, .bool false]) ∧ Below w.heap.size w w' := by
  subst hx hy
  have HS := Kp.mk hs
  clear hs
  go_enter Try.func28, Try.ntmps28
  go_wp2_with (go_at_call 20; refine (At_any xs ys A B _ _ c d p false w rfl rfl HS.out hc hA hB hn hm h1 h2).mono ?_; rintro e w1 ⟨rfl, hb1⟩)
  go_ret2
  exact ⟨rfl, hb1⟩
theorem Swap_yes (xs ys zs : List ByteArray) (A B C : Option Addr) (n m o c d g k : Nat) (w : World) (hx : n = xs.length) (hy : m = ys.length) (hz : o = zs.length) (hs : stands xs k ys = true) (hc : xs.length ≤ c)
    (hA : SlS w.heap.size w A xs) (hB : SlS w.heap.size w B ys) (hC : SlS w.heap.size w C zs) (hn : xs.length ≤ 100000) (hm : ys.length ≤ 100000) (ho1 : zs.length ≤ 100000) :
    Calls Try.prog 28 #[.slice A n c, .int .i64 k, .slice B m d, .slice C o g] w fun e w' => ∃ D r, e = .returned (.tuple #[.slice D (swp xs k ys.length zs).length r, .bool true]) ∧ (swp xs k ys.length zs).length ≤ r ∧ r ≤ 9223372036854775807 ∧
      SlS 0 w' D (swp xs k ys.length zs) ∧ Below w.heap.size w w' := by
  subst hx hy hz
  obtain ⟨k', e, hk, -⟩ := stands_split hs
  obtain rfl : k = k' := by omega
  have HS := Kp.mk hs
  clear hs e
  go_enter Try.func28, Try.ntmps28
  go_wp2_with fail
  refine (At_any xs ys A B _ _ c d k true w rfl rfl HS.out hc hA hB hn hm (by omega) (by omega)).mono ?_
  rintro e w1 ⟨rfl, hb1⟩
  go_wp2
  have i1 : (k : Int) + (ys.length : Int) ≤ xs.length := by omega
  have i2 : k ≤ xs.length := by omega
  have i3 : k ≤ c := by omega
  have v1 : IntKind.i64.wrap ((k : Int) + (ys.length : Int)) = (k : Int) + (ys.length : Int) := IntWalk.i64_in _ (by omega)
  have v2 : ((k : Int) + (ys.length : Int)).toNat = k + ys.length := by omega
  have v3 : (0 : Int) ≤ (k : Int) + (ys.length : Int) := by omega
  have hA1 := (hA.later hb1).take i2
  have hC1 := hC.later hb1
  have hD1 := (hA.later hb1).cut (k := k + ys.length) (c := c) hk hc
  obtain ⟨S1, g1⟩ : ∃ S, (if c = k + ys.length then A else A.map (fun x => x.add (k + ys.length))) = S := ⟨_, rfl⟩
  rw [g1] at hD1
  obtain ⟨o, ho⟩ : ∃ o, Obj.cells #[Value.slice A k k, Value.slice C zs.length g, Value.slice S1 (xs.length - (k + ys.length)) (c - (k + ys.length))] 22 = o := ⟨_, rfl⟩
  have hcell : ∀ j, (w1.alloc o).drew.cell? ⟨w1.heap.size, j, none⟩ = #[Value.slice A k k, Value.slice C zs.length g, Value.slice S1 (xs.length - (k + ys.length)) (c - (k + ys.length))][j]? := by
    intro j
    subst ho
    exact cell_of_row _ _ j _ _ (0, 0) (heap_alloc_new w1 _)
  have hcat := concat_any w1.heap.size A C S1 k zs.length (xs.length - (k + ys.length)) k g (c - (k + ys.length)) 3 (xs.take k) zs (xs.drop (k + ys.length)) (w1.alloc o).drew (by simp) (hcell 0) (hcell 1) (hcell 2)
    (by simp; omega) rfl (by simp) (by simp; omega) ho1 (by simp; omega) ((hA1.alloc o).drew'.wide) ((hC1.alloc o).drew'.wide) ((hD1.alloc o).drew'.wide)
  have hb2 : Below w.heap.size w (w1.alloc o).drew := (hb1.alloc hb1.size o).drew
  have HB2 := Kp.mk hb2
  have HCAT := Kp.mk hcat
  have HO := Kp.mk ho
  clear hcell hcat ho hb2
  go_region_with (go_at_call 38; rw [HO.out]; refine HCAT.out.mono ?_; rintro e w2 ⟨v, rfl, hown, hb3⟩; have hb4 := HB2.out.trans (hb3.mono HB2.out.size); clear hb3)
  obtain ⟨D, r, rfl, q1, q2, hD⟩ := SlS.of_own (B := 0) hown (by simp; omega)
  go_wp2
  go_ret2
  exact ⟨_, _, rfl, q1, q2, hD, hb4⟩

/-- What seq.Swap tells of a list. -/
def swpR (xs : List ByteArray) (p : Int) (ys zs : List ByteArray) : List ByteArray := if stands xs p ys then swp xs p.toNat ys.length zs else []
theorem Swap_all (xs ys zs : List ByteArray) (A B C : Option Addr) (n m o c d g : Nat) (p : Int) (w : World) (b : Bool) (l : List ByteArray) (hb : stands xs p ys = b) (hl : swpR xs p ys zs = l) (hx : n = xs.length) (hy : m = ys.length) (hz : o = zs.length) (hc : xs.length ≤ c)
    (hA : SlS w.heap.size w A xs) (hB : SlS w.heap.size w B ys) (hC : SlS w.heap.size w C zs) (hn : xs.length ≤ 100000) (hm : ys.length ≤ 100000) (ho1 : zs.length ≤ 100000) (h1 : -9223372036854775808 ≤ p) (h2 : p ≤ 9223372036854775807) :
    Calls Try.prog 28 #[.slice A n c, .int .i64 p, .slice B m d, .slice C o g] w fun e w' => ∃ D r, e = .returned (.tuple #[.slice D l.length r, .bool b]) ∧ l.length ≤ r ∧ r ≤ 9223372036854775807 ∧ SlS 0 w' D l ∧ Below w.heap.size w w' := by
  cases b with
  | false =>
    obtain rfl : l = [] := by rw [← hl]; unfold swpR; rw [hb]; rfl
    refine (Swap_no xs ys A B C n m o c d g p w hx hy hb hc hA hB hn hm h1 h2).mono ?_
    rintro e w' ⟨rfl, hb'⟩
    exact ⟨none, 0, rfl, Nat.le_refl _, by omega, SlS.nil, hb'⟩
  | true =>
    obtain ⟨k, rfl, -⟩ := stands_split hb
    obtain rfl : l = swp xs k ys.length zs := by rw [← hl]; unfold swpR; rw [hb]; rfl
    exact Swap_yes xs ys zs A B C n m o c d g k w hx hy hz hb hc hA hB hC hn hm ho1
theorem swpR_length (xs : List ByteArray) (p : Int) (ys zs : List ByteArray) : (swpR xs p ys zs).length ≤ xs.length + zs.length := by
  unfold swpR
  split
  · unfold swp; simp; omega
  · simp
end Go.Proofs.Ytkggedmcdllnaaa
