/- seq.Back: how many lines two lists have in common behind what they have in front. -/
import Derived.Deep.RegionWith
import Derived.Test.YtaffkplllmnjoaaSeqT
namespace Go.Proofs.Ytaffkplllmnjoaa
open Go.RowKit

theorem sAt_drop (xs : List ByteArray) (k j : Nat) : sAt (xs.drop k) j = sAt xs (k + j) := by
  simp [sAt, List.getD_eq_getElem?_getD]
theorem sAt_take (xs : List ByteArray) {k j : Nat} (h : j < k) : sAt (xs.take k) j = sAt xs j := by
  simp [sAt, List.getD_eq_getElem?_getD, h]
theorem SlS.cut {B : Nat} {w : World} {A : Option Addr} {xs : List ByteArray} (h : SlS B w A xs) {k c : Nat} (hk : k ≤ xs.length) (hc : xs.length ≤ c) : SlS B w (if c = k then A else A.map (fun x => x.add k)) (xs.drop k) := by
  have h2 := (Sl.cut h hk hc).congr (f' := fun j => .string (sAt (xs.drop k) j)) (fun j _ => by rw [sAt_drop])
  unfold SlS
  rw [List.length_drop]
  exact h2
theorem SlS.take {B : Nat} {w : World} {A : Option Addr} {xs : List ByteArray} (h : SlS B w A xs) {k : Nat} (hk : k ≤ xs.length) : SlS B w A (xs.take k) := by
  have h2 := (Sl.take h hk).congr (f' := fun j => .string (sAt (xs.take k) j)) (fun j hj => by rw [sAt_take xs hj])
  unfold SlS
  rw [List.length_take, Nat.min_eq_left hk]
  exact h2

theorem SlS.drew {w : World} {A : Option Addr} {xs : List ByteArray} (h : SlS w.heap.size w A xs) : SlS w.drew.heap.size w.drew A xs := h

theorem turned_any (xs : List ByteArray) (A : Option Addr) (n c : Nat) (w : World) (hA : SlS w.heap.size w A xs) (hx : n = xs.length) (hn : xs.length ≤ 100000) :
    Calls Try.prog 22 #[.slice A n c] w fun e w' => ∃ D k, e = .returned (.slice D xs.reverse.length k) ∧ SlS w.heap.size w' D xs.reverse ∧ Below w.heap.size w w' := by
  subst hx
  go_enter Try.func22, Try.ntmps22
  go_wp2_with (go_at_call 25; refine (cloneM_any xs A c w hA hn).mono ?_; rintro e w1 ⟨v, rfl, hown, hb⟩)
  go_wp2_with (go_at_call 26; refine (reverseM_any xs v w.heap.size w1 hown hn).mono ?_; rintro e w2 ⟨rfl, hown2, hg⟩)
  have hb2 : Below w.heap.size w w2 := hb.grown hg hb.size (fun g hg => (hown.lt g hg).1)
  rw [show xs.length = xs.reverse.length from by simp] at hown2
  obtain ⟨D, k, rfl, _, _, hD⟩ := SlS.of_own (B := w.heap.size) hown2 (by simp; omega)
  go_ret
  exact ⟨_, _, rfl, hD, hb2⟩

theorem front_at (xs ys : List ByteArray) (A B : Option Addr) (n m c d r : Nat) (w : World) (hx : n = xs.length) (hy : m = ys.length) (hr : com xs ys = r) (hA : SlS w.heap.size w A xs) (hB : SlS w.heap.size w B ys) (hn : xs.length ≤ 100000) :
    Calls Try.prog 21 #[.slice A n c, .slice B m d] w fun e w' => e = .returned (.int .i64 (r : Nat)) ∧ Below w.heap.size w w' := by
  subst hx hy hr
  exact front_any xs ys A B c d w hA hB hn

/-- How many they have behind that from the other end. -/
def bak (xs ys : List ByteArray) : Nat := com (xs.drop (com xs ys)).reverse (ys.drop (com xs ys)).reverse

theorem Back_any (xs ys : List ByteArray) (A B : Option Addr) (c d : Nat) (w : World) (hc : xs.length ≤ c) (hd : ys.length ≤ d) (hA : SlS w.heap.size w A xs) (hB : SlS w.heap.size w B ys) (hn : xs.length ≤ 100000) (hm : ys.length ≤ 100000) :
    Calls Try.prog 17 #[.slice A xs.length c, .slice B ys.length d] w fun e w' => e = .returned (.int .i64 (bak xs ys : Nat)) ∧ Below w.heap.size w w' := by
  obtain ⟨f, hf⟩ : ∃ f, com xs ys = f := ⟨_, rfl⟩
  have hl := com_le xs ys
  obtain ⟨r, hr⟩ : ∃ r, bak xs ys = r := ⟨_, rfl⟩
  have hr' : com (xs.drop f).reverse (ys.drop f).reverse = r := by rw [← hr, ← hf]; rfl
  have hF := Front_any xs ys A B c d w hA hB hn
  rw [hf] at hl hF
  obtain ⟨hl1, hl2⟩ := hl
  have HF := Kp.mk hF
  have HR := Kp.mk hr
  have HR' := Kp.mk hr'
  clear hF hr hr' hf
  go_enter Try.func17, Try.ntmps17
  go_wp2_with fail
  refine HF.out.mono ?_
  rintro e w1 ⟨rfl, hb⟩
  have e1 : (xs.drop f).length = xs.length - f := by simp
  have e2 : (ys.drop f).length = ys.length - f := by simp
  have hA1 := hA.later hb
  have hB1 := hB.later hb
  have q1 : (xs.drop f).length ≤ 100000 := by simp; omega
  have q2 : (ys.drop f).length ≤ 100000 := by simp; omega
  have hS1 := hA1.cut hl1 hc
  have hS2 := hB1.cut hl2 hd
  obtain ⟨S1, g1⟩ : ∃ S, (if c = f then A else A.map (fun x => x.add f)) = S := ⟨_, rfl⟩
  obtain ⟨S2, g2⟩ : ∃ S, (if d = f then B else B.map (fun x => x.add f)) = S := ⟨_, rfl⟩
  rw [g1] at hS1
  rw [g2] at hS2
  have HQ1 := Kp.mk q1
  have HQ2 := Kp.mk q2
  have HE1 := Kp.mk e1
  have HE2 := Kp.mk e2
  have HL1 : Kp (xs.length - f = (xs.drop f).reverse.length) := ⟨by simp⟩
  have HL2 : Kp (ys.length - f = (ys.drop f).reverse.length) := ⟨by simp⟩
  have HL3 : Kp ((xs.drop f).reverse.length ≤ 100000) := ⟨by simp; omega⟩
  clear q1 q2 e1 e2
  go_wp2
  go_region_with (first
    | (go_at_call_of 22 (xs.length - f); refine (turned_any (xs.drop f) _ _ _ _ hS1.drew HE1.out.symm HQ1.out).mono ?_; rintro e w2 ⟨D, k, rfl, hD, hb2⟩; have hS3 := hS2.drew.later hb2)
    | (go_at_call_of 22 (ys.length - f); refine (turned_any (ys.drop f) _ _ _ _ hS3 HE2.out.symm HQ2.out).mono ?_; rintro e w3 ⟨E, l, rfl, hE, hb3⟩; have hD2 := hD.later hb3)
    | (go_at_call 21; refine (front_at _ _ D E _ _ k l r w3 HL1.out HL2.out HR'.out hD2 hE.wide HL3.out).mono ?_; rintro e w4 ⟨rfl, hb4⟩))
  go_wp2
  go_ret
  exact ⟨ret_int (by rw [HR.out]), (hb.trans ((((Below.refl _ w1).drew.trans hb2).trans (hb3.mono hb2.size)).mono hb.size)).trans (hb4.mono (by have := hb.size; have := hb2.size; have := hb3.size; simp only [World.size_drew] at *; omega))⟩
end Go.Proofs.Ytaffkplllmnjoaa
