/- What a call knows of memory, in one word: blocks of its own that are known whole, and facts that lie elsewhere. Laws of the walk over it. -/
import Derived.Laws.Rows
import Derived.Laws.Tables
import Derived.Laws.CopyRow
import Derived.Test.YtkggedmcdllnaaaBk
namespace Go.Proofs.Ytkggedmcdllnaaa
open Go.RowKit

/-- From an address on n cells hold f 0, f 1, .. -/
def SlX (A : Option Addr) (n : Nat) (f : Nat → Value) (w : World) : Prop :=
  n ≤ 9223372036854775807 ∧ (0 < n → ∃ ad, A = some ad ∧ ad.block < w.heap.size ∧ ∀ j, j < n → w.cell? (ad.add j) = some (f j))
/-- A list of lines. -/
def LnX (A : Option Addr) (xs : List ByteArray) (w : World) : Prop := SlX A xs.length (fun j => .string (sAt xs j)) w
theorem SlX.of_sl {T B : Nat} {A : Option Addr} {n : Nat} {f : Nat → Value} {w : World} (h : Sl T B w A n f) : SlX A n f w :=
  ⟨h.1, fun hn => by
    obtain ⟨ad, e, hb, _, hv⟩ := h.2 hn
    exact ⟨ad, e, hb, hv⟩⟩
theorem SlX.sl {T : Nat} {A : Option Addr} {n : Nat} {f : Nat → Value} {w : World} (h : SlX A n f w) : Sl T w.heap.size w A n f :=
  ⟨h.1, fun hn => by
    obtain ⟨ad, e, hb, hv⟩ := h.2 hn
    exact ⟨ad, e, hb, .inl hb, hv⟩⟩
theorem LnX.of {B : Nat} {A : Option Addr} {xs : List ByteArray} {w : World} (h : SlS B w A xs) : LnX A xs w := SlX.of_sl h
theorem LnX.ln {A : Option Addr} {xs : List ByteArray} {w : World} (h : LnX A xs w) : SlS w.heap.size w A xs := SlX.sl h
/-- A fact that rests on the blocks D alone. -/
def Dep (D : Nat → Prop) (P : World → Prop) : Prop := ∀ w w' : World, (∀ d, D d → w'.heap[d]? = w.heap[d]?) → w.heap.size ≤ w'.heap.size → P w → P w'
theorem dep_sl (A : Option Addr) (n : Nat) (f : Nat → Value) : Dep (fun d => 0 < n ∧ ∃ ad, A = some ad ∧ ad.block = d) (SlX A n f) := fun w w' hd hs h =>
  ⟨h.1, fun hn => by
    obtain ⟨ad, e, hb, hv⟩ := h.2 hn
    have hbl := hd ad.block ⟨hn, ad, e, rfl⟩
    exact ⟨ad, e, Nat.lt_of_lt_of_le hb hs, fun j hj => by
      rw [World.cell?_of_block (w := w) (by rw [block_add]; exact hbl)]; exact hv j hj⟩⟩
theorem Dep.and {D D' : Nat → Prop} {P Q : World → Prop} (h : Dep D P) (h' : Dep D' Q) : Dep (fun d => D d ∨ D' d) (fun w => P w ∧ Q w) := fun w w' hd hs hp =>
  ⟨h w w' (fun d hd' => hd d (.inl hd')) hs hp.1, h' w w' (fun d hd' => hd d (.inr hd')) hs hp.2⟩
theorem Dep.all {k : Nat} {D : Nat → Nat → Prop} {P : Nat → World → Prop} (h : ∀ i, i < k → Dep (D i) (P i)) : Dep (fun d => ∃ i, i < k ∧ D i d) (fun w => ∀ i, i < k → P i w) := fun w w' hd hs hp i hi =>
  h i hi w w' (fun d hd' => hd d ⟨i, hi, hd'⟩) hs (hp i hi)
theorem Dep.const (p : Prop) : Dep (fun _ => False) (fun _ => p) := fun _ _ _ _ h => h
theorem Dep.weak {D D' : Nat → Prop} {P : World → Prop} (h : Dep D P) (hd : ∀ d, D d → D' d) : Dep D' P := fun w w' h1 h2 h3 => h w w' (fun d hd' => h1 d (hd d hd')) h2 h3

/-- A fact that rests on blocks from lo on alone. -/
def Frs (lo : Nat) (P : World → Prop) (w : World) : Prop := ∃ D : Nat → Prop, Dep D P ∧ (∀ d, D d → lo ≤ d ∧ d < w.heap.size) ∧ P w
section
variable {lo lo' : Nat} {w w' : World} {P Q : World → Prop}
theorem Frs.now (h : Frs lo P w) : P w := by obtain ⟨_, _, _, h⟩ := h; exact h
theorem Frs.below (h : Frs lo P w) (hb : Below w.heap.size w w') : Frs lo P w' := by
  obtain ⟨D, h1, h2, h3⟩ := h
  exact ⟨D, h1, fun d hd => ⟨(h2 d hd).1, Nat.lt_of_lt_of_le (h2 d hd).2 hb.size⟩, h1 w w' (fun d hd => hb.block d (h2 d hd).2) hb.size h3⟩
theorem Frs.drew (h : Frs lo P w) : Frs lo P w.drew := by
  obtain ⟨D, h1, h2, h3⟩ := h
  exact ⟨D, h1, h2, h1 w w.drew (fun _ _ => rfl) (Nat.le_refl _) h3⟩
theorem Frs.mono (h : Frs lo P w) (hl : lo' ≤ lo) : Frs lo' P w := by
  obtain ⟨D, h1, h2, h3⟩ := h
  exact ⟨D, h1, fun d hd => ⟨Nat.le_trans hl (h2 d hd).1, (h2 d hd).2⟩, h3⟩
theorem Frs.and (h : Frs lo P w) (h' : Frs lo Q w) : Frs lo (fun w => P w ∧ Q w) w := by
  obtain ⟨D, h1, h2, h3⟩ := h
  obtain ⟨D', h1', h2', h3'⟩ := h'
  exact ⟨_, h1.and h1', fun d hd => hd.elim (h2 d) (h2' d), h3, h3'⟩
theorem Frs.imp (h : Frs lo P w) (h1 : ∀ D, Dep D P → Dep D Q) (h2 : P w → Q w) : Frs lo Q w := by
  obtain ⟨D, k1, k2, k3⟩ := h
  exact ⟨D, h1 D k1, k2, h2 k3⟩
/-- A row of the call's own that is read. -/
theorem Frs.of_own {base size k : Nat} {T : TypeId} {v : Value} {xs : List Value} (h : w.ownsRow base T size v k xs) (hl : xs.length ≤ 9223372036854775807) :
    ∃ A c, v = .slice A k c ∧ k ≤ c ∧ c ≤ 9223372036854775807 ∧ Frs base (SlX A xs.length (fun j => xs.getD j undef)) w := by
  rcases h.2 with ⟨rfl, rfl⟩ | ⟨g, cap, cur, rfl, hb, hh, hc, hm, hs, ht⟩
  · obtain rfl : xs = [] := List.eq_nil_of_length_eq_zero (by simpa using h.1)
    exact ⟨none, 0, rfl, Nat.le_refl _, by omega, ⟨_, dep_sl _ _ _, fun d hd => absurd hd.1 (by simp), by simp, fun hn => absurd hn (by simp)⟩⟩
  · refine ⟨_, cap, rfl, hc, hm, ⟨_, dep_sl _ _ _, fun d hd => ?_, hl, fun _ => ⟨_, rfl, (Array.getElem?_eq_some_iff.1 hh).1, fun j hj => ?_⟩⟩⟩
    · obtain ⟨_, ad, e, rfl⟩ := hd
      injection e with e
      subst e
      exact ⟨hb, (Array.getElem?_eq_some_iff.1 hh).1⟩
    · rw [h.cells (g := g) rfl j xs[j] (List.getElem?_eq_getElem hj)]
      simp [List.getD_eq_getElem?_getD, List.getElem?_eq_getElem hj]
end

/-- A fact of memory, and the block from which on it lies. -/
abbrev Mf := Nat × (World → Prop)
structure Sm (w0 w : World) (L : List Bl) (M : List Mf) : Prop where
  below : Below w0.heap.size w0 w
  blk : ∀ (i : Nat) (b : Bl), L[i]? = some b → w0.heap.size ≤ b.1 ∧ Blk w b.1 b.2.1 b.2.2
  dis : ∀ (i j : Nat) (b c : Bl), L[i]? = some b → L[j]? = some c → b.1 = c.1 → i = j
  mem : ∀ P ∈ M, ∃ D : Nat → Prop, Dep D P.2 ∧ (∀ d, D d → (P.1 ≤ d ∧ d < w.heap.size) ∧ ∀ (i : Nat) (b : Bl), L[i]? = some b → b.1 ≠ d) ∧ P.2 w
section
variable {w0 w w' : World} {L L' : List Bl} {M : List Mf} {P Q : World → Prop} {lo : Nat}
theorem Sm.start (w : World) : Sm w w [] [] := ⟨Below.refl _ _, fun i b h => by simp at h, fun i j b c h => by simp at h, fun m h => by simp at h⟩
theorem Sm.put (h : Sm w0 w L M) (hP : ∃ D : Nat → Prop, Dep D P ∧ (∀ d, D d → (lo ≤ d ∧ d < w.heap.size) ∧ ∀ (i : Nat) (b : Bl), L[i]? = some b → b.1 ≠ d) ∧ P w) : Sm w0 w L ((lo, P) :: M) :=
  ⟨h.below, h.blk, h.dis, fun Q hQ => by
    rcases List.mem_cons.1 hQ with rfl | hQ
    · exact hP
    · exact h.mem Q hQ⟩
/-- What came in. -/
theorem Sm.arg {T : TypeId} (h : Sm w0 w0 L M) {A : Option Addr} {n : Nat} {f : Nat → Value} (hA : Sl T w0.heap.size w0 A n f) : Sm w0 w0 L ((0, SlX A n f) :: M) :=
  h.put ⟨_, dep_sl A n f, fun d hd => by
    obtain ⟨hn, ad, rfl, rfl⟩ := hd
    obtain ⟨ad', e, hb, _, _⟩ := hA.2 hn
    injection e with e
    subst e
    exact ⟨⟨Nat.zero_le _, hb⟩, fun i b hi => by have := (h.blk i b hi).1; omega⟩, SlX.of_sl hA⟩
theorem Sm.argL (h : Sm w0 w0 L M) {A : Option Addr} {xs : List ByteArray} (hA : SlS w0.heap.size w0 A xs) : Sm w0 w0 L ((0, LnX A xs) :: M) := h.arg hA
theorem Sm.call (h : Sm w0 w L M) (hb : Below w.heap.size w w') : Sm w0 w' L M :=
  ⟨h.below.trans (hb.mono h.below.size), fun i b hi => by
    obtain ⟨h1, h3⟩ := h.blk i b hi
    exact ⟨h1, (hb.block b.1 h3.lt).trans h3⟩, h.dis, fun Q hQ => by
    obtain ⟨D, k1, k2, k3⟩ := h.mem Q hQ
    exact ⟨D, k1, fun d hd => ⟨⟨(k2 d hd).1.1, Nat.lt_of_lt_of_le (k2 d hd).1.2 hb.size⟩, (k2 d hd).2⟩, k1 w w' (fun d hd => hb.block d (k2 d hd).1.2) hb.size k3⟩⟩
theorem Sm.drew (h : Sm w0 w L M) : Sm w0 w.drew L M := ⟨h.below.drew, h.blk, h.dis, fun Q hQ => by
    obtain ⟨D, k1, k2, k3⟩ := h.mem Q hQ
    exact ⟨D, k1, k2, k1 w w.drew (fun _ _ => rfl) (Nat.le_refl _) k3⟩⟩
theorem Sm.drewN (h : Sm w0 w L M) (n : Nat) : Sm w0 (w.drewN n) L M := ⟨below_drewN h.below n, h.blk, h.dis, fun Q hQ => by
    obtain ⟨D, k1, k2, k3⟩ := h.mem Q hQ
    exact ⟨D, k1, k2, k1 w (w.drewN n) (fun _ _ => rfl) (Nat.le_refl _) k3⟩⟩
/-- What a call has made. -/
theorem Sm.made (h : Sm w0 w L M) (hb : Below w.heap.size w w') (hP : Frs w.heap.size P w') : Sm w0 w' L ((w0.heap.size, P) :: M) :=
  (h.call hb).put (by
    obtain ⟨D, k1, k2, k3⟩ := hP
    exact ⟨D, k1, fun d hd => ⟨⟨Nat.le_trans h.below.size (k2 d hd).1, (k2 d hd).2⟩, fun i b hi => by have := (h.blk i b hi).2.lt; have := (k2 d hd).1; omega⟩, k3⟩)
/-- One more of what a call has made. -/
theorem Sm.and {N : Nat} (h : Sm w0 w L M) (hP : Frs N P w) (hN : ∀ (i : Nat) (b : Bl), L[i]? = some b → b.1 < N) : Sm w0 w L ((N, P) :: M) :=
  h.put (by
    obtain ⟨D, k1, k2, k3⟩ := hP
    exact ⟨D, k1, fun d hd => ⟨k2 d hd, fun i b hi => by have := hN i b hi; have := (k2 d hd).1; omega⟩, k3⟩)
theorem Sm.new (h : Sm w0 w L M) (T : TypeId) (cs : Array Value) : Sm w0 (w.alloc (.cells cs T)) ((w.heap.size, T, cs) :: L) M :=
  ⟨h.below.alloc h.below.size _, fun i b hi => by
    cases i with
    | zero =>
      obtain rfl : (w.heap.size, T, cs) = b := by simpa using hi
      exact ⟨h.below.size, heap_alloc_new w _⟩
    | succ i =>
      obtain ⟨h1, h3⟩ := h.blk i b (by simpa using hi)
      exact ⟨h1, (Below.heap_alloc w _ _ h3.lt).trans h3⟩,
   fun i j b c hi hj e => by
    cases i with
    | zero =>
      cases j with
      | zero => rfl
      | succ j =>
        obtain rfl : (w.heap.size, T, cs) = b := by simpa using hi
        have := (h.blk j c (by simpa using hj)).2.lt
        simp only at e
        omega
    | succ i =>
      cases j with
      | zero =>
        obtain rfl : (w.heap.size, T, cs) = c := by simpa using hj
        have := (h.blk i b (by simpa using hi)).2.lt
        simp only at e
        omega
      | succ j => rw [h.dis i j b c (by simpa using hi) (by simpa using hj) e],
   fun Q hQ => by
    obtain ⟨D, k1, k2, k3⟩ := h.mem Q hQ
    refine ⟨D, k1, fun d hd => ⟨⟨(k2 d hd).1.1, by rw [World.size_alloc]; have := (k2 d hd).1.2; omega⟩, fun i b hi => ?_⟩, k1 w _ (fun d hd => Below.heap_alloc w _ d (k2 d hd).1.2) (by rw [World.size_alloc]; omega) k3⟩
    cases i with
    | zero =>
      obtain rfl : (w.heap.size, T, cs) = b := by simpa using hi
      have := (k2 d hd).1.2
      simp only
      omega
    | succ i => exact (k2 d hd).2 i b (by simpa using hi)⟩
/-- A block that is written, whatever its cells are then. -/
theorem Sm.wrote (h : Sm w0 w L M) {i : Nat} {g : Nat} {T : TypeId} {cs : Array Value} (hi : L[i]? = some (g, T, cs)) (cs' : Array Value) (hg : w.grownBy w' (some g)) (hb : Blk w' g T cs') : Sm w0 w' (L.set i (g, T, cs')) M := by
  obtain ⟨h1, h3⟩ := h.blk i _ hi
  have hlt : i < L.length := (List.getElem?_eq_some_iff.1 hi).1
  have hfst : ∀ (j : Nat) (b : Bl), (L.set i (g, T, cs'))[j]? = some b → ∃ b', L[j]? = some b' ∧ b'.1 = b.1 := fun j b hj => by
    by_cases e : i = j
    · subst e
      rw [List.getElem?_set_self hlt] at hj
      exact ⟨_, hi, by injection hj with hj; rw [← hj]⟩
    · rw [List.getElem?_set_ne e] at hj
      exact ⟨b, hj, rfl⟩
  refine ⟨h.below.grown hg h.below.size (fun k e => by cases e; exact h1), fun j b hj => ?_, fun j k b c hj hk e => ?_, fun Q hQ => ?_⟩
  · by_cases e : i = j
    · subst e
      rw [List.getElem?_set_self hlt] at hj
      injection hj with hj
      subst hj
      exact ⟨h1, hb⟩
    · rw [List.getElem?_set_ne e] at hj
      obtain ⟨k1, k3⟩ := h.blk j b hj
      refine ⟨k1, (hg.block b.1 k3.lt ?_).trans k3⟩
      intro e2
      injection e2 with e2
      exact e (h.dis i j _ b hi hj e2.symm)
  · obtain ⟨b', hb', eb⟩ := hfst j b hj
    obtain ⟨c', hc', ec⟩ := hfst k c hk
    exact h.dis j k b' c' hb' hc' (by rw [eb, ec, e])
  · obtain ⟨D, k1, k2, k3⟩ := h.mem Q hQ
    refine ⟨D, k1, fun d hd => ⟨⟨(k2 d hd).1.1, Nat.lt_of_lt_of_le (k2 d hd).1.2 hg.size⟩, fun j b hj => ?_⟩, k1 w w' (fun d hd => hg.block d (k2 d hd).1.2 (fun e => ?_)) hg.size k3⟩
    · obtain ⟨b', hb', eb⟩ := hfst j b hj
      rw [← eb]
      exact (k2 d hd).2 j b' hb'
    · injection e with e
      exact (k2 d hd).2 i _ hi e.symm
theorem Sm.set (h : Sm w0 w L M) {i : Nat} {g : Nat} {T : TypeId} {cs : Array Value} (hi : L[i]? = some (g, T, cs)) (k : Nat) (v : Value) : Sm w0 (w.setCell ⟨g, k, none⟩ v) (L.set i (g, T, cs.setIfInBounds k v)) M :=
  h.wrote hi _ (grown_set (World.grownBy.refl w (some g)) (p := ⟨g, k, none⟩) rfl v) ((h.blk i _ hi).2.set k v)
theorem Sm.at_ (h : Sm w0 w L M) {i : Nat} {g : Nat} {T : TypeId} {cs : Array Value} (hi : L[i]? = some (g, T, cs)) : Blk w g T cs := (h.blk i _ hi).2
theorem Sm.get (h : Sm w0 w L M) (hP : (lo, P) ∈ M) : P w := by obtain ⟨_, _, _, k⟩ := h.mem (lo, P) hP; exact k
theorem Sm.frs (h : Sm w0 w L M) (hP : (lo, P) ∈ M) : Frs lo P w := by obtain ⟨D, k1, k2, k3⟩ := h.mem (lo, P) hP; exact ⟨D, k1, fun d hd => (k2 d hd).1, k3⟩
theorem Sm.ln (h : Sm w0 w L M) {A : Option Addr} {xs : List ByteArray} (hP : (lo, LnX A xs) ∈ M) : SlS w.heap.size w A xs := (h.get hP).ln
theorem Sm.cell (S : Sm w0 w L M) {i g : Nat} {T : TypeId} {cs : Array Value} (hi : L[i]? = some (g, T, cs)) (k : Nat) : w.cell? ⟨g, k, none⟩ = cs[k]? := cell_of_row w g k cs T (0, 0) (S.at_ hi)
theorem Sm.c1 (S : Sm w0 w L M) {i g : Nat} {T : TypeId} {v : Value} (hi : L[i]? = some (g, T, #[v])) : w.cell? ⟨g, 0, none⟩ = some v := S.cell hi 0
theorem Sm.free (S : Sm w0 w L M) {i g : Nat} {T : TypeId} {cs : Array Value} (hi : L[i]? = some (g, T, cs)) (k : Nat) : w.frozen? ⟨g, k, none⟩ = false := frozen_of_row w g k cs T (S.at_ hi)
theorem Sm.ne (S : Sm w0 w L M) {i j g g' : Nat} {T T' : TypeId} {cs cs' : Array Value} (hi : L[i]? = some (g, T, cs)) (hj : L[j]? = some (g', T', cs')) (hij : i ≠ j) : ¬ g = g' := fun e => hij (S.dis i j _ _ hi hj e)
theorem Sm.lt (S : Sm w0 w L M) {i g : Nat} {T : TypeId} {cs : Array Value} (hi : L[i]? = some (g, T, cs)) : g < w.heap.size := (S.at_ hi).lt
/-- Two facts as one. -/
theorem Sm.join (h : Sm w0 w L ((lo, P) :: (lo, Q) :: M)) {R : World → Prop} (hR : ∀ w, P w ∧ Q w ↔ R w) : Sm w0 w L ((lo, R) :: M) :=
  ⟨h.below, h.blk, h.dis, fun m hm => by
    rcases List.mem_cons.1 hm with rfl | hm
    · obtain ⟨D, k1, k2, k3⟩ := h.mem (lo, P) (.head _)
      obtain ⟨D', k1', k2', k3'⟩ := h.mem (lo, Q) (.tail _ (.head _))
      refine ⟨fun d => D d ∨ D' d, fun w w' hd hs hr => (hR w').1 ((k1.and k1') w w' hd hs ((hR w).2 hr)), fun d hd => hd.elim (k2 d) (k2' d), (hR w).1 ⟨k3, k3'⟩⟩
    · exact h.mem m (.tail _ (.tail _ hm))⟩
/-- Facts left out, or in another order. -/
theorem Sm.facts (h : Sm w0 w L M) {M' : List Mf} (hM : ∀ m ∈ M', m ∈ M) : Sm w0 w L M' := ⟨h.below, h.blk, h.dis, fun m hm => h.mem m (hM m hm)⟩
/-- The last block, a row, is written or left: what lies elsewhere stays. -/
theorem Sm.turn (h : Sm w0 w (L ++ L') M) {row : Option Nat} (hg : w.grownBy w' row) (hr : ∀ g, row = some g → ∃ T cur, L' = [(g, T, cur)]) : Sm w0 w' L M := by
  have hne : ∀ g, row = some g → w0.heap.size ≤ g ∧ (∀ (i : Nat) (b : Bl), L[i]? = some b → b.1 ≠ g) ∧ ∃ (i : Nat) (b : Bl), (L ++ L')[i]? = some b ∧ b.1 = g := fun g e => by
    obtain ⟨T, cur, rfl⟩ := hr g e
    have hi : (L ++ [(g, T, cur)])[L.length]? = some (g, T, cur) := by simp
    refine ⟨(h.blk _ _ hi).1, fun i b hb e2 => ?_, _, _, hi, rfl⟩
    have hlt := (List.getElem?_eq_some_iff.1 hb).1
    have := h.dis i L.length b (g, T, cur) (by rw [List.getElem?_append_left hlt]; exact hb) hi e2
    omega
  have hl : ∀ (i : Nat) (b : Bl), L[i]? = some b → (L ++ L')[i]? = some b := fun i b hb => by
    rw [List.getElem?_append_left (List.getElem?_eq_some_iff.1 hb).1]; exact hb
  refine ⟨h.below.grown hg h.below.size (fun g e => (hne g e).1), fun i b hi => ?_, fun i j b c hi hj e => h.dis i j b c (hl i b hi) (hl j c hj) e, fun m hm => ?_⟩
  · obtain ⟨h1, h3⟩ := h.blk i b (hl i b hi)
    exact ⟨h1, (hg.block b.1 h3.lt (fun e => (hne b.1 e.symm).2.1 i b hi rfl)).trans h3⟩
  · obtain ⟨D, k1, k2, k3⟩ := h.mem m hm
    refine ⟨D, k1, fun d hd => ⟨⟨(k2 d hd).1.1, Nat.lt_of_lt_of_le (k2 d hd).1.2 hg.size⟩, fun i b hi => (k2 d hd).2 i b (hl i b hi)⟩, k1 w w' (fun d hd => hg.block d (k2 d hd).1.2 (fun e => ?_)) hg.size k3⟩
    obtain ⟨_, _, i, b, hb, rfl⟩ := hne d e.symm
    exact (k2 _ hd).2 i b hb rfl
/-- A row appended to: the row is the last of the blocks. -/
theorem Sm.row {E size n' : Nat} {v v' : Value} {xs' : List Value} (h : Sm w0 w (L ++ L') M) (hL : ∀ g, v.ownBlock = some g → ∃ cur, L' = [(g, E, cur)]) (hg : w.grownBy w' v.ownBlock)
    (own : w'.ownsRow w0.heap.size E size v' n' xs') (hv : v'.ownBlock = v.ownBlock ∨ v'.ownBlock = some w.heap.size) :
    ∃ L'', Sm w0 w' (L ++ L'') M ∧ ∀ g, v'.ownBlock = some g → ∃ cur, L'' = [(g, E, cur)] := by
  have h0 := h.turn hg (fun g e => by obtain ⟨cur, e⟩ := hL g e; exact ⟨E, cur, e⟩)
  rcases own.2 with ⟨rfl, rfl⟩ | ⟨g, cap, cur, rfl, hb, hh, _⟩
  · exact ⟨[], by simpa using h0, fun g e => by simp [Value.ownBlock] at e⟩
  · have ev : (Value.slice (some ⟨g, 0, none⟩) n' cap).ownBlock = some g := rfl
    refine ⟨[(g, E, cur)], ?_, fun g' e => ⟨cur, by rw [ev] at e; injection e with e; rw [e]⟩⟩
    rw [ev] at hv
    have hapart : (∀ (i : Nat) (b : Bl), L[i]? = some b → b.1 ≠ g) ∧ (∀ m ∈ M, ∃ D : Nat → Prop, Dep D m.2 ∧ (∀ d, D d → ((m.1 ≤ d ∧ d < w'.heap.size) ∧ ∀ (i : Nat) (b : Bl), L[i]? = some b → b.1 ≠ d) ∧ g ≠ d) ∧ m.2 w') := by
      rcases hv with e | e
      · obtain ⟨cur', rfl⟩ := hL g e.symm
        have hi : (L ++ [(g, E, cur')])[L.length]? = some (g, E, cur') := by simp
        refine ⟨fun i b hb2 e2 => ?_, fun m hm => ?_⟩
        · have hlt := (List.getElem?_eq_some_iff.1 hb2).1
          have := h.dis i L.length b (g, E, cur') (by rw [List.getElem?_append_left hlt]; exact hb2) hi e2
          omega
        · obtain ⟨D, k1, k2, k3⟩ := h.mem m hm
          refine ⟨D, k1, fun d hd => ⟨⟨⟨(k2 d hd).1.1, Nat.lt_of_lt_of_le (k2 d hd).1.2 hg.size⟩, fun i b hb2 => (k2 d hd).2 i b (by rw [List.getElem?_append_left (List.getElem?_eq_some_iff.1 hb2).1]; exact hb2)⟩, (k2 d hd).2 _ _ hi⟩,
            k1 w w' (fun d hd => hg.block d (k2 d hd).1.2 (fun e3 => (k2 d hd).2 _ _ hi (by rw [← e] at e3; injection e3 with e3; exact e3.symm))) hg.size k3⟩
      · injection e with e
        subst e
        refine ⟨fun i b hb2 e2 => ?_, fun m hm => ?_⟩
        · have := (h.blk i b (by rw [List.getElem?_append_left (List.getElem?_eq_some_iff.1 hb2).1]; exact hb2)).2.lt
          omega
        · obtain ⟨D, k1, k2, k3⟩ := h.mem m hm
          refine ⟨D, k1, fun d hd => ⟨⟨⟨(k2 d hd).1.1, Nat.lt_of_lt_of_le (k2 d hd).1.2 hg.size⟩, fun i b hb2 => (k2 d hd).2 i b (by rw [List.getElem?_append_left (List.getElem?_eq_some_iff.1 hb2).1]; exact hb2)⟩, by have := (k2 d hd).1.2; omega⟩,
            k1 w w' (fun d hd => hg.block d (k2 d hd).1.2 (fun e3 => ?_)) hg.size k3⟩
          obtain ⟨cur', e4⟩ := hL d e3.symm
          have hi : (L ++ L')[L.length]? = some (d, E, cur') := by rw [e4]; simp
          exact (k2 d hd).2 _ _ hi rfl
    have hget : ∀ (i : Nat) (b : Bl), (L ++ [(g, E, cur)])[i]? = some b → L[i]? = some b ∨ (i = L.length ∧ b = (g, E, cur)) := fun i b hi => by
      by_cases hlt : i < L.length
      · rw [List.getElem?_append_left hlt] at hi; exact .inl hi
      · have hlt2 := (List.getElem?_eq_some_iff.1 hi).1
        simp at hlt2
        have : i = L.length := by omega
        subst this
        simp at hi
        exact .inr ⟨rfl, hi.symm⟩
    refine ⟨h0.below, fun i b hi => ?_, fun i j b c hi hj e => ?_, fun m hm => ?_⟩
    · rcases hget i b hi with hi | ⟨_, rfl⟩
      · exact h0.blk i b hi
      · exact ⟨hb, hh⟩
    · rcases hget i b hi with hi | ⟨rfl, rfl⟩ <;> rcases hget j c hj with hj | ⟨rfl, rfl⟩
      · exact h0.dis i j b c hi hj e
      · exact absurd e (hapart.1 i b hi)
      · exact absurd e.symm (hapart.1 j c hj)
      · rfl
    · obtain ⟨D, k1, k2, k3⟩ := hapart.2 m hm
      refine ⟨D, k1, fun d hd => ⟨(k2 d hd).1.1, fun i b hi => ?_⟩, k3⟩
      rcases hget i b hi with hi | ⟨_, rfl⟩
      · exact (k2 d hd).1.2 i b hi
      · exact (k2 d hd).2
/-- Of the blocks, only the first k. -/
theorem Sm.drop (h : Sm w0 w L M) (k : Nat) : Sm w0 w (L.drop k) M :=
  ⟨h.below, fun i b hi => h.blk (k + i) b (by rw [← List.getElem?_drop]; exact hi), fun i j b c hi hj e => by
    have := h.dis (k + i) (k + j) b c (by rw [← List.getElem?_drop]; exact hi) (by rw [← List.getElem?_drop]; exact hj) e
    omega, fun Q hQ => by
    obtain ⟨D, k1, k2, k3⟩ := h.mem Q hQ
    exact ⟨D, k1, fun d hd => ⟨(k2 d hd).1, fun i b hi => (k2 d hd).2 (k + i) b (by rw [← List.getElem?_drop]; exact hi)⟩, k3⟩⟩
end
/-- The same, and a row of the call's own that is appended to. -/
def Rw (w0 w : World) (L : List Bl) (M : List Mf) (E size : Nat) (v : Value) (n : Nat) (xs : List Value) : Prop :=
  ∃ L', Sm w0 w (L ++ L') M ∧ w.ownsRow w0.heap.size E size v n xs ∧ ∀ g, v.ownBlock = some g → ∃ cur, L' = [(g, E, cur)]
section
variable {w0 w w' : World} {L : List Bl} {M M' : List Mf} {P : World → Prop} {E size n : Nat} {v : Value} {xs : List Value} {b : Bl}
theorem Rw.sm (h : Rw w0 w L M E size v n xs) : Sm w0 w L M := by
  obtain ⟨L', S, own, hL⟩ := h
  exact S.turn (World.grownBy.refl w v.ownBlock) (fun g e => by obtain ⟨cur, e⟩ := hL g e; exact ⟨E, cur, e⟩)
theorem Rw.own (h : Rw w0 w L M E size v n xs) : w.ownsRow w0.heap.size E size v n xs := by obtain ⟨_, _, h, _⟩ := h; exact h
theorem Rw.start (S : Sm w0 w L M) (E size : Nat) : Rw w0 w L M E size (.slice none 0 0) 0 [] := ⟨[], by simpa using S, World.ownsRow_nil _ _ _ _, fun g e => by simp [Value.ownBlock] at e⟩
theorem Rw.with (h : Rw w0 w L M E size v n xs) (hb : Below w.heap.size w w') (hS : ∀ L', Sm w0 w (L ++ L') M → Sm w0 w' (L ++ L') M') : Rw w0 w' L M' E size v n xs := by
  obtain ⟨L', S, own, hL⟩ := h
  exact ⟨L', hS L' S, own.kept (grown_below hb none) (by cases v.ownBlock <;> simp), hL⟩
theorem Rw.call (h : Rw w0 w L M E size v n xs) (hb : Below w.heap.size w w') : Rw w0 w' L M E size v n xs := h.with hb fun _ S => S.call hb
theorem Rw.made (h : Rw w0 w L M E size v n xs) (hb : Below w.heap.size w w') (hP : Frs w.heap.size P w') : Rw w0 w' L ((w0.heap.size, P) :: M) E size v n xs := h.with hb fun _ S => S.made hb hP
theorem Rw.drew (h : Rw w0 w L M E size v n xs) : Rw w0 w.drew L M E size v n xs := by
  obtain ⟨L', S, own, hL⟩ := h
  exact ⟨L', S.drew, own, hL⟩
theorem Rw.new (h : Rw w0 w L M E size v n xs) (T : TypeId) (cs : Array Value) : Rw w0 (w.alloc (.cells cs T)) ((w.heap.size, T, cs) :: L) M E size v n xs := by
  obtain ⟨L', S, own, hL⟩ := h
  exact ⟨L', S.new T cs, own.alloc _, hL⟩
theorem Rw.facts (h : Rw w0 w L M E size v n xs) {M' : List Mf} (hS : ∀ L', Sm w0 w (L ++ L') M → Sm w0 w (L ++ L') M') : Rw w0 w L M' E size v n xs := by
  obtain ⟨L', S, own, hL⟩ := h
  exact ⟨L', hS L' S, own, hL⟩
theorem Rw.drop (h : Rw w0 w (b :: L) M E size v n xs) : Rw w0 w L M E size v n xs := by
  obtain ⟨L', S, own, hL⟩ := h
  exact ⟨L', S.drop 1, own, hL⟩
theorem Rw.set (h : Rw w0 w L M E size v n xs) {i g : Nat} {T : TypeId} {cs : Array Value} (hi : L[i]? = some (g, T, cs)) (k : Nat) (u : Value) : Rw w0 (w.setCell ⟨g, k, none⟩ u) (L.set i (g, T, cs.setIfInBounds k u)) M E size v n xs := by
  obtain ⟨L', S, own, hL⟩ := h
  have hlt : i < L.length := (List.getElem?_eq_some_iff.1 hi).1
  have hi' : (L ++ L')[i]? = some (g, T, cs) := by rw [List.getElem?_append_left hlt]; exact hi
  refine ⟨L', ?_, own.kept (row := some g) (grown_set (World.grownBy.refl w (some g)) (p := ⟨g, k, none⟩) rfl u) (.inr fun e => ?_), hL⟩
  · have := S.set hi' k u
    rwa [List.set_append_left _ _ hlt] at this
  · obtain ⟨cur, rfl⟩ := hL g e
    have := S.dis i L.length _ (g, E, cur) hi' (by simp) rfl
    omega
end
section
variable {P : Program} {w0 w : World} {L : List Bl} {M : List Mf} {ops : Array Oper} {rest : List Oper} {o : Oper} {a : Act} {Q : Exit → Act → World → Prop} {K : Act → World → Prop}
/-- A parameter's box, a composite literal's: a new block. -/
theorem wp_sm_box (T : TypeId) (x : Operand) (ho : o.op = .box T x) (cs : Array Value) (hx : (a.eval x).cells = cs) (S : Sm w0 w L M)
    (h : ∀ g w', Sm w0 w' ((g, T, cs) :: L) M → K (a.put o.dst (.pointer (some ⟨g, 0, none⟩))) w') : o.wp P a w K Q := by
  unfold Oper.wp execOp
  simp only [ho, Sem.run_bind, run_box, Sem.run_pure, Result.andThen_ok, hx]
  exact h _ _ (S.new T cs)
theorem wp_sm_alloc (T : TypeId) (ho : o.op = .alloc T) (z : Value) (hz : (P.info? T).map (·.zero) = some (some z)) (cs : Array Value) (hcs : z.cells = cs) (S : Sm w0 w L M)
    (h : ∀ g w', Sm w0 w' ((g, T, cs) :: L) M → K (a.put o.dst (.pointer (some ⟨g, 0, none⟩))) w') : o.wp P a w K Q := by
  have hz2 : (zeroValue T).run P w = .ok z w := by
    cases hq : P.info? T with
    | none => simp [hq] at hz
    | some i =>
      simp only [hq, Option.map_some, Option.some.injEq] at hz
      simp [zeroValue, typeInfo, hq, hz]
  unfold Oper.wp execOp
  simp only [ho, Sem.run_bind, Instr.alloc, hz2, newVar, newRow, run_newObj_alloc, Sem.run_pure, Result.andThen_ok]
  exact h _ _ (by rw [← hcs]; exact S.new T z.cells)
theorem wp_sm_load (T : TypeId) (x : Operand) (ho : o.op = .load T x) (g : Nat) (hx : a.eval x = .pointer (some ⟨g, 0, none⟩)) (S : Sm w0 w L M) (i : Nat) (T' : TypeId) (cs : Array Value) (hi : L[i]? = some (g, T', cs))
    (d : TypeDesc) (hu : P.underlying T = some d) (hd : (match d with | .struct _ | .array _ _ => true | _ => false) = true) (hs : (P.info? T).map (·.size) = some cs.size)
    (h : K (a.put o.dst (.agg cs)) w) : o.wp P a w K Q := wp_load_row T x ho g hx T' cs (0, 0) d (S.at_ hi) hu hd hs h
/-- One cell of a block. -/
theorem wp_sm_cell (T : TypeId) (x : Operand) (ho : o.op = .load T x) (g k : Nat) (hx : a.eval x = .pointer (some ⟨g, k, none⟩)) (S : Sm w0 w L M) (i : Nat) (T' : TypeId) (cs : Array Value) (hi : L[i]? = some (g, T', cs))
    (d : TypeDesc) (hu : P.underlying T = some d) (hd : (match d with | .struct _ | .array _ _ => true | _ => false) = false) (v : Value) (hv : cs[k]? = some v)
    (h : K (a.put o.dst v) w) : o.wp P a w K Q := by
  have hc : w.cell? ⟨g, k, none⟩ = some v := by rw [cell_of_row w g k cs T' (0, 0) (S.at_ hi)]; exact hv
  have hagg : (isAgg T).run P w = .ok false w := by
    unfold isAgg
    rw [Sem.run_bind, run_underlying hu w]
    cases d <;> simp_all
  have hl : (loadVar T ⟨g, k, none⟩).run P w = .ok v w := by
    simp [loadVar, Sem.run_bind, hagg, hc]
  unfold Oper.wp execOp
  simp only [ho, hx, Instr.loadAt, Instr.sureAddr, Sem.run_bind, Sem.run_pure, Result.andThen_ok, hl]
  exact h
theorem wp_sm_store (T : TypeId) (x y : Operand) (ho : o.op = .store T x y) (g : Nat) (hx : a.eval x = .pointer (some ⟨g, 0, none⟩)) (S : Sm w0 w L M) (i : Nat) (T' : TypeId) (cs cs' : Array Value) (hi : L[i]? = some (g, T', cs))
    (hy : (a.eval y).cells = cs') (hs : (P.info? T).map (·.size) = some cs'.size) (hl : cs'.size = cs.size) (h1 : cs'.all (·.oneCell') = true)
    (h : ∀ w', Sm w0 w' (L.set i (g, T', cs')) M → K (a.put o.dst undef) w') : o.wp P a w K Q := by
  have hg := S.at_ hi
  have hst := run_storeCells_from (P := P) g T' cs'.toList 0 cs w hg (by simp [hl]) (fun v hv => by
    rw [Array.all_eq_true] at h1
    obtain ⟨j, hj, e⟩ := List.mem_iff_getElem.1 hv
    have := h1 j (by simpa using hj)
    rw [← e]
    simpa using this)
  simp only [List.take_zero, List.nil_append, Array.toArray_toList] at hst
  have hv : (storeVar T ⟨g, 0, none⟩ (a.eval y)).run P w = .ok () (w.setRow g cs') := by
    cases hq : P.info? T with
    | none => simp [hq] at hs
    | some i =>
      have hs' : i.size = cs'.size := by simpa [hq] using hs
      simp [storeVar, sizeOf, typeInfo, hq, hy, hs', hst]
  unfold Oper.wp execOp
  simp only [ho, hx, Instr.storeAt, Instr.sureAddr, Sem.run_bind, Sem.run_pure, Result.andThen_ok, hv]
  refine h _ (S.wrote hi cs' ⟨rfl, rfl, rfl, by simp [World.setRow], fun k _ hne => setRow_other w g k _ (fun e => hne (by rw [e]))⟩ ?_)
  exact setRow_heap w g _ _ T' _ hg
theorem wp_sm_storec (T : TypeId) (x y : Operand) (ho : o.op = .store T x y) (g k : Nat) (hx : a.eval x = .pointer (some ⟨g, k, none⟩)) (S : Sm w0 w L M) (i : Nat) (T' : TypeId) (cs : Array Value) (hi : L[i]? = some (g, T', cs))
    (v : Value) (hy : a.eval y = v) (hs : (P.info? T).map (·.size) = some 1) (hl : k < cs.size) (h1 : v.oneCell' = true)
    (h : ∀ w', Sm w0 w' (L.set i (g, T', cs.setIfInBounds k v)) M → K (a.put o.dst undef) w') : o.wp P a w K Q := by
  have hg := S.at_ hi
  have hc : w.cell? ⟨g, k, none⟩ = some cs[k] := by rw [cell_of_row w g k cs T' (0, 0) hg]; exact Array.getElem?_eq_getElem hl
  have hf : w.frozen? ⟨g, k, none⟩ = false := frozen_of_row w g k cs T' hg
  have hcs : v.cells = #[v] := by cases v <;> simp_all [Value.cells, Value.oneCell']
  have hv : (storeVar T ⟨g, k, none⟩ v).run P w = .ok () (w.setCell ⟨g, k, none⟩ v) := by
    cases hq : P.info? T with
    | none => simp [hq] at hs
    | some i =>
      have hs' : i.size = 1 := by simpa [hq] using hs
      simp [storeVar, sizeOf, typeInfo, hq, hs', hcs, storeCells, add_zero, run_store P w _ v _ h1, hc, hf]
  unfold Oper.wp execOp
  simp only [ho, hx, hy, Instr.storeAt, Instr.sureAddr, Sem.run_bind, Sem.run_pure, Result.andThen_ok, hv]
  exact h _ (S.set hi k v)
theorem wpList_sm_box (hgd : o.guard = none) (T : TypeId) (x : Operand) (ho : o.op = .box T x) (cs : Array Value) (hx : (a.eval x).cells = cs) (S : Sm w0 w L M)
    (h : ∀ g w', Sm w0 w' ((g, T, cs) :: L) M → wpList P ops Q rest (a.put o.dst (.pointer (some ⟨g, 0, none⟩))) w') : wpList P ops Q (o :: rest) a w :=
  wpList_plain hgd fun _ hK => wp_sm_box T x ho cs hx S fun g w' S' => hK _ _ (h g w' S')
theorem wpList_sm_alloc (hgd : o.guard = none) (T : TypeId) (ho : o.op = .alloc T) (z : Value) (hz : (P.info? T).map (·.zero) = some (some z)) (cs : Array Value) (hcs : z.cells = cs) (S : Sm w0 w L M)
    (h : ∀ g w', Sm w0 w' ((g, T, cs) :: L) M → wpList P ops Q rest (a.put o.dst (.pointer (some ⟨g, 0, none⟩))) w') : wpList P ops Q (o :: rest) a w :=
  wpList_plain hgd fun _ hK => wp_sm_alloc T ho z hz cs hcs S fun g w' S' => hK _ _ (h g w' S')
theorem wpList_sm_load (hgd : o.guard = none) (T : TypeId) (x : Operand) (ho : o.op = .load T x) (g : Nat) (hx : a.eval x = .pointer (some ⟨g, 0, none⟩)) (S : Sm w0 w L M) (i : Nat) (T' : TypeId) (cs : Array Value) (hi : L[i]? = some (g, T', cs))
    (d : TypeDesc) (hu : P.underlying T = some d) (hd : (match d with | .struct _ | .array _ _ => true | _ => false) = true) (hs : (P.info? T).map (·.size) = some cs.size)
    (h : wpList P ops Q rest (a.put o.dst (.agg cs)) w) : wpList P ops Q (o :: rest) a w :=
  wpList_plain hgd fun _ hK => wp_sm_load T x ho g hx S i T' cs hi d hu hd hs (hK _ _ h)
theorem wpList_sm_cell (hgd : o.guard = none) (T : TypeId) (x : Operand) (ho : o.op = .load T x) (g k : Nat) (hx : a.eval x = .pointer (some ⟨g, k, none⟩)) (S : Sm w0 w L M) (i : Nat) (T' : TypeId) (cs : Array Value) (hi : L[i]? = some (g, T', cs))
    (d : TypeDesc) (hu : P.underlying T = some d) (hd : (match d with | .struct _ | .array _ _ => true | _ => false) = false) (v : Value) (hv : cs[k]? = some v)
    (h : wpList P ops Q rest (a.put o.dst v) w) : wpList P ops Q (o :: rest) a w :=
  wpList_plain hgd fun _ hK => wp_sm_cell T x ho g k hx S i T' cs hi d hu hd v hv (hK _ _ h)
theorem wpList_sm_store (hgd : o.guard = none) (T : TypeId) (x y : Operand) (ho : o.op = .store T x y) (g : Nat) (hx : a.eval x = .pointer (some ⟨g, 0, none⟩)) (S : Sm w0 w L M) (i : Nat) (T' : TypeId) (cs cs' : Array Value) (hi : L[i]? = some (g, T', cs))
    (hy : (a.eval y).cells = cs') (hs : (P.info? T).map (·.size) = some cs'.size) (hl : cs'.size = cs.size) (h1 : cs'.all (·.oneCell') = true)
    (h : ∀ w', Sm w0 w' (L.set i (g, T', cs')) M → wpList P ops Q rest (a.put o.dst undef) w') : wpList P ops Q (o :: rest) a w :=
  wpList_plain hgd fun _ hK => wp_sm_store T x y ho g hx S i T' cs cs' hi hy hs hl h1 fun w' S' => hK _ _ (h w' S')
theorem wpList_sm_storec (hgd : o.guard = none) (T : TypeId) (x y : Operand) (ho : o.op = .store T x y) (g k : Nat) (hx : a.eval x = .pointer (some ⟨g, k, none⟩)) (S : Sm w0 w L M) (i : Nat) (T' : TypeId) (cs : Array Value) (hi : L[i]? = some (g, T', cs))
    (v : Value) (hy : a.eval y = v) (hs : (P.info? T).map (·.size) = some 1) (hl : k < cs.size) (h1 : v.oneCell' = true)
    (h : ∀ w', Sm w0 w' (L.set i (g, T', cs.setIfInBounds k v)) M → wpList P ops Q rest (a.put o.dst undef) w') : wpList P ops Q (o :: rest) a w :=
  wpList_plain hgd fun _ hK => wp_sm_storec T x y ho g k hx S i T' cs hi v hy hs hl h1 fun w' S' => hK _ _ (h w' S')
theorem wpList_sm_cellg (hw : Region.wanted o (yielded ops a.tmps) = true) (T : TypeId) (x : Operand) (ho : o.op = .load T x) (g k : Nat) (hx : a.eval x = .pointer (some ⟨g, k, none⟩)) (S : Sm w0 w L M) (i : Nat) (T' : TypeId) (cs : Array Value) (hi : L[i]? = some (g, T', cs))
    (d : TypeDesc) (hu : P.underlying T = some d) (hd : (match d with | .struct _ | .array _ _ => true | _ => false) = false) (v : Value) (hv : cs[k]? = some v)
    (h : wpList P ops Q rest (a.put o.dst v) w) : wpList P ops Q (o :: rest) a w :=
  wpList_step fun K hK => by
    rw [if_pos hw]
    exact wp_sm_cell T x ho g k hx S i T' cs hi d hu hd v hv (hK _ _ h)
theorem wpList_sm_loadg (hw : Region.wanted o (yielded ops a.tmps) = true) (T : TypeId) (x : Operand) (ho : o.op = .load T x) (g : Nat) (hx : a.eval x = .pointer (some ⟨g, 0, none⟩)) (S : Sm w0 w L M) (i : Nat) (T' : TypeId) (cs : Array Value) (hi : L[i]? = some (g, T', cs))
    (d : TypeDesc) (hu : P.underlying T = some d) (hd : (match d with | .struct _ | .array _ _ => true | _ => false) = true) (hs : (P.info? T).map (·.size) = some cs.size)
    (h : wpList P ops Q rest (a.put o.dst (.agg cs)) w) : wpList P ops Q (o :: rest) a w :=
  wpList_step fun K hK => by
    rw [if_pos hw]
    exact wp_sm_load T x ho g hx S i T' cs hi d hu hd hs (hK _ _ h)
end
end Go.Proofs.Ytkggedmcdllnaaa
