/- Words for memory: a row of the call's own that is known whole; a slice that reads as a list. Plain lemmas over the model's worlds; no function of the program. -/
import Derived.WalkKit
import Derived.WalkLawsBesides
import Derived.WalkSpells
import Derived.Deep.Draws
import Derived.Lib.Hide
namespace Go.Proofs.Ytkggedmcdllnaaa
open Go.RowKit

/-- A fact kept from the walk. -/
structure Kp (p : Prop) : Prop where mk :: (out : p)

theorem ret_eq {v u : Value} (h : v = u) : Ending.returned v = .returned u := by rw [h]
theorem ret_int {k : IntKind} {a b : Int} (h : a = b) : Ending.returned (.int k a) = .returned (.int k b) := by rw [h]
theorem ret_bool {a b : Bool} (h : a = b) : Ending.returned (.bool a) = .returned (.bool b) := by rw [h]

theorem add_plain (g j : Nat) : (⟨g, 0, none⟩ : Addr).add j = ⟨g, j, none⟩ := by unfold Addr.add; split <;> simp_all
theorem block_add (a : Addr) (n : Nat) : (a.add n).block = a.block := by unfold Addr.add; split <;> rfl
theorem add_add (a : Addr) (i j : Nat) : (a.add i).add j = a.add (i + j) := by
  unfold Addr.add
  by_cases hi : i = 0 <;> by_cases hj : j = 0 <;> simp [hi, hj, Nat.add_assoc]
theorem add_zero (a : Addr) : a.add 0 = a := by unfold Addr.add; simp

/-- Block g is just n cells of element type T, none frozen: cell k holds f k. -/
def Row (w : World) (g : Nat) (T : TypeId) (n : Nat) (f : Nat → Value) : Prop :=
  ∃ cs : Array Value, w.heap[g]? = some (.cells cs T (0, 0)) ∧ cs.size = n ∧ ∀ k, k < n → cs[k]? = some (f k)

section
variable {w w' : World} {g : Nat} {T : TypeId} {n : Nat} {f f' : Nat → Value}
theorem Row.lt (h : Row w g T n f) : g < w.heap.size := by
  obtain ⟨cs, h1, _⟩ := h
  exact (Array.getElem?_eq_some_iff.1 h1).1
theorem Row.cell (h : Row w g T n f) {k : Nat} (hk : k < n) : w.cell? ⟨g, k, none⟩ = some (f k) := by
  obtain ⟨cs, h1, _, h3⟩ := h
  rw [cell_of_row w g k cs T (0, 0) h1]; exact h3 k hk
theorem Row.free (h : Row w g T n f) (k : Nat) : w.frozen? ⟨g, k, none⟩ = false := by
  obtain ⟨cs, h1, _⟩ := h
  simp [World.frozen?, h1]
theorem Row.same (h : Row w g T n f) (he : w'.heap[g]? = w.heap[g]?) : Row w' g T n f := by
  obtain ⟨cs, h1, h2⟩ := h
  exact ⟨cs, he.trans h1, h2⟩
theorem Row.congr (h : Row w g T n f) (he : ∀ k, k < n → f k = f' k) : Row w g T n f' := by
  obtain ⟨cs, h1, h2, h3⟩ := h
  exact ⟨cs, h1, h2, fun k hk => by rw [h3 k hk, he k hk]⟩
theorem Row.drew (h : Row w g T n f) : Row w.drew g T n f := h
theorem Row.drewN (h : Row w g T n f) (m : Nat) : Row (w.drewN m) g T n f := h
theorem Row.alloc (h : Row w g T n f) (o : Obj) : Row (w.alloc o) g T n f := h.same (Below.heap_alloc w o g h.lt)
theorem Row.far (h : Row w g T n f) {p : Addr} (hp : g ≠ p.block) (u : Value) : Row (w.setCell p u) g T n f := h.same (Below.heap_setCell w p u g hp)
theorem Row.below (h : Row w g T n f) (hb : Below w.heap.size w w') : Row w' g T n f := h.same (hb.block g h.lt)
theorem Row.grown (h : Row w g T n f) {row : Option Nat} (hb : w.grownBy w' row) (hg : some g ≠ row) : Row w' g T n f := h.same (hb.block g h.lt hg)
theorem Row.set (h : Row w g T n f) (k : Nat) (u : Value) : Row (w.setCell ⟨g, k, none⟩ u) g T n (fun i => if i = k then u else f i) := by
  obtain ⟨cs, h1, h2, h3⟩ := h
  refine ⟨cs.setIfInBounds k u, by simp [World.setCell, Array.getElem?_modify, h1], by simpa using h2, fun i hi => ?_⟩
  by_cases e : i = k
  · subst e; simp [h2, hi]
  · have e' : ¬ k = i := fun h => e h.symm
    simp only [if_neg e, Array.getElem?_setIfInBounds, if_neg e']; exact h3 i hi
theorem Row.new (w : World) (T : TypeId) (cs : Array Value) (n : Nat) (f : Nat → Value) (hn : cs.size = n) (hf : ∀ k, k < n → cs[k]? = some (f k)) :
    Row (w.alloc (.cells cs T)) w.heap.size T n f := ⟨cs, heap_alloc_new w _, hn, hf⟩
theorem Row.one (w : World) (T : TypeId) (v : Value) : Row (w.alloc (.cells #[v] T)) w.heap.size T 1 (fun _ => v) :=
  Row.new w T _ 1 _ rfl (fun k hk => by
    obtain rfl : k = 0 := by omega
    rfl)
theorem Row.two (w : World) (T : TypeId) (u v : Value) : Row (w.alloc (.cells #[u, v] T)) w.heap.size T 2 (fun j => if j = 0 then u else v) :=
  Row.new w T _ 2 _ rfl (fun k hk => by
    have h : k = 0 ∨ k = 1 := by omega
    rcases h with rfl | rfl <;> rfl)
theorem Row.made (w : World) (T : TypeId) (z : Value) (n : Nat) : Row (w.alloc (.cells (madeCells #[z] n) T)) w.heap.size T n (fun _ => z) :=
  Row.new w T _ n _ (by simp [size_madeCells]) (fun k hk => by simp [madeCells, hk, Nat.mod_one])
end

/-- A block of element type T, or one that lay there ahead of block B. -/
def Cls (T : TypeId) (B : Nat) (w : World) (g : Nat) : Prop := g < B ∨ ∃ cs fr, w.heap[g]? = some (.cells cs T fr)
def NotT (T : TypeId) (w : World) (g : Nat) : Prop := ∀ cs fr, w.heap[g]? ≠ some (.cells cs T fr)

/-- From an address on n cells hold f 0, f 1, ..: in a block that lay ahead of B, or is of type T. -/
def Sl (T : TypeId) (B : Nat) (w : World) (A : Option Addr) (n : Nat) (f : Nat → Value) : Prop :=
  n ≤ 9223372036854775807 ∧ (0 < n → ∃ ad, A = some ad ∧ ad.block < w.heap.size ∧ Cls T B w ad.block ∧ ∀ j, j < n → w.cell? (ad.add j) = some (f j))

section
variable {T : TypeId} {B B' : Nat} {w w' : World} {A : Option Addr} {n : Nat} {f f' : Nat → Value}
theorem Sl.at_ (h : Sl T B w A n f) {k : Nat} (hk : k < n) : ∃ ad, A = some ad ∧ ad.block < w.heap.size ∧ w.cell? (ad.add k) = some (f k) := by
  obtain ⟨ad, e, hb, _, hc⟩ := h.2 (by omega)
  exact ⟨ad, e, hb, hc k hk⟩
theorem Sl.at2 (h : Sl T B w A n f) (hn : 0 < n) : ∃ ad, A = some ad ∧ ad.block < w.heap.size ∧ Cls T B w ad.block ∧ ∀ j, j < n → w.cell? (ad.add j) = some (f j) := h.2 hn
/-- The same, the address written out. -/
theorem Sl.at3 (h : Sl T B w A n f) (hn : 0 < n) : ∃ g o, A = some ⟨g, o, none⟩ ∧ g < w.heap.size ∧ Cls T B w g ∧ ∀ j, j < n → w.cell? ⟨g, o + j, none⟩ = some (f j) := by
  obtain ⟨⟨g, o, s⟩, rfl, hb, hc, hv⟩ := h.2 hn
  have hs : s = none := by
    have h0 := hv 0 hn
    rw [show (⟨g, o, s⟩ : Addr).add 0 = ⟨g, o, s⟩ from by simp [Addr.add]] at h0
    unfold World.cell? at h0
    cases s with
    | none => rfl
    | some x => split at h0 <;> simp at h0
  subst hs
  exact ⟨g, o, rfl, hb, hc, fun j hj => by
    rw [show (⟨g, o + j, none⟩ : Addr) = (⟨g, o, none⟩ : Addr).add j from (Addr.add_lit g o j).symm]; exact hv j hj⟩
theorem Sl.le (h : Sl T B w A n f) : n ≤ 9223372036854775807 := h.1
theorem Sl.zero (f : Nat → Value) : Sl T B w A 0 f := ⟨by omega, fun h => absurd h (by omega)⟩
theorem Sl.congr (h : Sl T B w A n f) (he : ∀ k, k < n → f k = f' k) : Sl T B w A n f' :=
  ⟨h.1, fun hn => by
    obtain ⟨ad, e, hb, hc, hv⟩ := h.2 hn
    exact ⟨ad, e, hb, hc, fun j hj => by rw [hv j hj, he j hj]⟩⟩
theorem Sl.wide (h : Sl T B w A n f) : Sl T w.heap.size w A n f :=
  ⟨h.1, fun hn => by
    obtain ⟨ad, e, hb, _, hv⟩ := h.2 hn
    exact ⟨ad, e, hb, .inl hb, hv⟩⟩
theorem Sl.mono (h : Sl T B w A n f) (hB : B ≤ B') : Sl T B' w A n f :=
  ⟨h.1, fun hn => by
    obtain ⟨ad, e, hb, hc, hv⟩ := h.2 hn
    exact ⟨ad, e, hb, hc.imp (fun h => Nat.lt_of_lt_of_le h hB) id, hv⟩⟩
theorem Sl.grown (h : Sl T B w A n f) {row : Option Nat} (hg : w.grownBy w' row) (hr : ∀ g, row = some g → B ≤ g ∧ NotT T w g) : Sl T B w' A n f :=
  ⟨h.1, fun hn => by
    obtain ⟨ad, e, hb, hc, hv⟩ := h.2 hn
    have hne : some ad.block ≠ row := by
      intro e2
      obtain ⟨h1, h2⟩ := hr _ e2.symm
      rcases hc with hc | ⟨cs, fr, hc⟩
      · omega
      · exact h2 _ _ hc
    have hbl := hg.block ad.block hb hne
    refine ⟨ad, e, Nat.lt_of_lt_of_le hb hg.size, ?_, fun j hj => ?_⟩
    · rcases hc with hc | ⟨cs, fr, hc⟩
      · exact .inl hc
      · exact .inr ⟨cs, fr, hbl.trans hc⟩
    · rw [World.cell?_of_block (w := w) (by rw [block_add]; exact hbl)]; exact hv j hj⟩
theorem Sl.below (h : Sl T B w A n f) (hb : Below w.heap.size w w') : Sl T B w' A n f :=
  h.grown (row := none) ⟨hb.os, hb.tape, hb.output, hb.size, fun k hk _ => hb.block k hk⟩ (fun _ e => by cases e)
theorem Sl.alloc (h : Sl T B w A n f) (o : Obj) : Sl T B (w.alloc o) A n f := h.grown (World.grownBy_alloc w o none) (fun _ e => by cases e)
theorem Sl.drew (h : Sl T B w A n f) : Sl T B w.drew A n f := h
theorem Sl.drewN (h : Sl T B w A n f) (m : Nat) : Sl T B (w.drewN m) A n f := h
/-- What lies ahead of B is as it was wherever the world is so below B. -/
theorem Sl.old (h : Sl T w.heap.size w A n f) (hb : Below w.heap.size w w') : Sl T w.heap.size w' A n f := h.below hb
theorem Sl.cut (h : Sl T B w A n f) {k cap : Nat} (hk : k ≤ n) (hc : n ≤ cap) :
    Sl T B w (if cap = k then A else A.map (·.add k)) (n - k) (fun j => f (k + j)) := by
  refine ⟨by have := h.1; omega, fun hn => ?_⟩
  obtain ⟨ad, rfl, hb, hcl, hv⟩ := h.2 (by omega)
  rw [if_neg (by omega)]
  exact ⟨ad.add k, rfl, by rw [block_add]; exact hb, by rw [block_add]; exact hcl, fun j hj => by rw [add_add]; exact hv _ (by omega)⟩
theorem Sl.take (h : Sl T B w A n f) {k : Nat} (hk : k ≤ n) : Sl T B w A k f :=
  ⟨by have := h.1; omega, fun hn => by
    obtain ⟨ad, e, hb, hcl, hv⟩ := h.2 (by omega)
    exact ⟨ad, e, hb, hcl, fun j hj => hv j (by omega)⟩⟩
theorem Sl.of_row {g m : Nat} (h : Row w g T m f) (hn : n ≤ m) (hl : n ≤ 9223372036854775807) : Sl T B w (some ⟨g, 0, none⟩) n f :=
  ⟨hl, fun _ => by
    obtain ⟨cs, h1, h2, h3⟩ := h
    exact ⟨_, rfl, (Array.getElem?_eq_some_iff.1 h1).1, .inr ⟨cs, _, h1⟩, fun j hj => by
      rw [add_plain, cell_of_row w g j cs T (0, 0) h1]; exact h3 j (by omega)⟩⟩
/-- What a row of the call's own holds, read. -/
theorem Sl.of_own {base size k : Nat} {v : Value} {xs : List Value} (h : w.ownsRow base T size v k xs) (hl : xs.length ≤ 9223372036854775807) :
    ∃ A c, v = .slice A k c ∧ k ≤ c ∧ c ≤ 9223372036854775807 ∧ Sl T B w A xs.length (fun j => xs.getD j undef) := by
  rcases h.2 with ⟨rfl, rfl⟩ | ⟨g, cap, cur, rfl, hb, hh, hc, hm, hs, ht⟩
  · obtain rfl : xs = [] := List.eq_nil_of_length_eq_zero (by simpa using h.1)
    exact ⟨none, 0, rfl, Nat.le_refl _, by omega, Sl.zero _⟩
  · refine ⟨_, cap, rfl, hc, hm, hl, fun _ => ⟨_, rfl, (Array.getElem?_eq_some_iff.1 hh).1, .inr ⟨cur, _, hh⟩, fun j hj => ?_⟩⟩
    rw [h.cells (g := g) rfl j xs[j] (List.getElem?_eq_getElem hj)]
    simp [List.getD_eq_getElem?_getD, List.getElem?_eq_getElem hj]
end
theorem NotT.of_own {w : World} {base size k : Nat} {T E : TypeId} {v : Value} {xs : List Value} (h : w.ownsRow base E size v k xs) (hne : E ≠ T) :
    ∀ g, v.ownBlock = some g → base ≤ g ∧ NotT T w g := by
  intro g hg
  rcases h.2 with ⟨rfl, _⟩ | ⟨g', cap, cur, rfl, hb, hh, _⟩
  · simp [Value.ownBlock] at hg
  · obtain rfl : g' = g := by simpa [Value.ownBlock] using hg
    refine ⟨hb, fun cs fr h2 => ?_⟩
    rw [hh] at h2
    injection h2 with h2
    injection h2 with _ ht
    exact hne ht
theorem grown_below {w w' : World} (h : Below w.heap.size w w') (row : Option Nat) : w.grownBy w' row := ⟨h.os, h.tape, h.output, h.size, fun i hi _ => h.block i hi⟩
theorem grown_trans {a b c : World} {row : Option Nat} (h : a.grownBy b row) (k : b.grownBy c row) : a.grownBy c row :=
  ⟨k.os.trans h.os, k.tape.trans h.tape, k.output.trans h.output, Nat.le_trans h.size k.size, fun i hi hn => (k.block i (Nat.lt_of_lt_of_le hi h.size) hn).trans (h.block i hi hn)⟩
theorem below_trans {B : Nat} {a b c : World} (h : Below B a b) (hB : B ≤ b.heap.size) (k : Below b.heap.size b c) : Below B a c := h.trans (k.mono hB)
theorem below_drewN {B : Nat} {a w : World} (h : Below B a w) (n : Nat) : Below B a (w.drewN n) := ⟨h.os, h.tape, h.output, h.size, h.block⟩

/-- The builtins max and min of two whole numbers. -/
def mxi (x y : Int) : Int := if x < y then y else x
def mni (x y : Int) : Int := if y < x then y else x
theorem max_two_ints (ats : Array TypeId) (ty : TypeId) (k k' : IntKind) (x y : Int) : Builtin.max_ ats ty #[.int k x, .int k' y] = pure (.int k (mxi x y)) := by
  simp only [Builtin.max_, Builtin.max2, List.foldlM_cons, List.foldlM_nil, gt_iff_lt, mxi]; rfl
theorem min_two_ints (ats : Array TypeId) (ty : TypeId) (k k' : IntKind) (x y : Int) : Builtin.min_ ats ty #[.int k x, .int k' y] = pure (.int k (mni x y)) := by
  simp only [Builtin.min_, Builtin.min2, List.foldlM_cons, List.foldlM_nil, mni]; rfl

theorem NotT.of_row {w : World} {g n : Nat} {T E : TypeId} {f : Nat → Value} (h : Row w g E n f) (hne : E ≠ T) : NotT T w g := by
  obtain ⟨cs, hh, _⟩ := h
  intro cs' fr h2
  rw [hh] at h2
  injection h2 with h2
  injection h2 with _ ht
  exact hne ht
theorem grown_set {w w' : World} {g : Nat} (h : w.grownBy w' (some g)) {p : Addr} (hp : p.block = g) (u : Value) : w.grownBy (w'.setCell p u) (some g) :=
  ⟨h.os, h.tape, h.output, by simpa [World.setCell] using h.size, fun k hk hne => (Below.heap_setCell w' _ _ k (fun e => hne (by rw [e, hp]))).trans (h.block k hk hne)⟩
theorem grown_drew {w w' : World} {row : Option Nat} (h : w.grownBy w' row) : w.grownBy w'.drew row := ⟨h.os, h.tape, h.output, h.size, h.block⟩
theorem grown_drewN {w w' : World} {row : Option Nat} (h : w.grownBy w' row) (n : Nat) : w.grownBy (w'.drewN n) row := ⟨h.os, h.tape, h.output, h.size, h.block⟩
theorem below_grown {B : Nat} {a w w' : World} {g : Nat} (h : Below B a w) (hg : w.grownBy w' (some g)) (hB : B ≤ w.heap.size) (hr : B ≤ g) : Below B a w' := h.grown hg hB (fun k e => by cases e; exact hr)
theorem str_beq (x y : ByteArray) : (x.toList == y.toList) = decide (x = y) := by
  rw [Bool.eq_iff_iff]
  simp only [beq_iff_eq, decide_eq_true_eq, ByteArray.toList_eq]
  exact ⟨Go.WideShapes.bytes_inj, fun h => by rw [h]⟩

/-- The line at a place. -/
def sAt (xs : List ByteArray) (j : Nat) : ByteArray := xs.getD j ByteArray.empty
theorem sAt_lt {xs : List ByteArray} {j : Nat} (h : j < xs.length) : sAt xs j = xs[j] := by
  simp [sAt, List.getD_eq_getElem?_getD, List.getElem?_eq_getElem h]
/-- A slice of strings that reads as a list. -/
def SlS (B : Nat) (w : World) (A : Option Addr) (xs : List ByteArray) : Prop := Sl 9 B w A xs.length (fun j => .string (sAt xs j))
theorem SlS.below {B : Nat} {w w' : World} {A : Option Addr} {xs : List ByteArray} (h : SlS B w A xs) (hb : Below w.heap.size w w') : SlS B w' A xs := Sl.below h hb
theorem SlS.wide {B : Nat} {w : World} {A : Option Addr} {xs : List ByteArray} (h : SlS B w A xs) : SlS w.heap.size w A xs := Sl.wide h
theorem SlS.alloc {B : Nat} {w : World} {A : Option Addr} {xs : List ByteArray} (h : SlS B w A xs) (o : Obj) : SlS B (w.alloc o) A xs := Sl.alloc h o
theorem SlS.grown {B : Nat} {w w' : World} {A : Option Addr} {xs : List ByteArray} (h : SlS B w A xs) {row : Option Nat} (hg : w.grownBy w' row) (hr : ∀ g, row = some g → B ≤ g ∧ NotT 9 w g) : SlS B w' A xs := Sl.grown h hg hr
theorem SlS.at_ {B : Nat} {w : World} {A : Option Addr} {xs : List ByteArray} (h : SlS B w A xs) {k : Nat} (hk : k < xs.length) : ∃ ad, A = some ad ∧ ad.block < w.heap.size ∧ w.cell? (ad.add k) = some (.string (sAt xs k)) := Sl.at_ h hk
theorem SlS.at3 {B : Nat} {w : World} {A : Option Addr} {xs : List ByteArray} (h : SlS B w A xs) {k : Nat} (hk : k < xs.length) :
    ∃ g o, A = some ⟨g, o, none⟩ ∧ g < w.heap.size ∧ ∀ j, j < xs.length → w.cell? ⟨g, o + j, none⟩ = some (.string (sAt xs j)) := by
  obtain ⟨g, o, e, hg, _, hc⟩ := Sl.at3 h (by omega)
  exact ⟨g, o, e, hg, hc⟩
/-- What lay there when the world was w, read in whatever world is as w was below w's heap. -/
theorem SlS.later {B : Nat} {w w' : World} {A : Option Addr} {xs : List ByteArray} (h : SlS B w A xs) (hb : Below w.heap.size w w') : SlS w'.heap.size w' A xs := (SlS.below h hb).wide
theorem SlS.any {B : Nat} (B' : Nat) {w : World} {A : Option Addr} {xs : List ByteArray} (h : SlS B w A xs) (hB : B ≤ B') : SlS B' w A xs := Sl.mono h hB
theorem SlS.one {B : Nat} {w : World} {A : Option Addr} {xs : List ByteArray} (h : SlS B w A xs) : Sl 9 B w A (xs.length * 1) (fun j => .string (sAt xs j)) := by rw [Nat.mul_one]; exact h
/-- A slice literal of strings. -/
theorem SlS.lit (B : Nat) (w : World) (l : List ByteArray) (cs : Array Value) (hcs : cs = (l.map Value.string).toArray) (hl : l.length ≤ 9223372036854775807) : SlS B (w.alloc (.cells cs 9)) (some ⟨w.heap.size, 0, none⟩) l := by
  subst hcs
  exact ⟨hl, fun _ => ⟨_, rfl, by simp, .inr ⟨_, _, heap_alloc_new w _⟩, fun j hj => by
    rw [add_plain, cell_of_row _ _ j _ _ (0, 0) (heap_alloc_new w _)]
    simp [List.getElem?_eq_getElem hj, sAt_lt hj]⟩⟩
theorem sAt_drop (xs : List ByteArray) (k j : Nat) : sAt (xs.drop k) j = sAt xs (k + j) := by
  simp [sAt, List.getD_eq_getElem?_getD]
theorem sAt_take (xs : List ByteArray) {k j : Nat} (h : j < k) : sAt (xs.take k) j = sAt xs j := by
  simp [sAt, List.getD_eq_getElem?_getD, h]
theorem SlS.cut {B : Nat} {w : World} {A : Option Addr} {xs : List ByteArray} (h : SlS B w A xs) {k c : Nat} (hk : k ≤ xs.length) (hc : xs.length ≤ c) : SlS B w (if c = k then A else A.map (fun x => x.add k)) (xs.drop k) := by
  have h2 := (Sl.cut h hk hc).congr (f' := fun j => .string (sAt (xs.drop k) j)) (fun j _ => by rw [sAt_drop])
  unfold SlS
  rw [List.length_drop]
  exact h2
theorem SlS.take {B : Nat} {w : World} {A : Option Addr} {xs : List ByteArray} (h : SlS B w A xs) {k : Nat} (hk : k ≤ xs.length) : SlS B w A (xs.take k) := by
  have h2 := (Sl.take h hk).congr (f' := fun j => .string (sAt (xs.take k) j)) (fun j hj => by rw [sAt_take xs hj])
  unfold SlS
  rw [List.length_take, Nat.min_eq_left hk]
  exact h2

theorem SlS.drew {w : World} {A : Option Addr} {xs : List ByteArray} (h : SlS w.heap.size w A xs) : SlS w.drew.heap.size w.drew A xs := h
theorem SlS.drewN {w : World} {A : Option Addr} {xs : List ByteArray} (h : SlS w.heap.size w A xs) (q : Nat) : SlS (w.drewN q).heap.size (w.drewN q) A xs := h
theorem SlS.drew' {B : Nat} {w : World} {A : Option Addr} {xs : List ByteArray} (h : SlS B w A xs) : SlS B w.drew A xs := h
theorem SlS.nil {B : Nat} {w : World} {A : Option Addr} : SlS B w A [] := Sl.zero _
end Go.Proofs.Ytkggedmcdllnaaa
