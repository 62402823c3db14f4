/- Lists of hunks in memory, and append of one. -/
import Derived.Test.YtkggedmcdllnaaaRw
import Derived.Test.YtkggedmcdllnaaaLit
namespace Go.Proofs.Ytkggedmcdllnaaa
open Go.RowKit

/-- A hunk in memory: At; where Old lies, its capacity, Old; where New lies, its capacity, New. -/
abbrev HkA := Int × (Option Addr × Nat × List ByteArray) × (Option Addr × Nat × List ByteArray)
/-- A hunk: At, Old, New. -/
abbrev Hk3 := Int × List ByteArray × List ByteArray
def hcs (l : List HkA) : List Value := l.flatMap fun e => [.int .i64 e.1, .slice e.2.1.1 e.2.1.2.2.length e.2.1.2.1, .slice e.2.2.1 e.2.2.2.2.length e.2.2.2.1]
def hds (l : List HkA) : List Hk3 := l.map fun e => (e.1, e.2.1.2.2, e.2.2.2.2)
def Olds (l : List HkA) (w : World) : Prop := ∀ e ∈ l, LnX e.2.1.1 e.2.1.2.2 w
def HNews (l : List HkA) (w : World) : Prop := ∀ e ∈ l, LnX e.2.2.1 e.2.2.2.2 w
/-- A list of hunks in memory. -/
def HkL (C : Option Addr) (l : List HkA) (w : World) : Prop := SlX C (hcs l).length (fun j => (hcs l).getD j undef) w ∧ Olds l w ∧ HNews l w
theorem hcs_length (l : List HkA) : (hcs l).length = l.length * 3 := by
  induction l with
  | nil => rfl
  | cons e l ih => simp only [hcs, List.flatMap_cons, List.length_append, List.length_cons, List.length_nil] at ih ⊢; omega
theorem hcs_snoc (l : List HkA) (e : HkA) : hcs (l ++ [e]) = hcs l ++ [.int .i64 e.1, .slice e.2.1.1 e.2.1.2.2.length e.2.1.2.1, .slice e.2.2.1 e.2.2.2.2.length e.2.2.2.1] := by simp [hcs]
theorem olds_snoc (l : List HkA) (e : HkA) (w : World) : LnX e.2.1.1 e.2.1.2.2 w ∧ Olds l w ↔ Olds (l ++ [e]) w := by
  unfold Olds
  constructor
  · rintro ⟨h1, h2⟩ x hx
    rcases List.mem_append.1 hx with hx | hx
    · exact h2 x hx
    · obtain rfl : x = e := by simpa using hx
      exact h1
  · intro h
    exact ⟨h e (by simp), fun x hx => h x (by simp [hx])⟩
theorem hnews_snoc (l : List HkA) (e : HkA) (w : World) : LnX e.2.2.1 e.2.2.2.2 w ∧ HNews l w ↔ HNews (l ++ [e]) w := by
  unfold HNews
  constructor
  · rintro ⟨h1, h2⟩ x hx
    rcases List.mem_append.1 hx with hx | hx
    · exact h2 x hx
    · obtain rfl : x = e := by simpa using hx
      exact h1
  · intro h
    exact ⟨h e (by simp), fun x hx => h x (by simp [hx])⟩
theorem hds_snoc (l : List HkA) (e : HkA) : hds (l ++ [e]) = hds l ++ [(e.1, e.2.1.2.2, e.2.2.2.2)] := by simp [hds]
theorem hds_length (l : List HkA) : (hds l).length = l.length := by simp [hds]
theorem hcs_at (l : List HkA) : ∀ k (h : k < l.length), (hcs l)[k * 3]? = some (.int .i64 l[k].1) ∧ (hcs l)[k * 3 + 1]? = some (.slice l[k].2.1.1 l[k].2.1.2.2.length l[k].2.1.2.1) ∧ (hcs l)[k * 3 + 2]? = some (.slice l[k].2.2.1 l[k].2.2.2.2.length l[k].2.2.2.1) := by
  induction l with
  | nil => intro k h; simp at h
  | cons x l ih =>
    intro k h
    cases k with
    | zero => simp [hcs]
    | succ k =>
      have h1 := ih k (by simpa using h)
      have e : hcs (x :: l) = [.int .i64 x.1, .slice x.2.1.1 x.2.1.2.2.length x.2.1.2.1, .slice x.2.2.1 x.2.2.2.2.length x.2.2.2.1] ++ hcs l := by simp [hcs]
      rw [e]
      have en : ([Value.int .i64 x.1, .slice x.2.1.1 x.2.1.2.2.length x.2.1.2.1, .slice x.2.2.1 x.2.2.2.2.length x.2.2.2.1] : List Value).length = 3 := rfl
      refine ⟨?_, ?_, ?_⟩
      · rw [List.getElem?_append_right (by rw [en]; omega), en, show (k + 1) * 3 - 3 = k * 3 from by omega]
        simpa using h1.1
      · rw [List.getElem?_append_right (by rw [en]; omega), en, show (k + 1) * 3 + 1 - 3 = k * 3 + 1 from by omega]
        simpa using h1.2.1
      · rw [List.getElem?_append_right (by rw [en]; omega), en, show (k + 1) * 3 + 2 - 3 = k * 3 + 2 from by omega]
        simpa using h1.2.2
theorem HkL.at_ {C : Option Addr} {l : List HkA} {w : World} (h : HkL C l w) (hn : 0 < l.length) :
    ∃ g o, C = some ⟨g, o, none⟩ ∧ g < w.heap.size ∧ ∀ k (hk : k < l.length), w.cell? ⟨g, o + k * 3, none⟩ = some (.int .i64 l[k].1) ∧ w.cell? ⟨g, o + k * 3 + 1, none⟩ = some (.slice l[k].2.1.1 l[k].2.1.2.2.length l[k].2.1.2.1) ∧
      w.cell? ⟨g, o + k * 3 + 2, none⟩ = some (.slice l[k].2.2.1 l[k].2.2.2.2.length l[k].2.2.2.1) := by
  have hl := hcs_length l
  obtain ⟨g, o, e, hb, _, hc⟩ := Sl.at3 (SlX.sl (T := 24) h.1) (by omega)
  refine ⟨g, o, e, hb, fun k hk => ?_⟩
  obtain ⟨h0, h1, h2⟩ := hcs_at l k hk
  have c0 := hc (k * 3) (by omega)
  have c1 := hc (k * 3 + 1) (by omega)
  have c2 := hc (k * 3 + 2) (by omega)
  rw [List.getD_eq_getElem?_getD, h0] at c0
  rw [List.getD_eq_getElem?_getD, h1] at c1
  rw [List.getD_eq_getElem?_getD, h2] at c2
  exact ⟨c0, c1, c2⟩
theorem HkL.cells {g o i : Nat} {l : List HkA} {w : World} {x0 : Int} {xa ya : Option Addr} {xc yc : Nat} {us vs : List ByteArray} (h : HkL (some ⟨g, o, none⟩) l w) {hlt : i < l.length} (ex : l[i] = (x0, (xa, xc, us), (ya, yc, vs))) :
    w.cell? ⟨g, o + i * 3, none⟩ = some (.int .i64 x0) ∧ w.cell? ⟨g, o + i * 3 + 1, none⟩ = some (.slice xa us.length xc) ∧ w.cell? ⟨g, o + i * 3 + 2, none⟩ = some (.slice ya vs.length yc) := by
  obtain ⟨g', o', e, _, hc⟩ := h.at_ (by omega)
  injection e with e
  injection e with e1 e2
  subst e1 e2
  have := hc i hlt
  rw [ex] at this
  exact this
theorem Try.info_hunk : (Try.prog.info? 24).map (fun i => (i.zero, i.size, i.bytes)) = some (some (.agg #[.int .i64 0, .slice none 0 0, .slice none 0 0]), 3, 56) := by kernel_rfl
section
variable {w0 w : World} {L : List Bl} {M : List Mf} {ops : Array Oper} {rest : List Oper} {o : Oper} {a : Act} {Q : Exit → Act → World → Prop} {K : Act → World → Prop} {P : Program}
theorem step_plain {X : Prop} (hg : o.guard = none) (h : o.wp P a w K Q) : if Region.wanted o (yielded ops a.tmps) = true then o.wp P a w K Q else X := by
  rw [if_pos (by simp [Region.wanted, hg])]
  exact h
/-- append of one hunk. -/
theorem wp_hk_append (s x : Operand) (t : TypeId)
    (ho : o.op = .call { callee := .builtin .append, args := #[s, x], argTypes := #[t, t] }) (ht : Try.prog.underlying t = some (.slice 24))
    (v : Value) (hs : a.eval s = v) (l : List HkA) (R : Rw w0 w L M 24 3 v l.length (hcs l)) (ad : Addr) (c : Nat) (hx : a.eval x = .slice (some ad) 1 c) (e : HkA)
    (hc : ad.block < w.heap.size ∧ w.cell? (ad.add 0) = some (.int .i64 e.1) ∧ w.cell? (ad.add 1) = some (.slice e.2.1.1 e.2.1.2.2.length e.2.1.2.1) ∧ w.cell? (ad.add 2) = some (.slice e.2.2.1 e.2.2.2.2.length e.2.2.2.1))
    (hl : l.length ≤ 1000000)
    (h : ∀ v' w', Rw w0 w' L M 24 3 v' (l ++ [e]).length (hcs (l ++ [e])) → K (a.put o.dst v') w') : o.wp Try.prog a w K Q := by
  obtain ⟨L', S, own, hL⟩ := R
  refine wp_append_sl s x t ho w0.heap.size 24 _ 3 56 ht Try.info_hunk rfl (by decide) v l.length (hcs l) hs own (some ad) 1 c 24 w.heap.size
    (fun j => if j = 0 then .int .i64 e.1 else if j = 1 then .slice e.2.1.1 e.2.1.2.2.length e.2.1.2.1 else .slice e.2.2.1 e.2.2.2.2.length e.2.2.2.1) hx ⟨by omega, fun _ => ⟨ad, rfl, hc.1, .inl hc.1, fun j hj => ?_⟩⟩ (fun j => ?_) (by simp only [maxLen]; omega) (by omega) S.below.size ?_
  · have h3 : j = 0 ∨ j = 1 ∨ j = 2 := by omega
    rcases h3 with rfl | rfl | rfl
    · exact hc.2.1
    · exact hc.2.2.1
    · exact hc.2.2.2
  · by_cases h0 : j = 0 <;> by_cases h1 : j = 1 <;> simp [h0, h1, Value.oneCell']
  · intro v' w' own' hgr hv
    have e1 : hcs l ++ (List.range (1 * 3)).map (fun j => if j = 0 then Value.int .i64 e.1 else if j = 1 then .slice e.2.1.1 e.2.1.2.2.length e.2.1.2.1 else .slice e.2.2.1 e.2.2.2.2.length e.2.2.2.1) = hcs (l ++ [e]) := by rw [hcs_snoc]; rfl
    rw [e1] at own'
    have e2 : (l ++ [e]).length = l.length + 1 := by simp
    obtain ⟨L'', S', hL'⟩ := S.row hL hgr own' hv
    exact h v' w' ⟨L'', S', by rw [e2]; exact own', hL'⟩
theorem wpList_hk_append (hg : o.guard = none) (s x : Operand) (t : TypeId)
    (ho : o.op = .call { callee := .builtin .append, args := #[s, x], argTypes := #[t, t] }) (ht : Try.prog.underlying t = some (.slice 24))
    (v : Value) (hs : a.eval s = v) (l : List HkA) (R : Rw w0 w L M 24 3 v l.length (hcs l)) (ad : Addr) (c : Nat) (hx : a.eval x = .slice (some ad) 1 c) (e : HkA)
    (hc : ad.block < w.heap.size ∧ w.cell? (ad.add 0) = some (.int .i64 e.1) ∧ w.cell? (ad.add 1) = some (.slice e.2.1.1 e.2.1.2.2.length e.2.1.2.1) ∧ w.cell? (ad.add 2) = some (.slice e.2.2.1 e.2.2.2.2.length e.2.2.2.1))
    (hl : l.length ≤ 1000000)
    (h : ∀ v' w', Rw w0 w' L M 24 3 v' (l ++ [e]).length (hcs (l ++ [e])) → wpList Try.prog ops Q rest (a.put o.dst v') w') : wpList Try.prog ops Q (o :: rest) a w :=
  wpList_plain hg fun _ hK => wp_hk_append s x t ho ht v hs l R ad c hx e hc hl fun v' w' R' => hK _ _ (h v' w' R')
end
/-- A row of the call's own behind a call that left it. -/
theorem Rw.back {w0 w w' : World} {L L1 L' : List Bl} {M M1 : List Mf} {E size n : Nat} {v : Value} {xs : List Value} (S : Sm w0 w (L ++ L') M) (own : w.ownsRow w0.heap.size E size v n xs) (hL : ∀ g, v.ownBlock = some g → ∃ cur, L' = [(g, E, cur)])
    (S' : Sm w0 w' (L1 ++ L') M1) : Rw w0 w' L1 M1 E size v n xs := by
  refine ⟨L', S', ⟨own.1, ?_⟩, hL⟩
  rcases own.2 with ⟨h1, h2⟩ | ⟨g, cap, cur, rfl, hg, hh, hr⟩
  · exact .inl ⟨h1, h2⟩
  · refine .inr ⟨g, cap, cur, rfl, hg, ?_, hr⟩
    obtain ⟨cur', rfl⟩ := hL g rfl
    have b1 := (S.blk L.length (g, E, cur') (by simp)).2
    have b2 := (S'.blk L1.length (g, E, cur') (by simp)).2
    have e : cur' = cur := by
      have := b1.symm.trans hh
      injection this with this
      injection this
    rw [← e]
    exact b2
theorem HkAt.of_blk {w : World} {g : Nat} {v0 v1 v2 : Value} (h : Blk w g 24 #[v0, v1, v2]) : Row w g 24 3 (fun k => if k = 0 then v0 else if k = 1 then v1 else v2) :=
  ⟨_, h, rfl, fun k hk => by
    have h : k = 0 ∨ k = 1 ∨ k = 2 := by omega
    rcases h with rfl | rfl | rfl <;> rfl⟩
theorem hk_one (p : Int) (A B : Option Addr) (n c m d : Nat) : (#[Value.int .i64 p, .slice A n c, .slice B m d].all fun x => x.oneCell') = true := by simp [Value.oneCell']
/-- slices.Clone, the length by another name. -/
theorem cloneS_at (xs : List ByteArray) (A : Option Addr) (n c : Nat) (w : World) (hx : n = xs.length) (hA : SlS w.heap.size w A xs) (hn : xs.length ≤ 100000) :
    Calls Try.prog 26 #[.slice A n c] w fun e w' => ∃ C k, e = .returned (.slice C n k) ∧ n ≤ k ∧ k ≤ 9223372036854775807 ∧ Frs w.heap.size (LnX C xs) w' ∧ Below w.heap.size w w' := by
  subst hx
  refine (cloneS_any xs A c w hA hn).mono ?_
  rintro e w' ⟨v, rfl, hown, hb⟩
  obtain ⟨C, k, rfl, h1, h2, hF⟩ := Frs.own_ln hown (by omega)
  exact ⟨C, k, rfl, h1, h2, hF, hb⟩
end Go.Proofs.Ytkggedmcdllnaaa
