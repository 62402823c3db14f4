/- diff.Apply: a list that edits change; in plain words and the walk. -/
import Derived.Deep.RegionHeld3
import Derived.WalkMore
import Derived.Test.YtgbkbcdplcehmaaCost
namespace Go.Proofs.Ytgbkbcdplcehmaa
open Go.RowKit

/-- May an edit stand there: the first one or a later one, from a place on. -/
def edOk (n : Nat) (first : Bool) (at_ : Int) (x : Int × Int × List ByteArray) : Bool :=
  !(decide (x.1 < at_) || (!first && decide (x.1 = at_)) || decide ((n : Int) < x.1) || decide (x.2.1 < 0) || decide ((n : Int) - x.1 < x.2.1))
/-- What edits make of a list. -/
def apGo (a : List ByteArray) : List (Int × Int × List ByteArray) → Bool → Nat → List ByteArray → Option (List ByteArray)
  | [], _, p, out => some (out ++ a.drop p)
  | x :: r, first, p, out => if edOk a.length first p x then apGo a r false (x.1 + x.2.1).toNat (out ++ (a.take x.1.toNat).drop p ++ x.2.2) else none
def apR (a : List ByteArray) (l : List (Int × Int × List ByteArray)) : Option (List ByteArray) := apGo a l true 0 []

section
variable {w0 w : World} {L : List Bl} {M : List Mf} {ops : Array Oper} {rest : List Oper} {o : Oper} {a : Act} {Q : Exit → Act → World → Prop} {K : Act → World → Prop}
/-- append of lines onto lines of the call's own. -/
theorem wp_strs_rw (s x : Operand) (t : TypeId) (ho : o.op = .call { callee := .builtin .append, args := #[s, x], argTypes := #[t, t] }) (ht : Try.prog.underlying t = some (.slice 9))
    (v : Value) (hs : a.eval s = v) (l : List ByteArray) (R : Rw w0 w L M 9 1 v l.length (scs l)) (A : Option Addr) (k c : Nat) (m : List ByteArray) (hx : a.eval x = .slice A k c) (hk : k = m.length) (hsl : SlS w.heap.size w A m)
    (hl : l.length + m.length ≤ 8000000000000)
    (h : ∀ v' w', Rw w0 w' L M 9 1 v' (l ++ m).length (scs (l ++ m)) → K (a.put o.dst v') w') : o.wp Try.prog a w K Q := by
  obtain ⟨L', S, own, hL⟩ := R
  subst hk
  refine wp_append_sl s x t ho w0.heap.size 9 _ 1 16 ht Try.info_str rfl (by decide) v l.length (scs l) hs own A m.length c 9 w.heap.size _ hx hsl.one (fun _ => rfl) (by simp only [maxLen]; omega) (by omega) S.below.size ?_
  intro v' w' own' hgr hv
  rw [scs_range, scs_append, ← List.length_append] at own'
  obtain ⟨L'', S', hL'⟩ := S.row hL hgr own' hv
  exact h v' w' ⟨L'', S', own', hL'⟩
theorem step_strs_rw {X : Prop} (hg : o.guard = none) (s x : Operand) (t : TypeId) (ho : o.op = .call { callee := .builtin .append, args := #[s, x], argTypes := #[t, t] }) (ht : Try.prog.underlying t = some (.slice 9))
    (v : Value) (hs : a.eval s = v) (l : List ByteArray) (R : Rw w0 w L M 9 1 v l.length (scs l)) (A : Option Addr) (k c : Nat) (m : List ByteArray) (hx : a.eval x = .slice A k c) (hk : k = m.length) (hsl : SlS w.heap.size w A m)
    (hl : l.length + m.length ≤ 8000000000000)
    (h : ∀ v' w', Rw w0 w' L M 9 1 v' (l ++ m).length (scs (l ++ m)) → K (a.put o.dst v') w') : if Region.wanted o (yielded ops a.tmps) = true then Oper.wp Try.prog o a w K Q else X := by
  rw [if_pos (by simp [Region.wanted, hg])]
  exact wp_strs_rw s x t ho ht v hs l R A k c m hx hk hsl hl h
theorem wpList_strs_rw (hg : o.guard = none) (s x : Operand) (t : TypeId) (ho : o.op = .call { callee := .builtin .append, args := #[s, x], argTypes := #[t, t] }) (ht : Try.prog.underlying t = some (.slice 9))
    (v : Value) (hs : a.eval s = v) (l : List ByteArray) (R : Rw w0 w L M 9 1 v l.length (scs l)) (A : Option Addr) (k c : Nat) (m : List ByteArray) (hx : a.eval x = .slice A k c) (hk : k = m.length) (hsl : SlS w.heap.size w A m)
    (hl : l.length + m.length ≤ 8000000000000)
    (h : ∀ v' w', Rw w0 w' L M 9 1 v' (l ++ m).length (scs (l ++ m)) → wpList Try.prog ops Q rest (a.put o.dst v') w') : wpList Try.prog ops Q (o :: rest) a w :=
  wpList_plain hg fun _ hK => wp_strs_rw s x t ho ht v hs l R A k c m hx hk hsl hl fun v' w' R' => hK _ _ (h v' w' R')
end
/-- What diff.Apply hands back. -/
def Dapp (r : Option (List ByteArray)) (w : World) (e : Ending) (w' : World) : Prop :=
  ∃ D k, e = .returned (.tuple #[.slice D (r.getD []).length k, .bool r.isSome]) ∧ (r.getD []).length ≤ k ∧ k ≤ 9223372036854775807 ∧ Frs w.heap.size (LnX D (r.getD [])) w' ∧ Below w.heap.size w w'
theorem LnX.nil_frs (lo : Nat) (A : Option Addr) (w : World) : Frs lo (LnX A []) w := ⟨_, dep_sl A 0 _, fun d hd => absurd hd.1 (by simp), by simp, fun h => absurd h (by simp)⟩
theorem edOk_false (n : Nat) (first : Bool) (p : Nat) (x : Int × Int × List ByteArray) (h : edOk n first p x = false) :
    x.1 < p ∨ (¬ x.1 < p ∧ first = false ∧ x.1 = p) ∨ (¬ x.1 < p ∧ (first = true ∨ (first = false ∧ x.1 ≠ p)) ∧ (n : Int) < x.1) ∨ (¬ x.1 < p ∧ (first = true ∨ (first = false ∧ x.1 ≠ p)) ∧ x.1 ≤ n ∧ x.2.1 < 0) ∨
      (¬ x.1 < p ∧ (first = true ∨ (first = false ∧ x.1 ≠ p)) ∧ x.1 ≤ n ∧ 0 ≤ x.2.1 ∧ (n : Int) - x.1 < x.2.1) := by
  unfold edOk at h
  cases first <;> simp at h ⊢ <;> omega
theorem edOk_true (n : Nat) (first : Bool) (p : Nat) (x : Int × Int × List ByteArray) (h : edOk n first p x = true) :
    (first = true ∨ (first = false ∧ x.1 ≠ p)) ∧ (p : Int) ≤ x.1 ∧ x.1 ≤ n ∧ 0 ≤ x.2.1 ∧ x.1 + x.2.1 ≤ n := by
  unfold edOk at h
  cases first <;> simp at h ⊢ <;> omega
set_option maxHeartbeats 4000000 in
theorem dapply_any (xs : List ByteArray) (l : List EdA) (A C : Option Addr) (c k : Nat) (w : World) (hA : SlS w.heap.size w A xs) (hC : EdL C l w) (hn : xs.length ≤ 100000) (hm : l.length ≤ 100000) (hs : ∀ e ∈ l, e.2.2.2.2.length ≤ 1000000) (hc : xs.length ≤ c) (hc2 : c ≤ 9223372036854775807)
    (r : Option (List ByteArray)) (hr : apR xs (eds l) = r) :
    Calls Try.prog 17 #[.slice A xs.length c, .slice C l.length k] w (Dapp r w) := by
  have HS := Kp.mk hs
  have S := (Sm.start w).argL hA
  have R0 := Rw.start S 9 1
  have HR := Kp.mk hr
  have HC := Kp.mk hC
  clear hs hr S
  go_enter Try.func17, Try.ntmps17
  go_wp2
  go_step3
  go_wp2
  go_step3
  go_wp2
  go_loopw [6, 7, 8, 13] (fun vo vp vf vi wr => ∃ (n p : Nat) (out : List ByteArray), vi = .int .i64 n ∧ n ≤ l.length ∧ vp = .int .i64 p ∧ p ≤ xs.length ∧ vf = .bool true ∧ out.length ≤ n * 1100000 ∧ Kp (apGo xs ((eds l).drop n) (decide (n = 0)) p out = r) ∧
    Rw w wr [] [(0, LnX A xs)] 9 1 vo out.length (scs out)) (fun _ _ _ vi _ => l.length - (intOf vi).toNat)
  case atStart => exact ⟨0, 0, [], rfl, Nat.zero_le _, rfl, Nat.zero_le _, rfl, by simp, ⟨by rw [← HR.out]; rfl⟩, R0⟩
  case round =>
    obtain ⟨n, p, out, rfl, h1, rfl, h2, rfl, h3, he, R⟩ := hrel
    by_cases hlt : n < l.length
    · obtain ⟨g, o, rfl, hg, hcell⟩ := hC.at_ (by omega)
      obtain ⟨c0, c1, c2⟩ := hcell n hlt
      have hnew := hC.2 _ (List.getElem_mem hlt)
      have hsz := HS.out _ (List.getElem_mem hlt)
      have hget : (eds l)[n]? = some (l[n].1, l[n].2.1, l[n].2.2.2.2) := by simp [eds, List.getElem?_eq_getElem hlt]
      obtain ⟨x, ex⟩ : ∃ x, l[n] = x := ⟨_, rfl⟩
      obtain ⟨x0, x1, xa, xc, ys⟩ := x
      rw [ex] at c0 c1 c2 hnew hsz hget
      simp only [] at c0 c1 c2 hnew hsz hget
      have hB := R.sm.below
      have d0 := (hB.cell (p := ⟨g, o + n * 3, none⟩) hg).trans c0
      have d1 := (hB.cell (p := ⟨g, o + n * 3 + 1, none⟩) hg).trans c1
      have d2 := (hB.cell (p := ⟨g, o + n * 3 + 2, none⟩) hg).trans c2
      have he2 := he.out
      have hlt2 : n < (eds l).length := by rw [eds_length]; exact hlt
      rw [List.drop_eq_getElem_cons hlt2, show (eds l)[n] = (x0, x1, ys) from by have := List.getElem?_eq_getElem hlt2; rw [hget] at this; injection this with this; exact this.symm] at he2
      simp only [apGo] at he2
      obtain ⟨b, hok⟩ : ∃ b, edOk xs.length (decide (n = 0)) p (x0, x1, ys) = b := ⟨_, rfl⟩
      rw [hok] at he2
      have HE := Kp.mk he2
      have HN := Kp.mk hnew
      clear hcell c0 c1 c2 hget ex he he2 hnew hlt2
      cases b with
      | false =>
        obtain rfl : r = none := by have := HE.out; simpa using this.symm
        have hf := edOk_false _ _ _ _ hok
        simp only [decide_eq_true_eq, decide_eq_false_iff_not] at hf
        have hf2 : x0 < (p : Int) ∨ ((p : Int) ≤ x0 ∧ (0 : Int) < (n : Int) ∧ x0 = p) ∨ ((p : Int) ≤ x0 ∧ ¬ (0 : Int) < (n : Int) ∧ (xs.length : Int) < x0) ∨ ((p : Int) ≤ x0 ∧ (0 : Int) < (n : Int) ∧ x0 ≠ p ∧ (xs.length : Int) < x0) ∨
            ((p : Int) ≤ x0 ∧ ¬ (0 : Int) < (n : Int) ∧ x0 ≤ (xs.length : Int) ∧ x1 < 0) ∨ ((p : Int) ≤ x0 ∧ (0 : Int) < (n : Int) ∧ x0 ≠ p ∧ x0 ≤ (xs.length : Int) ∧ x1 < 0) ∨
            ((p : Int) ≤ x0 ∧ ¬ (0 : Int) < (n : Int) ∧ x0 ≤ (xs.length : Int) ∧ 0 ≤ x1 ∧ (xs.length : Int) - x0 < x1) ∨ ((p : Int) ≤ x0 ∧ (0 : Int) < (n : Int) ∧ x0 ≠ p ∧ x0 ≤ (xs.length : Int) ∧ 0 ≤ x1 ∧ (xs.length : Int) - x0 < x1) := by omega
        clear hf hok HE
        rcases hf2 with f1 | ⟨f1, f2, f3⟩ | ⟨f1, f2, f3⟩ | ⟨f1, f2, f3, f4⟩ | ⟨f1, f2, f3, f4⟩ | ⟨f1, f2, f3, f4, f5⟩ | ⟨f1, f2, f3, f4, f5⟩ | ⟨f1, f2, f3, f4, f5, f6⟩
        all_goals
          try (have f3b : (x0 == (p : Int)) = false := beq_eq_false_iff_ne.2 f3)
          go_wp2
          try rw [Exit.noGoto_ret]
          go_ret2
          exact ⟨none, 0, rfl, Nat.le_refl _, by omega, LnX.nil_frs _ _ _, R.sm.below.alloc R.sm.below.size _⟩
      | true =>
        obtain ⟨f0, f1, f2, f3, f4⟩ := edOk_true _ _ _ _ hok
        simp only [decide_eq_true_eq, decide_eq_false_iff_not] at f0 f1 f2 f3 f4
        obtain ⟨q, rfl⟩ : ∃ q : Nat, x0 = q := ⟨x0.toNat, by omega⟩
        obtain ⟨m, rfl⟩ : ∃ m : Nat, x1 = m := ⟨x1.toNat, by omega⟩
        have f0b : ¬ (0 : Int) < (n : Int) ∨ ((0 : Int) < (n : Int) ∧ (q : Int) ≠ p) := by omega
        have he3 := HE.out
        simp only [if_true] at he3
        have e1 : ((q : Int) + (m : Int)).toNat = q + m := by omega
        rw [e1, Int.toNat_natCast] at he3
        have HE3 := Kp.mk he3
        have HE4 : Kp (decide (n + 1 = 0) = false) := ⟨by simp⟩
        clear f0 hok HE he3 e1
        have b1 : (0 : Int) ≤ (p : Int) := by omega
        have b2 : (p : Int) ≤ (q : Int) := by omega
        have b3 : (q : Int) ≤ (c : Int) := by omega
        have hqx : q ≤ xs.length := by omega
        have hlen : ((xs.take q).drop p).length = q - p := by rw [List.length_drop, List.length_take]; omega
        obtain ⟨zs, hzs⟩ : ∃ zs, (xs.take q).drop p = zs := ⟨_, rfl⟩
        obtain ⟨S1, g1⟩ : ∃ S, (if c = p then A else A.map (fun x => x.add p)) = S := ⟨_, rfl⟩
        have hsl : ∀ W, Below w.heap.size w W → SlS W.heap.size W S1 zs := fun W hW => by
          have h1 := ((hA.later hW).take hqx).cut (k := p) (c := c) (by rw [List.length_take]; omega) (by rw [List.length_take]; omega)
          rw [g1, hzs] at h1
          exact h1
        rw [hzs] at hlen
        rw [hzs] at HE3
        have HSL := Kp.mk hsl
        have HLEN := Kp.mk hlen
        clear hsl hlen hzs
        rcases f0b with f5 | ⟨f5, f6⟩
        all_goals
          try (have f6b : ((q : Int) == (p : Int)) = false := beq_eq_false_iff_ne.2 f6)
          go_wp2
          have R1 := R.new 35 #[.int .i64 q, .int .i64 m, .slice xa ys.length xc]
          obtain ⟨w1, hw1⟩ : ∃ w1, wr.alloc (.cells #[.int .i64 q, .int .i64 m, .slice xa ys.length xc] 35) = w1 := ⟨_, rfl⟩
          rw [hw1] at R1 ⊢
          obtain ⟨gx, hgx⟩ : ∃ gx, wr.heap.size = gx := ⟨_, rfl⟩
          rw [hgx] at R1 ⊢
          have t0 : w1.cell? ⟨gx, 0, none⟩ = some (.int .i64 q) := R1.sm.cell ix0 0
          have t2 : w1.cell? ⟨gx, 2, none⟩ = some (.slice xa ys.length xc) := R1.sm.cell ix0 2
          clear hw1 hgx d0 d1 d2
          have T1 : True := trivial
          go_region_held3 (fun w' => w'.cell? ⟨gx, 0, none⟩ = some (.int .i64 q) ∧ w'.cell? ⟨gx, 2, none⟩ = some (.slice xa ys.length xc)) (first | exact ⟨by assumption, by assumption⟩ | go_keep)
            (first
              | (have _t := T1; refine step_strs_rw rfl _ _ _ (by rfl) Try.underlying22 _ (by rfl) out R1.drew S1 (q - p) (c - p) zs (by rfl) HLEN.out.symm (HSL.out _ R1.drew.sm.below) (by rw [HLEN.out]; omega) ?_; intro v2 w2 R2; clear T1 _t
                 have t3 : w2.cell? ⟨gx, 0, none⟩ = some (.int .i64 q) := R2.sm.cell ix0 0; have t5 : w2.cell? ⟨gx, 2, none⟩ = some (.slice xa ys.length xc) := R2.sm.cell ix0 2)
              | (refine step_strs_rw rfl _ _ _ (by rfl) Try.underlying22 _ (by rfl) (out ++ zs) R2 xa ys.length xc ys (by rfl) rfl (HN.out.ln.later R2.sm.below) (by rw [List.length_append, HLEN.out]; omega) ?_; intro v3 w3 R3
                 have t6 : w3.cell? ⟨gx, 0, none⟩ = some (.int .i64 q) := R3.sm.cell ix0 0; have t7 : w3.cell? ⟨gx, 1, none⟩ = some (.int .i64 m) := R3.sm.cell ix0 1; have t8 : w3.cell? ⟨gx, 2, none⟩ = some (.slice xa ys.length xc) := R3.sm.cell ix0 2))
          have v1 : IntKind.i64.wrap ((q : Int) + (m : Int)) = (q : Int) + (m : Int) := IntWalk.i64_in _ (by omega)
          clear t0 t2 t3 t5 t8
          go_wp2
          go_roundw
          case rel => exact ⟨n + 1, q + m, out ++ zs ++ ys, by go_num, by omega, by go_num, by omega, rfl, by rw [List.length_append, List.length_append, HLEN.out]; omega, ⟨by rw [HE4.out]; exact HE3.out⟩, R3.drop⟩
          case measure => simp [intOf]; omega
    · obtain rfl : n = l.length := by omega
      have he2 := he.out
      rw [List.drop_eq_nil_of_le (by rw [eds_length]; omega)] at he2
      simp only [apGo] at he2
      obtain rfl := he2
      obtain ⟨S1, g1⟩ : ∃ S, (if c = p then A else A.map (fun x => x.add p)) = S := ⟨_, rfl⟩
      have hsl := (hA.later R.sm.below).cut h2 hc
      rw [g1] at hsl
      have hlen : (xs.drop p).length = xs.length - p := List.length_drop
      have HL := Kp.mk hlen
      have HSL := Kp.mk hsl
      have b1 : (0 : Int) ≤ (p : Int) := by omega
      have b2 : (p : Int) ≤ (xs.length : Int) := by omega
      clear hlen hsl he
      go_wp2_with (at_builtin; refine wpList_strs_rw rfl _ _ _ rfl Try.underlying22 _ rfl out R S1 (xs.length - p) (c - p) (xs.drop p) rfl HL.out.symm HSL.out (by rw [HL.out]; omega) ?_; intro v2 w2 R2; obtain ⟨D, k2, rfl, q1, q2, hF⟩ := Frs.own_ln R2.own (by rw [List.length_append, HL.out]; omega); have HF := Kp.mk hF; clear hF)
      try rw [Exit.noGoto_ret]
      go_ret2
      exact ⟨D, k2, by simp, q1, q2, HF.out, R2.sm.below⟩
end Go.Proofs.Ytgbkbcdplcehmaa
