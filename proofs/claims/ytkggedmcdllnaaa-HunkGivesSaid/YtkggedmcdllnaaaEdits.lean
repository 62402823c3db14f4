/- diff.Edits: what changes one list into another one. -/
import Derived.Test.YtkggedmcdllnaaaUpto
import Derived.Test.YtkggedmcdllnaaaEdPl
import Derived.Test.YtkggedmcdllnaaaLcsP
namespace Go.Proofs.Ytkggedmcdllnaaa
open Go.RowKit

theorem upto_any (w0 w : World) (gj gi gl gb : Nat) (i j : Nat) (v : Value) (l : List EdA) (ys : List ByteArray) (B : Option Addr) (d : Nat) (M : List Mf)
    (R : Rw w0 w (upBl gj gi gl gb j i v B ys.length d) ((w0.heap.size, News l) :: M) 52 3 v l.length (ecs l))
    (p q : Nat) (h1 : i ≤ p) (h2 : j ≤ q) (h3 : q ≤ ys.length) (h4 : ys.length ≤ d) (h5 : d ≤ 9223372036854775807) (h6 : p ≤ 100000) (h7 : ys.length ≤ 100000) (hl : l.length ≤ 1000000) (lo : Nat) (hB : (lo, LnX B ys) ∈ M) :
    Calls Try.prog 39 #[.int .i64 p, .int .i64 q, .pointer (some ⟨gi, 0, none⟩), .pointer (some ⟨gj, 0, none⟩), .pointer (some ⟨gl, 0, none⟩), .pointer (some ⟨gb, 0, none⟩)] w (UptoPost w0 gj gi gl gb ys B d l M i j p q) := by
  by_cases h : i < p ∨ j < q
  · exact upto_yes w0 w gj gi gl gb i j v l ys B d M R p q h h1 h2 h3 h4 h5 h6 h7 hl lo hB
  · obtain rfl : p = i := by omega
    obtain rfl : q = j := by omega
    exact upto_no w0 w gj gi gl gb _ _ v l ys B d M R (by omega) (by omega)
/-- A list of edits in memory. -/
def EdL (C : Option Addr) (l : List EdA) (w : World) : Prop := SlX C (ecs l).length (fun j => (ecs l).getD j undef) w ∧ News l w
/-- The pairs in memory. -/
def PrX (C : Option Addr) (l : List (Nat × Nat)) (w : World) : Prop := SlX C (pcs l).length (fun j => (pcs l).getD j undef) w
theorem pairs_frs (xs ys : List ByteArray) (A B : Option Addr) (c d : Nat) (w : World) (hA : SlS w.heap.size w A xs) (hB : SlS w.heap.size w B ys) (hn : xs.length ≤ 100000) (hm : ys.length ≤ 100000) :
    Calls Try.prog 40 #[.slice A xs.length c, .slice B ys.length d] w fun e w' => ∃ C k, e = .returned (.slice C (Qm.pairs xs ys 0 0).length k) ∧
      Frs w.heap.size (PrX C (Qm.pairs xs ys 0 0)) w' ∧ Below w.heap.size w w' :=
  (callsIn_wide.1 (pairs_in xs ys A B c d w hA hB hn hm)).mono fun e w' ⟨v, he, hown, hb⟩ => by
    have hN : (Qm.pairs xs ys 0 0).length ≤ 100000 := Nat.le_trans (Qm.pairs_le_left xs ys 0 0) (by omega)
    obtain ⟨C, k, rfl, _, _, hsl⟩ := Frs.of_own hown (by rw [pcs_length]; omega)
    exact ⟨C, k, he, hsl, hb⟩
theorem PrX.at_ {C : Option Addr} {l : List (Nat × Nat)} {w : World} (h : PrX C l w) (hn : 0 < l.length) :
    ∃ g o, C = some ⟨g, o, none⟩ ∧ g < w.heap.size ∧ ∀ k (hk : k < l.length), w.cell? ⟨g, o + k * 2, none⟩ = some (.int .i64 l[k].1) ∧ w.cell? ⟨g, o + k * 2 + 1, none⟩ = some (.int .i64 l[k].2) :=
  SlP.at_ (B := w.heap.size) (SlX.sl h) hn

set_option maxHeartbeats 2000000 in
theorem edits_any (xs ys : List ByteArray) (A B : Option Addr) (c d : Nat) (w : World) (hA : SlS w.heap.size w A xs) (hB : SlS w.heap.size w B ys) (hn : xs.length ≤ 100000) (hm : ys.length ≤ 100000) (hd : ys.length ≤ d) (hd2 : d ≤ 9223372036854775807) :
    Calls Try.prog 31 #[.slice A xs.length c, .slice B ys.length d] w fun e w' => ∃ C k l, e = .returned (.slice C l.length k) ∧ eds l = edits xs ys ∧ l.length ≤ k ∧ k ≤ 9223372036854775807 ∧ Frs w.heap.size (EdL C l) w' ∧ Below w.heap.size w w' := by
  have S := ((Sm.start w).argL hA).argL hB
  have z1 : (Try.prog.info? 3).map (·.zero) = some (some (.int .i64 0)) := by kernel_rfl
  have z2 : (Try.prog.info? 49).map (·.zero) = some (some (.slice none 0 0)) := by kernel_rfl
  have z3 : (Try.prog.info? 3).map (·.size) = some 1 := by kernel_rfl
  have Z1 := Kp.mk z1
  have Z2 := Kp.mk z2
  have Z3 := Kp.mk z3
  have hris := Kp.mk (ris_pairs xs ys)
  have hN := Qm.pairs_le_left xs ys 0 0
  obtain ⟨ps, hps⟩ : ∃ ps, Qm.pairs xs ys 0 0 = ps := ⟨_, rfl⟩
  have HP := Kp.mk hps
  rw [hps] at hris hN
  clear z1 z2 z3 hA hB hps
  have TI : True := trivial
  go_enter Try.func31, Try.ntmps31
  go_wp2_with (first
    | (with_reducible show wpList _ _ _ ({ dst := _, op := .box _ _, type := _, pos := _, after := _, guard := none } :: _) _ _; refine wpList_sm_box rfl _ _ rfl #[.slice B ys.length d] rfl S ?_; clear S; intro gb w1 S)
    | (with_reducible show wpList _ _ _ ({ dst := _, op := .alloc 3, type := _, pos := _, after := _, guard := none } :: _) _ _; refine wpList_sm_alloc rfl _ rfl (.int .i64 0) Z1.out #[.int .i64 0] rfl S ?_; clear S; first | (have _t := TI; clear TI _t; intro gi w1 S) | intro gj w1 S)
    | (with_reducible show wpList _ _ _ ({ dst := _, op := .alloc 49, type := _, pos := _, after := _, guard := none } :: _) _ _; refine wpList_sm_alloc rfl _ rfl (.slice none 0 0) Z2.out #[.slice none 0 0] rfl S ?_; clear S; intro gl w1 S)
    | (with_reducible show wpList _ _ _ ({ dst := _, op := .store _ _ _, type := _, pos := _, after := _, guard := none } :: _) _ _; refine wpList_sm_storec rfl _ _ _ rfl _ _ rfl S _ _ _ (by first | exact ix0 | exact ix1) (.int .i64 0) rfl Z3.out (by decide) rfl ?_; clear S; intro w1 S; simp only [List.set_cons_zero, List.set_cons_succ, List.setIfInBounds_toArray] at S)
    | (with_reducible show wpList _ _ _ ({ dst := _, op := .load _ _, type := _, pos := _, after := _, guard := none } :: _) _ _; refine wpList_sm_cell rfl _ _ rfl _ _ rfl S _ _ _ ix3 _ Try.underlying22 rfl _ rfl ?_)
    | (go_at_call 40; refine (pairs_frs xs ys A B c d _ (S.ln (.tail _ (.head _))) (S.ln (.head _)) hn hm).mono ?_; rintro e w2 ⟨C, k, rfl, hF, hb⟩; rw [HP.out] at hF ⊢; replace S := S.made hb hF; clear hb hF))
  have R := (Rw.start S 52 3).facts (M' := [(w.heap.size, News []), (w.heap.size, PrX C ps), (0, LnX B ys), (0, LnX A xs)]) fun _ S => S.put ⟨fun _ => False, fun _ _ _ _ _ => fun _ h => by simp at h, fun _ h => h.elim, fun _ h => by simp at h⟩
  go_loopw [16] (fun vk wr => ∃ (n i j : Nat) (v : Value) (l : List EdA), vk = .int .i64 n ∧ n ≤ ps.length ∧ i ≤ xs.length ∧ j ≤ ys.length ∧ l.length ≤ n ∧ Kp (eds l ++ edFrom ys (ps.drop n ++ [(xs.length, ys.length)]) i j = edits xs ys) ∧ Kp (Ris xs.length ys.length (ps.drop n) i j) ∧
      Rw w wr (upBl gj gi gl gb j i v B ys.length d) [(w.heap.size, News l), (w.heap.size, PrX C ps), (0, LnX B ys), (0, LnX A xs)] 52 3 v l.length (ecs l)) (fun vk _ => ps.length - (intOf vk).toNat)
  case atStart => exact ⟨0, 0, 0, _, [], rfl, Nat.zero_le _, Nat.zero_le _, Nat.zero_le _, Nat.le_refl _, ⟨by rw [← HP.out]; rfl⟩, hris, R⟩
  case round =>
    obtain ⟨n, i, j, v, l, rfl, h1, h2, h3, h4, he, hr, R⟩ := hrel
    by_cases hlt : n < ps.length
    · obtain ⟨g, o, rfl, hg, hc⟩ := PrX.at_ (R.sm.get (.tail _ (.head _))) (by omega)
      obtain ⟨hc0, hc1⟩ := hc n hlt
      obtain ⟨x, hx⟩ : ∃ x, ps[n] = x := ⟨_, rfl⟩
      obtain ⟨p, q⟩ := x
      rw [hx] at hc0 hc1
      have hdrop : ps.drop n = (p, q) :: ps.drop (n + 1) := by rw [List.drop_eq_getElem_cons hlt, hx]
      have he2 := he.out
      have hr2 := hr.out
      rw [hdrop] at he2 hr2
      obtain ⟨r1, r2, r3, r4, hr3⟩ := hr2
      simp only [List.cons_append, edFrom] at he2
      have HE := Kp.mk he2
      have HR := Kp.mk hr3
      clear hc hx hdrop he2 hr3 he hr
      go_wp2_with (go_at_call 39; refine (upto_any w _ gj gi gl gb i j v l ys B d _ (R.call ((Below.refl _ wr).alloc (Nat.le_refl _) _)) p q r1 r2 (by omega) hd hd2 (by omega) hm (by omega) 0 (.tail _ (.head _))).mono ?_; rintro e w5 ⟨v5, l5, rfl, he5, R5⟩; have HE5 := Kp.mk he5; clear he5)
      have hl5 := congrArg List.length HE5.out
      rw [List.length_append, eds_length, eds_length] at hl5
      have hst := edStep_le ys i j p q
      go_roundw
      case rel => exact ⟨n + 1, p + 1, q + 1, v5, l5, by go_num, by omega, by omega, by omega, by omega, ⟨by rw [HE5.out, ← HE.out, List.append_assoc]⟩, HR, R5⟩
      case measure => simp [intOf]; omega
    · obtain rfl : n = ps.length := by omega
      have he2 := he.out
      rw [List.drop_length] at he2
      simp only [List.nil_append, edFrom, List.append_nil] at he2
      have HE := Kp.mk he2
      have c3 := R.sm.c1 ix3
      clear he he2
      go_wp2_with (go_at_call 39; refine (upto_any w _ gj gi gl gb i j v l ys B d _ R xs.length ys.length h2 h3 (Nat.le_refl _) hd hd2 hn hm (by omega) 0 (.tail _ (.head _))).mono ?_; rintro e w5 ⟨v5, l5, rfl, he5, R5⟩; have HE5 := Kp.mk he5; clear he5; have hl5 := congrArg List.length HE5.out; rw [List.length_append, eds_length, eds_length] at hl5; have hst := edStep_le ys i j xs.length ys.length; have hl6 : l5.length ≤ l.length + 1 := (by omega); clear hl5 hst; obtain ⟨C5, k5, rfl, q1, q2, hF⟩ := Frs.of_own R5.own (by rw [ecs_length]; omega); have c5 := R5.sm.c1 ix2; have HF := Kp.mk hF; clear hF)
      go_ret
      exact ⟨C5, k5, l5, rfl, by rw [HE5.out, HE.out], q1, q2, HF.out.and (R5.sm.frs (.head _)), R5.sm.below⟩
end Go.Proofs.Ytkggedmcdllnaaa
