/- hunk.Of: the hunks that change a list into another one. -/
import Derived.Test.YtkggedmcdllnaaaNext
import Derived.Test.YtkggedmcdllnaaaHPl
namespace Go.Proofs.Ytkggedmcdllnaaa
open Go.RowKit

set_option maxRecDepth 100000 in
set_option maxHeartbeats 4000000 in
theorem of_any (xs ys : List ByteArray) (A B : Option Addr) (c d : Nat) (w : World) (hA : SlS w.heap.size w A xs) (hB : SlS w.heap.size w B ys) (hn : xs.length ≤ 1000) (hm : ys.length ≤ 1000) (hc : xs.length ≤ c) (hc2 : c ≤ 9223372036854775807) (hd : ys.length ≤ d) (hd2 : d ≤ 9223372036854775807) :
    Calls Try.prog 17 #[.slice A xs.length c, .slice B ys.length d] w fun e w' => ∃ C k l, e = .returned (.slice C l.length k) ∧ hds l = hunks xs ys ∧ l.length ≤ k ∧ k ≤ 9223372036854775807 ∧ Frs w.heap.size (HkL C l) w' ∧ Below w.heap.size w w' := by
  have S := ((Sm.start w).argL hA).argL hB
  clear hA hB
  go_enter Try.func17, Try.ntmps17
  go_wp2_with (first
    | (with_reducible show wpList _ _ _ ({ dst := _, op := .box _ _, type := _, pos := _, after := _, guard := none } :: _) _ _; refine wpList_sm_box rfl _ _ rfl #[.slice A xs.length c, .int .i64 0] rfl S ?_; clear S; intro gw w1 S)
    | (go_at_call 31; refine (edits_any xs ys A B c d _ (S.ln (.tail _ (.head _))) (S.ln (.head _)) (by omega) (by omega) hd hd2).mono ?_; rintro e w2 ⟨C1, k1, le, rfl, he, -, -, hF, hb⟩; replace S := S.made hb hF; have hle : le.length ≤ xs.length + 1 := (by rw [← eds_length, he]; exact edits_length _ _); have HE := Kp.mk he; clear hF hb he))
  have R := (Rw.start S 24 3).facts (M' := [(w.heap.size, HNews []), (w.heap.size, Olds []), (w.heap.size, EdL C1 le), (0, LnX B ys), (0, LnX A xs)]) fun _ S => (S.put ⟨fun _ => False, fun _ _ _ _ _ => fun _ h => by simp at h, fun _ h => h.elim, fun _ h => by simp at h⟩).put ⟨fun _ => False, fun _ _ _ _ _ => fun _ h => by simp at h, fun _ h => h.elim, fun _ h => by simp at h⟩
  clear S
  go_loopw [6, 17] (fun vl vk wr => ∃ (n : Nat) (b : Int) (l : List HkA), vk = .int .i64 n ∧ n ≤ le.length ∧ -(100000 * (n : Int)) ≤ b ∧ b ≤ 100000 * (n : Int) ∧ l.length ≤ n ∧ Kp (hds l ++ hFrom xs b ((eds le).drop n) = hunks xs ys) ∧
      Rw w wr [(gw, 48, #[.slice A xs.length c, .int .i64 b])] [(w.heap.size, HNews l), (w.heap.size, Olds l), (w.heap.size, EdL C1 le), (0, LnX B ys), (0, LnX A xs)] 24 3 vl l.length (hcs l)) (fun _ vk _ => le.length - (intOf vk).toNat)
  case atStart => exact ⟨0, 0, [], rfl, Nat.zero_le _, by omega, by omega, Nat.le_refl _, ⟨by rw [HE.out]; rfl⟩, R⟩
  case round =>
    obtain ⟨n, b, l, rfl, h1, h2, h3, h4, HK, R⟩ := hrel
    by_cases hlt : n < le.length
    · obtain ⟨g, o, rfl, hg, hcc⟩ := EdL.at_ (R.sm.get (.tail _ (.tail _ (.head _)))) (by omega)
      obtain ⟨c0, c1, c2⟩ := hcc n hlt
      obtain ⟨f0, f1, f2, f3, f4⟩ := eds_get HE.out n hlt
      have hdr := drop_eds le n hlt
      have hmem : le[n] ∈ le := List.getElem_mem hlt
      obtain ⟨x, ex⟩ : ∃ x, le[n] = x := ⟨_, rfl⟩
      obtain ⟨x0, x1, xa, xc, us⟩ := x
      rw [ex] at c0 c1 c2 f0 f1 f2 f3 f4 hdr hmem
      simp only [] at c0 c1 c2 f0 f1 f2 f3 f4 hdr
      obtain ⟨p, rfl⟩ : ∃ p : Nat, x0 = p := ⟨x0.toNat, by omega⟩
      obtain ⟨m, rfl⟩ : ∃ m : Nat, x1 = m := ⟨x1.toNat, by omega⟩
      have b1 : (0 : Int) ≤ (n : Int) := by omega
      have b2 : (n : Int) < (le.length : Int) := by omega
      have HD := Kp.mk hdr
      have HM := Kp.mk hmem
      obtain ⟨zs, hzs⟩ : ∃ zs, (xs.take (p + m)).drop p = zs := ⟨_, rfl⟩
      have hlen : zs.length = m := by rw [← hzs, List.length_drop, List.length_take]; omega
      have HL := Kp.mk hlen
      have HZ := Kp.mk hzs
      clear hcc ex hdr hmem hlen hzs
      have R1 := R.new 52 #[.int .i64 p, .int .i64 m, .slice xa us.length xc]
      go_wp2_with (first
        | (go_at_call 30; obtain ⟨L', S1, own, hL⟩ := R1; refine (next_any w _ gw A xs c b L' _ (S1.drop 1) 0 (.tail _ (.tail _ (.tail _ (.tail _ (.head _))))) p m xa xc us (fun W hW => (hW (w.heap.size, EdL (some ⟨g, o, none⟩) le) (.tail _ (.tail _ (.head _)))).2 _ HM.out) (by omega) hc hc2 (by omega) (by omega) (by omega) (by omega)).mono ?_; rintro e w5 ⟨A1, c1', A2, c2', rfl, S5⟩; rw [HZ.out] at S5; have R5 := Rw.back (L1 := [_]) S1 own hL S5; clear S1 own hL S5)
        | (at_builtin; refine wpList_hk_append rfl _ _ _ rfl Try.underlying36 _ rfl l (R5.call ((Below.refl _ _).alloc (Nat.le_refl _) _)) ⟨w5.heap.size, 0, none⟩ 1 rfl ((p : Int) + b, (A1, c1', zs), (A2, c2', us)) (by rw [HL.out]; exact cells3_new _ _ _ _ _) (by omega) ?_; intro v6 w6 R6))
      have R7 := R6.facts (fun _ S => S.addHk (e := ((p : Int) + b, (A1, c1', zs), (A2, c2', us))))
      go_roundw
      case rel => exact ⟨n + 1, b + ((us.length : Int) - (m : Int)), _, by go_num, by omega, by omega, by omega, by rw [List.length_append]; simp; omega, ⟨by
        rw [← HK.out, HD.out, hds_snoc, List.append_assoc]
        simp only [hFrom, List.singleton_append]
        have q1 : ((p : Int) + (m : Int)).toNat = p + m := by omega
        rw [q1, Int.toNat_natCast, HZ.out]⟩, R7⟩
      case measure => simp [intOf]; omega
    · obtain rfl : n = le.length := by omega
      have hk := HK.out
      rw [List.drop_eq_nil_of_le (by rw [eds_length]; omega)] at hk
      simp only [hFrom, List.append_nil] at hk
      have HB := Kp.mk hk
      obtain ⟨C5, k5, rfl, q1, q2, hF⟩ := Frs.of_own R.own (by rw [hcs_length]; omega)
      have HF := Kp.mk hF
      clear hk hF
      go_wp2
      go_ret
      exact ⟨C5, k5, l, rfl, HB.out, q1, q2, HF.out.and ((R.sm.frs (.tail _ (.head _))).and (R.sm.frs (.head _))), R.sm.below⟩
end Go.Proofs.Ytkggedmcdllnaaa
