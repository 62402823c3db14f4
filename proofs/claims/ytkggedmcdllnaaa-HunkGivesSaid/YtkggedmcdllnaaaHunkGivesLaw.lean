/- HunkGives: hunks of two lists, one behind the other, change the first one into the second one; turned, from the last one on, back: the walk of the law. -/
import Derived.Test.YtkggedmcdllnaaaAwake5
import Derived.Test.YtkggedmcdllnaaaGivesPl
import Derived.Test.YtkggedmcdllnaaaGivesW
namespace Go.Proofs.Ytkggedmcdllnaaa
open Go.RowKit

set_option maxRecDepth 100000 in
set_option maxHeartbeats 4000000 in
theorem hunkGives_any (xs : List ByteArray) (A : Option Addr) (c : Nat) (ys : List ByteArray) (B : Option Addr) (d : Nat) (w : World)
    (_ : xs.length ≤ c) (_ : c ≤ 9223372036854775807) (hA : SlS w.heap.size w A xs) (sxs : ∀ x ∈ xs, x.size ≤ 9223372036854775807) (_ : ys.length ≤ d) (_ : d ≤ 9223372036854775807) (hB : SlS w.heap.size w B ys) (sys : ∀ x ∈ ys, x.size ≤ 9223372036854775807) :
    Calls Try.prog 4 #[.slice A xs.length c, .slice B ys.length d] w fun e w' => e = .returned (.bool true) ∧ Below w.heap.size w w' := by
  have S := ((Sm.start w).argL hA).argL hB
  obtain ⟨bxs, lxs⟩ : ∃ b, light xs 60 = b := ⟨_, rfl⟩
  have Lxs := Kp.mk lxs
  obtain ⟨bys, lys⟩ : ∃ b, light ys 60 = b := ⟨_, rfl⟩
  have Lys := Kp.mk lys
  obtain ⟨bkxs, lkxs⟩ : ∃ b, allOk xs = b := ⟨_, rfl⟩
  have Lkxs := Kp.mk lkxs
  obtain ⟨bkys, lkys⟩ : ∃ b, allOk ys = b := ⟨_, rfl⟩
  have Lkys := Kp.mk lkys
  have KX := Kp.mk sxs
  have KY := Kp.mk sys
  clear sxs sys
  clear hA hB
  by_cases hall : bxs = true ∧ bys = true ∧ bkxs = true ∧ bkys = true
  · obtain ⟨rfl, rfl, rfl, rfl⟩ := hall
    have nxs := light_len lxs
    clear lxs
    have nys := light_len lys
    clear lys
    clear lkxs
    clear lkys
    have HC := Kp.mk (chain0 Lkxs.out Lkys.out)
    go_enter Try.func4, Try.ntmps4
    go_wp2_with (first
      | (go_at_call 8; refine (awake5_any _).mono ?_; rintro e w1 ⟨rfl, hb⟩; replace S := S.call hb; clear hb)
      | (go_at_call_of 9 A; refine (light_any xs A _ 60 _ (S.ln me1)).mono ?_; rintro e w1 ⟨rfl, rfl⟩; rw [Lxs.out])
      | (go_at_call_of 9 B; refine (light_any ys B _ 60 _ (S.ln me0)).mono ?_; rintro e w1 ⟨rfl, rfl⟩; rw [Lys.out])
      | (go_at_call_of 16 A; refine (refAllL_any xs A _ _ _ rfl (S.ln me1) KX.out).mono ?_; rintro e w1 ⟨rfl, rfl⟩; rw [Lkxs.out])
      | (go_at_call_of 16 B; refine (refAllL_any ys B _ _ _ rfl (S.ln me0) KY.out).mono ?_; rintro e w1 ⟨rfl, rfl⟩; rw [Lkys.out])
      | (go_at_call 17; refine (of_any xs ys _ _ _ _ _ (S.ln me1) (S.ln me0) (by omega) (by omega) (by assumption) (by assumption) (by assumption) (by assumption)).mono ?_; rintro e w1 ⟨C1, k1, l1, rfl, he1, -, -, hF, hb⟩; replace S := S.made hb hF; have HE1 := Kp.mk he1; clear hF hb he1))
    have HC2 : Kp (okH (xs.length + ys.length) xs (hds l1) ∧ runH xs (hds l1) = ys) := ⟨by rw [HE1.out]; exact HC.out⟩
    have hn1 : l1.length ≤ xs.length + 1 := by have := congrArg List.length HE1.out; have h2 := edits_length xs ys; rw [hds_length] at this; unfold hunks at this; rw [hFrom_length] at this; omega
    clear HC HE1
    have S := S.facts (M' := [(0, LnX A xs), (w.heap.size, HkL C1 l1), (0, LnX B ys), (0, LnX A xs)]) fun m hm => by
      rcases List.mem_cons.1 hm with rfl | hm
      · exact me2
      · exact hm
    go_loopw [11, 12] (fun vm vi wr => ∃ (i : Nat) (m : List ByteArray) (D : Option Addr) (r : Nat), vi = .int .i64 i ∧ i ≤ l1.length ∧ vm = .slice D m.length r ∧ m.length ≤ r ∧ r ≤ 9223372036854775807 ∧ m.length ≤ xs.length + ys.length ∧ Kp (runH xs ((hds l1).take i) = m) ∧
      Sm w wr [] [(0, LnX D m), (w.heap.size, HkL C1 l1), (0, LnX B ys), (0, LnX A xs)]) (fun _ vi _ => l1.length - (intOf vi).toNat)
    case atStart => exact ⟨0, xs, A, c, rfl, Nat.zero_le _, rfl, by assumption, by assumption, Nat.le_add_right _ _, ⟨rfl⟩, S⟩
    case round =>
      clear S
      obtain ⟨i, m, D, r, rfl, hi, rfl, hr1, hr2, hml, HM, S⟩ := hrel
      by_cases hlt : i < l1.length
      · obtain ⟨g, o, rfl, hg, hcc⟩ := HkL.at_ (S.get me1) (by omega)
        obtain ⟨p, xa, xc, us, xb, xd, vs, m', c0, c1, c2, hx1, hx2, e1, e2, e3, e4, lu, lv, su, sv⟩ := gives_at HC2.out.1 hlt (hcc i hlt) (S.get me1)
        rw [HM.out] at e1 e2
        have HX1 := Kp.mk hx1
        have HX2 := Kp.mk hx2
        have HE := Kp.mk e1
        have HL := Kp.mk e2
        have HR := Kp.mk e3
        have SU := Kp.mk su
        have SV := Kp.mk sv
        have b1 : (0 : Int) ≤ (i : Int) := by omega
        have b2 : (i : Int) < (l1.length : Int) := by omega
        clear hcc hx1 hx2 e1 e2 e3 su sv
        go_wp2_with (go_at_call 14; refine (apply_any m p us vs D xa xb r xc xd 0 m' _ HE.out HL.out hr1 (S.ln me0) HX1.out.ln HX2.out.ln (by omega) (by omega) (by omega) SU.out SV.out).mono ?_; rintro e w1 ⟨F, r1, rfl, q1, q2, hF, hb⟩; replace S := ((S.call hb).and (LnX.of hF).frs0 (fun _ _ h => by simp at h)).facts (M' := [(0, LnX F m'), (w.heap.size, HkL (some ⟨g, o, none⟩) l1), (0, LnX B ys), (0, LnX A xs)]) (fun m hm => by rcases List.mem_cons.1 hm with rfl | hm; exact .head _; exact .tail _ (.tail _ hm)); clear hb hF)
        go_roundw
        case rel => exact ⟨i + 1, m', F, r1, by go_num, by omega, rfl, q1, q2, e4, HR, S⟩
        case measure => simp [intOf]; omega
      · obtain rfl : i = l1.length := by omega
        have hm := HM.out
        rw [List.take_of_length_le (by rw [hds_length]; exact Nat.le_refl _), HC2.out.2] at hm
        subst hm
        clear HM
        go_wp2_with (go_at_call 15; refine (same_at _ _ _ _ _ _ _ _ true _ rfl rfl (by simp) (S.ln me0) (S.ln me2) (by omega)).mono ?_; rintro e w1 ⟨rfl, hb⟩; replace S := S.call hb; clear hb)
        go_loopw [11, 16] (fun vm vi wr => ∃ (k : Nat) (m : List ByteArray) (D : Option Addr) (r : Nat), vi = .int .i64 ((k : Int) - 1) ∧ k ≤ l1.length ∧ vm = .slice D m.length r ∧ m.length ≤ r ∧ r ≤ 9223372036854775807 ∧ m.length ≤ xs.length + ys.length ∧ Kp (runH xs ((hds l1).take k) = m) ∧
          Sm w wr [] [(0, LnX D m), (w.heap.size, HkL C1 l1), (0, LnX B ys), (0, LnX A xs)]) (fun _ vi _ => (intOf vi + 1).toNat)
        case atStart => exact ⟨l1.length, ys, D, r, rfl, Nat.le_refl _, rfl, hr1, hr2, hml, ⟨by rw [List.take_of_length_le (by rw [hds_length]; exact Nat.le_refl _), HC2.out.2]⟩, S⟩
        case round =>
          clear S hr1 hr2 hml
          obtain ⟨k, m, D, r, rfl, hi, rfl, hr1, hr2, hml, HM, S⟩ := hrel
          by_cases hlt : 0 < k
          · obtain ⟨j, rfl⟩ : ∃ j, k = j + 1 := ⟨k - 1, by omega⟩
            rw [show (((j + 1 : Nat) : Int)) - 1 = (j : Int) from by omega]
            have hjl : j < l1.length := by omega
            obtain ⟨g, o, rfl, hg, hcc⟩ := HkL.at_ (S.get me1) (by omega)
            obtain ⟨p, xa, xc, us, xb, xd, vs, m', c0, c1, c2, hx1, hx2, e1, e2, e3, e4, lu, lv, su, sv⟩ := gives_at HC2.out.1 hjl (hcc j hjl) (S.get me1)
            rw [HM.out] at e3
            subst e3
            obtain ⟨m0, hm0⟩ : ∃ m0, runH xs ((hds l1).take j) = m0 := ⟨_, rfl⟩
            have e5 := (okH_at HC2.out.1 j (by rw [hds_length]; exact hjl)).1
            rw [hm0] at e1 e2 e5
            have hbk := ap_back e1
            rw [e2] at hbk
            have HX1 := Kp.mk hx1
            have HX2 := Kp.mk hx2
            have HE := Kp.mk hbk.1
            have HL := Kp.mk hbk.2
            have HR := Kp.mk hm0
            have SU := Kp.mk su
            have SV := Kp.mk sv
            have b1 : (0 : Int) ≤ (j : Int) := by omega
            have b2 : (j : Int) < (l1.length : Int) := by omega
            clear hcc hx1 hx2 e1 e2 hbk hm0 su sv
            go_wp2_with (first
              | (go_at_call 12; refine (turn_any p us vs xa xb _ _ _ _ _ rfl rfl HX1.out.ln HX2.out.ln (by omega) (by omega)).mono ?_; rintro e w1 ⟨C2, f1, D2, f2, rfl, -, -, -, -, t1, t2, hb⟩; replace S := S.call hb; have T1 := Kp.mk t1; have T2 := Kp.mk t2; clear hb t1 t2)
              | (go_at_call 14; refine (apply_any m p vs us D C2 D2 r f1 f2 0 m0 _ HE.out HL.out hr1 (S.ln me0) (T1.out.mono (Nat.zero_le _)) (T2.out.mono (Nat.zero_le _)) (by omega) (by omega) (by omega) SV.out SU.out).mono ?_; rintro e w1 ⟨F, r1, rfl, q1, q2, hF, hb⟩; replace S := ((S.call hb).and (LnX.of hF).frs0 (fun _ _ h => by simp at h)).facts (M' := [(0, LnX F m0), (w.heap.size, HkL (some ⟨g, o, none⟩) l1), (0, LnX B ys), (0, LnX A xs)]) (fun m hm => by rcases List.mem_cons.1 hm with rfl | hm; exact .head _; exact .tail _ (.tail _ hm)); clear hb hF))
            go_roundw
            case rel => exact ⟨j, m0, F, r1, rfl, by omega, rfl, q1, q2, e5, HR, S⟩
            case measure => simp [intOf]
          · obtain rfl : k = 0 := by omega
            rw [show (((0 : Nat) : Int)) - 1 = -1 from rfl]
            obtain rfl : m = xs := HM.out.symm
            clear HM
            go_wp2_with (go_at_call 15; refine (same_at _ _ _ _ _ _ _ _ true _ rfl rfl (by simp) (S.ln me0) (S.ln me3) (by omega)).mono ?_; rintro e w1 ⟨rfl, hb⟩; replace S := S.call hb; clear hb)
            go_ret
            exact ⟨rfl, S.below⟩
  · have hbb : (bxs = false) ∨ (bxs = true ∧ bys = false) ∨ (bxs = true ∧ bys = true ∧ bkxs = false) ∨ (bxs = true ∧ bys = true ∧ bkxs = true ∧ bkys = false) := by
      clear S lxs Lxs lys Lys lkxs Lkxs lkys Lkys
      cases bxs <;> cases bys <;> cases bkxs <;> cases bkys <;> simp_all
    clear hall lxs lys lkxs lkys
    rcases hbb with rfl | ⟨rfl, rfl⟩ | ⟨rfl, rfl, rfl⟩ | ⟨rfl, rfl, rfl, rfl⟩
    all_goals
      go_enter Try.func4, Try.ntmps4
      go_wp2_with (first
        | (go_at_call 8; refine (awake5_any _).mono ?_; rintro e w1 ⟨rfl, hb⟩; replace S := S.call hb; clear hb)
        | (go_at_call_of 9 A; refine (light_any xs A _ 60 _ (S.ln me1)).mono ?_; rintro e w1 ⟨rfl, rfl⟩; rw [Lxs.out])
        | (go_at_call_of 9 B; refine (light_any ys B _ 60 _ (S.ln me0)).mono ?_; rintro e w1 ⟨rfl, rfl⟩; rw [Lys.out])
        | (go_at_call_of 16 A; refine (refAllL_any xs A _ _ _ rfl (S.ln me1) KX.out).mono ?_; rintro e w1 ⟨rfl, rfl⟩; rw [Lkxs.out])
        | (go_at_call_of 16 B; refine (refAllL_any ys B _ _ _ rfl (S.ln me0) KY.out).mono ?_; rintro e w1 ⟨rfl, rfl⟩; rw [Lkys.out]))
      go_ret
      exact ⟨rfl, S.below⟩
end Go.Proofs.Ytkggedmcdllnaaa
