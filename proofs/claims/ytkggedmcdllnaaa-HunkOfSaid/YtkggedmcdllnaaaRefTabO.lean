/- quiltmakerref03.Table, Many: the document's table. -/
import Derived.Test.YtkggedmcdllnaaaLcsR
namespace Go.Proofs.Ytkggedmcdllnaaa
open Go.RowKit Go.Deep

/-- The rows, made one by one: i of them are there. -/
def TabM (xs ys : List ByteArray) (T : Nat) (i : Nat) (wr : World) : Prop :=
  wr.heap.size = T + 1 + i ∧ Row wr T 71 (xs.length + 1) (fun k => if k < i then .slice (some ⟨T + 1 + k, 0, none⟩) (ys.length + 1) (ys.length + 1) else .slice none 0 0) ∧
  ∀ k, k < i → Row wr (T + 1 + k) 3 (ys.length + 1) (fun _ => .int .i64 0)
theorem TabM.step {xs ys : List ByteArray} {T i : Nat} {wr : World} (h : TabM xs ys T i wr) :
    TabM xs ys T (i + 1) ((wr.setCell ⟨T, i, none⟩ (.slice (some ⟨wr.heap.size, 0, none⟩) (ys.length + 1) (ys.length + 1))).alloc (.cells (madeCells #[.int .i64 0] (ys.length + 1)) 3)) := by
  obtain ⟨h1, h2, h3⟩ := h
  obtain ⟨v, hv⟩ : ∃ v, v = Value.slice (some ⟨wr.heap.size, 0, none⟩) (ys.length + 1) (ys.length + 1) := ⟨_, rfl⟩
  rw [← hv]
  have hm := Row.made (wr.setCell ⟨T, i, none⟩ v) 3 (.int .i64 0) (ys.length + 1)
  have hz : (wr.setCell ⟨T, i, none⟩ v).heap.size = wr.heap.size := by simp [World.setCell]
  rw [hz, h1] at hm
  refine ⟨by rw [World.size_alloc, hz, h1]; omega, ?_, ?_⟩
  · refine ((h2.set i v).alloc _).congr fun k hk => ?_
    show (if k = i then v else if k < i then Value.slice (some ⟨T + 1 + k, 0, none⟩) (ys.length + 1) (ys.length + 1) else .slice none 0 0) = _
    by_cases e : k = i
    · subst e; rw [if_pos rfl, if_pos (by omega), hv, h1]
    · rw [if_neg e]
      by_cases h : k < i
      · rw [if_pos h, if_pos (by omega)]
      · rw [if_neg h, if_neg (by omega)]
  · intro k hk
    by_cases e : k = i
    · subst e; exact hm
    · exact ((h3 k (by omega)).far (p := ⟨T, i, none⟩) (by simp; omega) _).alloc _

/-- The table under the pen: behind row iv all is there; in row iv behind place jv. -/
def TabF (xs ys : List ByteArray) (T : Nat) (iv jv : Int) (wr : World) : Prop :=
  Row wr T 71 (xs.length + 1) (fun k => .slice (some ⟨T + 1 + k, 0, none⟩) (ys.length + 1) (ys.length + 1)) ∧
  ∀ k : Nat, k ≤ xs.length → Row wr (T + 1 + k) 3 (ys.length + 1) (fun j => .int .i64 (if iv < k ∨ (iv = k ∧ jv < j) then tab xs ys k j else 0))
theorem TabF.first {xs ys : List ByteArray} {T : Nat} {wr : World} (h : TabM xs ys T (xs.length + 1) wr) : TabF xs ys T ((xs.length : Int) - 1) ((ys.length : Int) - 1) wr := by
  obtain ⟨_, h2, h3⟩ := h
  refine ⟨h2.congr fun k hk => by rw [if_pos hk], fun k hk => (h3 k (by omega)).congr fun j hj => ?_⟩
  split
  · rename_i hc
    rcases hc with hc | ⟨_, hc⟩
    · rw [tab_end _ _ _ _ (by omega)]
    · rw [tab_right _ _ _ _ (by omega)]
  · rfl
theorem TabF.cell {xs ys : List ByteArray} {T i j : Nat} {wr : World} {v : Value} (h : TabF xs ys T i j wr) (hi : i ≤ xs.length) (hv : v = .int .i64 (tab xs ys i j)) :
    TabF xs ys T i ((j : Int) - 1) (wr.setCell ⟨T + 1 + i, j, none⟩ v) := by
  obtain ⟨h1, h2⟩ := h
  refine ⟨h1.far (p := ⟨T + 1 + i, j, none⟩) (by simp; omega) _, fun k hk => ?_⟩
  by_cases e : k = i
  · subst e
    refine ((h2 k hk).set j v).congr fun j' hj' => ?_
    show (if j' = j then v else Value.int .i64 (if (k : Int) < k ∨ ((k : Int) = k ∧ (j : Int) < j') then tab xs ys k j' else 0)) = Value.int .i64 (if (k : Int) < k ∨ ((k : Int) = k ∧ (j : Int) - 1 < j') then tab xs ys k j' else 0)
    by_cases e2 : j' = j
    · subst e2; rw [if_pos rfl, if_pos (.inr ⟨rfl, by omega⟩), hv]
    · rw [if_neg e2]
      by_cases h3 : (k : Int) < k ∨ ((k : Int) = k ∧ (j : Int) < j')
      · rw [if_pos h3, if_pos (by omega)]
      · rw [if_neg h3, if_neg (by omega)]
  · refine ((h2 k hk).far (p := ⟨T + 1 + i, j, none⟩) (by simp; omega) _).congr fun j' hj' => ?_
    have hki : (i : Int) ≠ k := by omega
    by_cases h3 : (i : Int) < k ∨ ((i : Int) = k ∧ (j : Int) < j')
    · rw [if_pos h3, if_pos (by omega)]
    · rw [if_neg h3, if_neg (by omega)]
theorem TabF.row {xs ys : List ByteArray} {T i : Nat} {jv : Int} {wr : World} (h : TabF xs ys T i jv wr) (hj : jv < 0) : TabF xs ys T ((i : Int) - 1) ((ys.length : Int) - 1) wr := by
  obtain ⟨h1, h2⟩ := h
  refine ⟨h1, fun k hk => (h2 k hk).congr fun j hj' => ?_⟩
  by_cases h3 : (i : Int) < k ∨ ((i : Int) = k ∧ jv < j)
  · rw [if_pos h3, if_pos (by omega)]
  · rw [if_neg h3]
    split
    · rw [tab_right _ _ _ _ (by omega)]
    · rfl
theorem TabF.drewN {xs ys : List ByteArray} {T : Nat} {iv jv : Int} {wr : World} (h : TabF xs ys T iv jv wr) (n : Nat) : TabF xs ys T iv jv (wr.drewN n) := h
theorem TabF.at_ {xs ys : List ByteArray} {T i j : Nat} {wr : World} (h : TabF xs ys T i j wr) (hi : i < xs.length) (hj : j < ys.length) :
    wr.cell? ⟨T, i, none⟩ = some (.slice (some ⟨T + 1 + i, 0, none⟩) (ys.length + 1) (ys.length + 1)) ∧ wr.cell? ⟨T, i + 1, none⟩ = some (.slice (some ⟨T + 1 + (i + 1), 0, none⟩) (ys.length + 1) (ys.length + 1)) ∧
    wr.cell? ⟨T + 1 + (i + 1), j + 1, none⟩ = some (.int .i64 (tab xs ys (i + 1) (j + 1))) ∧ wr.cell? ⟨T + 1 + (i + 1), j, none⟩ = some (.int .i64 (tab xs ys (i + 1) j)) ∧
    wr.cell? ⟨T + 1 + i, j + 1, none⟩ = some (.int .i64 (tab xs ys i (j + 1))) ∧ wr.cell? ⟨T + 1 + i, j, none⟩ = some (.int .i64 0) ∧ wr.frozen? ⟨T + 1 + i, j, none⟩ = false := by
  refine ⟨h.1.cell (by omega), h.1.cell (by omega), ?_, ?_, ?_, ?_, (h.2 i (by omega)).free j⟩
  · rw [(h.2 (i + 1) (by omega)).cell (by omega), if_pos (.inl (by omega))]
  · rw [(h.2 (i + 1) (by omega)).cell (by omega), if_pos (.inl (by omega))]
  · rw [(h.2 i (by omega)).cell (by omega), if_pos (.inr ⟨rfl, by omega⟩)]
  · rw [(h.2 i (by omega)).cell (by omega), if_neg (by omega)]
theorem TabF.last {xs ys : List ByteArray} {T : Nat} {iv jv : Int} {wr : World} (h : TabF xs ys T iv jv wr) (hi : iv < 0) : IsTab wr T xs ys :=
  ⟨fun k => T + 1 + k, h.1, fun k hk => (h.2 k hk).congr fun j hj => by rw [if_pos (by omega)]⟩

set_option maxRecDepth 100000 in
set_option maxHeartbeats 2000000 in
theorem refTable_any (xs ys : List ByteArray) (A B : Option Addr) (c d : Nat) (w : World) (hA : SlS w.heap.size w A xs) (hB : SlS w.heap.size w B ys)
    (hn : xs.length ≤ 100000) (hm : ys.length ≤ 100000) :
    Calls Try.prog 48 #[.slice A xs.length c, .slice B ys.length d] w fun e w' => ∃ t, e = .returned (.slice (some ⟨t, 0, none⟩) (xs.length + 1) (xs.length + 1)) ∧ IsTab w' t xs ys ∧ Below w.heap.size w w' := by
  have hmk := make1 (t := 69) (e := 71) (z := .slice none 0 0) (bytes := 24) Try.underlying69 (by kernel_rfl) rfl xs.length (by omega) (by omega)
  have hmk2 := make1 (t := 71) (e := 3) (z := .int .i64 0) (bytes := 8) Try.underlying71 (by kernel_rfl) rfl ys.length (by omega) (by omega)
  go_enter Try.func48, Try.ntmps48
  go_wp2
  go_loopw [6] (fun vi wr => ∃ i : Nat, vi = .int .i64 i ∧ i ≤ xs.length + 1 ∧ Kp (TabM xs ys w.heap.size i wr) ∧ Below w.heap.size w wr) (fun vi _ => xs.length + 1 - (intOf vi).toNat)
  case atStart =>
    refine ⟨0, rfl, by omega, ⟨⟨by simp, (Row.made w 71 (.slice none 0 0) (xs.length + 1)).congr fun k hk => by rw [if_neg (by omega)], fun k hk => by omega⟩⟩, (Below.refl _ w).alloc (Nat.le_refl _) _⟩
  case round =>
    obtain ⟨i, rfl, hi, hM, hb⟩ := hrel
    by_cases hin : i ≤ xs.length
    · have hct := hM.out.2.1.cell (k := i) (by omega)
      have hft := hM.out.2.1.free i
      simp only [Nat.lt_irrefl, if_false] at hct
      have hsz := hM.out.1
      have hbi : (i : Int) < (xs.length : Int) + 1 := by omega
      have HSZ := Kp.mk hsz
      have hTl : w.heap.size < wr.heap.size := by omega
      clear hsz
      go_wp2
      go_roundw
      case rel => exact ⟨i + 1, by go_num, by omega, ⟨hM.out.step⟩, (hb.setCell (by simp) _).alloc (by simp [World.setCell]; omega) _⟩
      case measure => first | (simp [intOf]; done) | (simp [intOf]; omega)
    · have hM' : TabM xs ys w.heap.size (xs.length + 1) wr := by
        have e : i = xs.length + 1 := by omega
        rw [← e]; exact hM.out
      have HF := Kp.mk (TabF.first hM')
      clear hM hM'
      go_wp2
      go_loopw [7] (fun vi wr => ∃ iv : Int, vi = .int .i64 iv ∧ -1 ≤ iv ∧ iv < xs.length ∧ Kp (TabF xs ys w.heap.size iv ((ys.length : Int) - 1) wr) ∧ Below w.heap.size w wr) (fun vi _ => (intOf vi + 1).toNat)
      case atStart => exact ⟨_, rfl, by omega, by omega, HF, hb⟩
      case round =>
        clear hb HF
        obtain ⟨iv, rfl, hi0, hi1, HF, hb⟩ := hrel
        by_cases hiv : 0 ≤ iv
        · obtain ⟨i', rfl⟩ := Int.eq_ofNat_of_zero_le hiv
          go_wp2
          obtain ⟨wo, hwo⟩ : ∃ wo : World, wo = wr := ⟨_, rfl⟩
          rw [← hwo] at HF hb
          go_loopw [8] (fun vj wr => ∃ jv : Int, vj = .int .i64 jv ∧ -1 ≤ jv ∧ jv < ys.length ∧ Kp (TabF xs ys w.heap.size i' jv wr) ∧ Below w.heap.size w wr) (fun vj _ => (intOf vj + 1).toNat)
          case atStart => exact ⟨_, rfl, by omega, by omega, by rw [← hwo]; exact HF, by rw [← hwo]; exact hb⟩
          case round =>
            clear HF hb hwo
            obtain ⟨jv, rfl, hj0, hj1, HF, hb⟩ := hrel
            by_cases hjv : 0 ≤ jv
            · obtain ⟨j', rfl⟩ := Int.eq_ofNat_of_zero_le hjv
              have hin : i' < xs.length := by omega
              have hjn : j' < ys.length := by omega
              obtain ⟨ax, rfl, hax, hcx⟩ := (hA.later hb).at_ hin
              obtain ⟨ay, rfl, hay, hcy⟩ := (hB.later hb).at_ hjn
              obtain ⟨p, hp⟩ : ∃ p, tab xs ys (i' + 1) j' = p := ⟨_, rfl⟩
              obtain ⟨q, hq⟩ : ∃ q, tab xs ys i' (j' + 1) = q := ⟨_, rfl⟩
              obtain ⟨z, hz⟩ : ∃ z, tab xs ys (i' + 1) (j' + 1) = z := ⟨_, rfl⟩
              have HZ := Kp.mk hz
              have HP := Kp.mk hp
              have HQ := Kp.mk hq
              have hi2 : (0 : Int) ≤ (i' : Int) + 1 := by omega
              have hi3 : (i' : Int) + 1 < (xs.length : Int) + 1 := by omega
              have hi4 : (i' : Int) < (xs.length : Int) + 1 := by omega
              have hj2 : (0 : Int) ≤ (j' : Int) + 1 := by omega
              have hj3 : (j' : Int) + 1 < (ys.length : Int) + 1 := by omega
              have hj4 : (j' : Int) < (ys.length : Int) + 1 := by omega
              have lo := tab_lo xs ys (i' + 1) (j' + 1)
              have hi := tab_hi xs ys (i' + 1) (j' + 1)
              rw [hz] at lo hi
              by_cases heq : sAt xs i' = sAt ys j'
              · have hbq : ((sAt xs i').toList == (sAt ys j').toList) = true := by rw [str_beq]; exact decide_eq_true heq
                have HV := Kp.mk (tab_hit xs ys i' j' hin hjn heq)
                rw [hz] at HV
                clear heq hz hp hq
                go_wp2
                go_quiet (fail)
                have HF' : Kp (TabF xs ys w.heap.size i' j' (wr.drewN nq)) := ⟨HF.out⟩
                have hb' := below_drewN hb nq
                clear HF hb hcx hcy
                generalize wr.drewN nq = wq at HF' hb' ⊢
                have HF := HF'
                have hb := hb'
                clear HF' hb'
                obtain ⟨wr, rfl⟩ : ∃ x, x = wq := ⟨_, rfl⟩
                obtain ⟨hct0, hct1, g11, g10, g01, g00, f00⟩ := TabF.at_ HF.out hin hjn
                rw [HZ.out] at g11
                rw [HP.out] at g10
                rw [HQ.out] at g01
                have hiw : IntKind.i64.wrap ((i' : Int) + 1) = (i' : Int) + 1 := IntWalk.i64_in _ (by omega)
                have hin' : ((i' : Int) + 1).toNat = i' + 1 := by omega
                have hjw : IntKind.i64.wrap ((j' : Int) + 1) = (j' : Int) + 1 := IntWalk.i64_in _ (by omega)
                have hjn' : ((j' : Int) + 1).toNat = j' + 1 := by omega
                have htw : IntKind.i64.wrap (z + 1) = z + 1 := IntWalk.i64_in _ (by omega)
                go_wp2
                go_still_tail 15, (by kernel_rfl)
                go_wp2
                clear hiw hin' hjw hjn'
                go_roundw
                case rel => exact ⟨_, rfl, by omega, by omega, ⟨HF.out.cell (by omega) (by rw [HV.out])⟩, (hb.setCell (p := ⟨w.heap.size + 1 + i', j', none⟩) (by simp; omega) _).drew⟩
                case measure => first | (simp [intOf]; done) | (simp [intOf]; omega)
              · have hbq : ((sAt xs i').toList == (sAt ys j').toList) = false := by rw [str_beq]; exact decide_eq_false heq
                have HV := Kp.mk (tab_miss xs ys i' j' hin hjn heq)
                rw [hp, hq] at HV
                clear heq hz hp hq
                by_cases hge : q ≤ p
                · have hgd : decide (q ≤ p) = true := decide_eq_true hge
                  have hv : mxi p q = p := by unfold mxi; rw [if_neg (by omega)]
                  have HV2 := Kp.mk (HV.out.trans hv)
                  clear hge hv
                  go_wp2
                  go_quiet (fail)
                  have HF' : Kp (TabF xs ys w.heap.size i' j' (wr.drewN nq)) := ⟨HF.out⟩
                  have hb' := below_drewN hb nq
                  clear HF hb hcx hcy
                  generalize wr.drewN nq = wq at HF' hb' ⊢
                  have HF := HF'
                  have hb := hb'
                  clear HF' hb'
                  obtain ⟨wr, rfl⟩ : ∃ x, x = wq := ⟨_, rfl⟩
                  obtain ⟨hct0, hct1, g11, g10, g01, g00, f00⟩ := TabF.at_ HF.out hin hjn
                  rw [HZ.out] at g11
                  rw [HP.out] at g10
                  rw [HQ.out] at g01
                  have hiw : IntKind.i64.wrap ((i' : Int) + 1) = (i' : Int) + 1 := IntWalk.i64_in _ (by omega)
                  have hin' : ((i' : Int) + 1).toNat = i' + 1 := by omega
                  have hjw : IntKind.i64.wrap ((j' : Int) + 1) = (j' : Int) + 1 := IntWalk.i64_in _ (by omega)
                  have hjn' : ((j' : Int) + 1).toNat = j' + 1 := by omega
                  go_wp2
                  go_quiet (fail)
                  clear hct0 hct1 g11 g10 g01 g00 f00
                  have HF' : Kp (TabF xs ys w.heap.size i' j' (wr.drewN nq)) := ⟨HF.out⟩
                  have hb' := below_drewN hb nq
                  clear HF hb
                  generalize wr.drewN nq = wq at HF' hb' ⊢
                  have HF := HF'
                  have hb := hb'
                  clear HF' hb'
                  obtain ⟨wr, rfl⟩ : ∃ x, x = wq := ⟨_, rfl⟩
                  obtain ⟨hct0, hct1, g11, g10, g01, g00, f00⟩ := TabF.at_ HF.out hin hjn
                  rw [HZ.out] at g11
                  rw [HP.out] at g10
                  rw [HQ.out] at g01
                  go_wp2
                  go_still_tail 13, (by kernel_rfl)
                  go_wp2
                  clear hiw hin' hjw hjn'
                  go_roundw
                  case rel => exact ⟨_, rfl, by omega, by omega, ⟨HF.out.cell (by omega) (by rw [HV2.out])⟩, (hb.setCell (p := ⟨w.heap.size + 1 + i', j', none⟩) (by simp; omega) _).drew⟩
                  case measure => first | (simp [intOf]; done) | (simp [intOf]; omega)
                · have hgd : decide (q ≤ p) = false := decide_eq_false hge
                  have hv : mxi p q = q := by unfold mxi; rw [if_pos (by omega)]
                  have HV2 := Kp.mk (HV.out.trans hv)
                  clear hge hv
                  go_wp2
                  go_quiet (fail)
                  have HF' : Kp (TabF xs ys w.heap.size i' j' (wr.drewN nq)) := ⟨HF.out⟩
                  have hb' := below_drewN hb nq
                  clear HF hb hcx hcy
                  generalize wr.drewN nq = wq at HF' hb' ⊢
                  have HF := HF'
                  have hb := hb'
                  clear HF' hb'
                  obtain ⟨wr, rfl⟩ : ∃ x, x = wq := ⟨_, rfl⟩
                  obtain ⟨hct0, hct1, g11, g10, g01, g00, f00⟩ := TabF.at_ HF.out hin hjn
                  rw [HZ.out] at g11
                  rw [HP.out] at g10
                  rw [HQ.out] at g01
                  have hiw : IntKind.i64.wrap ((i' : Int) + 1) = (i' : Int) + 1 := IntWalk.i64_in _ (by omega)
                  have hin' : ((i' : Int) + 1).toNat = i' + 1 := by omega
                  have hjw : IntKind.i64.wrap ((j' : Int) + 1) = (j' : Int) + 1 := IntWalk.i64_in _ (by omega)
                  have hjn' : ((j' : Int) + 1).toNat = j' + 1 := by omega
                  go_wp2
                  go_quiet (fail)
                  clear hct0 hct1 g11 g10 g01 g00 f00
                  have HF' : Kp (TabF xs ys w.heap.size i' j' (wr.drewN nq)) := ⟨HF.out⟩
                  have hb' := below_drewN hb nq
                  clear HF hb
                  generalize wr.drewN nq = wq at HF' hb' ⊢
                  have HF := HF'
                  have hb := hb'
                  clear HF' hb'
                  obtain ⟨wr, rfl⟩ : ∃ x, x = wq := ⟨_, rfl⟩
                  obtain ⟨hct0, hct1, g11, g10, g01, g00, f00⟩ := TabF.at_ HF.out hin hjn
                  rw [HZ.out] at g11
                  rw [HP.out] at g10
                  rw [HQ.out] at g01
                  go_wp2
                  go_still_tail 13, (by kernel_rfl)
                  go_wp2
                  clear hiw hin' hjw hjn'
                  go_roundw
                  case rel => exact ⟨_, rfl, by omega, by omega, ⟨HF.out.cell (by omega) (by rw [HV2.out])⟩, (hb.setCell (p := ⟨w.heap.size + 1 + i', j', none⟩) (by simp; omega) _).drew⟩
                  case measure => first | (simp [intOf]; done) | (simp [intOf]; omega)
            · go_wp2
              go_roundw
              case rel => exact ⟨_, rfl, by omega, by omega, ⟨HF.out.row (by omega)⟩, hb⟩
              case measure => first | (simp [intOf]; done) | (simp [intOf]; omega)
        · go_wp2
          go_ret
          exact ⟨_, rfl, HF.out.last (by omega), hb⟩
end Go.Proofs.Ytkggedmcdllnaaa
