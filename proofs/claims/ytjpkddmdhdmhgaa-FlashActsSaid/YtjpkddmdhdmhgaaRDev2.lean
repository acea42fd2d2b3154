/- The reference's device: Read. -/
import Derived.Test.YtjpkddmdhdmhgaaRDev1
namespace Go.Proofs.Ytjpkddmdhdmhgaa
open Go.RowKit

/-- What stands in a sector behind the first writes. -/
def seenR (x : Option (List UInt8)) : Option (List UInt8) → Option (List UInt8)
  | some b => some b
  | none => x
def readO : Option (List UInt8) → List UInt8 × Int
  | some b => (b, 0)
  | none => ([], 9)
theorem readV_seen {d : Dv} {n : Nat} {x : Option (List UInt8)} (hx : d.sure[n]? = some x) : d.readV (n : Int) = readO (seenR x (lastW d.unsure (n : Int))) := by
  unfold Dv.readV seenR readO
  rw [Int.toNat_natCast, hx]
  cases lastW d.unsure (n : Int) <;> cases x <;> rfl

set_option maxRecDepth 100000 in
set_option maxHeartbeats 2000000 in
theorem rread_any (w : World) (B g : Nat) (F : Nat → Prop) (d : Dv) (k : Int) (h : RDev w B F g d) (hun : d.unsure.length ≤ 1000000) :
    Calls Try.prog 75 #[.pointer (some ⟨g, 0, none⟩), .int .i64 k] w (RetBE (d.read k) w) := by
  have HF := Lib.hid h.fine.unsure
  have hsz := h.fine.size
  obtain ⟨hf1, sv, uv, S, hgg, hs1, hu1, hgF, hs1F, hu1F, hSF, hFl⟩ := h
  obtain ⟨Au, cu, rfl, _, hucl, hucm⟩ := hu1.form
  obtain ⟨As, cs, rfl, _, hscl, hscm⟩ := hs1.form
  have c0 : w.cell? ⟨g, 0, none⟩ = some (.slice As d.sure.length cs) := (cell_of_row _ _ _ _ _ _ hgg).trans rfl
  have c1 : w.cell? ⟨g, 1, none⟩ = some (.slice Au d.unsure.length cu) := (cell_of_row _ _ _ _ _ _ hgg).trans rfl
  have c3 : w.cell? ⟨g, 3, none⟩ = some (.bool d.down) := (cell_of_row _ _ _ _ _ _ hgg).trans rfl
  clear hgg
  rcases d.chk_cases k with ⟨h1, h2⟩ | ⟨h1, h3, h2⟩ | ⟨h1, h3, h4, h2⟩
  · have hw : d.read k = ([], 8) := by unfold Dv.read; rw [h2, if_neg (by decide)]
    rw [hw]
    rw [h1] at c3
    clear hw h1 h2
    go_enter Try.func75, Try.ntmps75
    go_wp2
    go_ret2
    exact ⟨_, rfl, OwnB.nil _ _, bl⟩
  · have hw : d.read k = ([], 1) := by unfold Dv.read; rw [h2, if_neg (by decide)]
    rw [hw]
    rw [h1] at c3
    clear hw h1 h2
    by_cases h0 : k < 0
    · clear h3
      go_enter Try.func75, Try.ntmps75
      go_wp2
      go_ret2
      exact ⟨_, rfl, OwnB.nil _ _, bl⟩
    · have h5 : (d.sure.length : Int) ≤ k := by omega
      clear h3
      go_enter Try.func75, Try.ntmps75
      go_wp2
      go_ret2
      exact ⟨_, rfl, OwnB.nil _ _, bl⟩
  · have hw : d.read k = d.readV k := by unfold Dv.read; rw [h2, if_pos rfl]
    rw [hw]
    rw [h1] at c3
    clear hw h1 h2
    obtain ⟨n, rfl⟩ := Int.eq_ofNat_of_zero_le h3
    have hnl : n < d.sure.length := by omega
    obtain ⟨x, hx⟩ : ∃ x, d.sure[n]? = some x := ⟨_, List.getElem?_eq_getElem hnl⟩
    obtain ⟨s, c, gd, cd, b0, e, _, _, e0, e1, ho, hbl, hcd, _, hxb⟩ := rsure_at hs1 hx
    injection e with ea eb ec
    subst ea
    have HX := Lib.hid (readV_seen hx)
    have HR0 : Hid (RdB w (some ⟨gd, 0, none⟩) 512 b0) := ho.rd.1
    have HXB := Lib.hid hxb
    have HBL := Lib.hid hbl
    clear hx ec eb ho hbl hxb h4
    go_enter Try.func75, Try.ntmps75
    go_wp2
    go_loop [6, 7, 8] (fun bv tv iv => ∃ (j c : Nat) (A : Option Addr) (b : List UInt8) (y : Option (List UInt8)), bv = .slice A 512 c ∧ tv = .bool y.isNone ∧ iv = .int .i64 (j : Int) ∧ j ≤ d.unsure.length ∧ Hid (RdB w A 512 b) ∧ 512 ≤ c ∧ Hid (∀ z, y = some z → z = b) ∧ Hid (seenR x (lastW (d.unsure.take j) n) = y)) (fun _ _ iv => d.unsure.length - (intOf iv).toNat)
    case atStart => exact ⟨0, cd, _, b0, x, rfl, rfl, rfl, Nat.zero_le _, HR0, hcd, HXB, by show _ = _; rw [List.take_zero]; rfl⟩
    case round =>
      obtain ⟨j, c1', A, b, y, rfl, rfl, rfl, hj, HR, hc1', HY, HL⟩ := hrel
      clear HR0 HXB e0 e1
      by_cases hlt : j < d.unsure.length
      · obtain ⟨q, hq⟩ : ∃ q, d.unsure[j]? = some q := ⟨_, List.getElem?_eq_getElem hlt⟩
        obtain ⟨p, bq⟩ := q
        obtain ⟨hp0, hp1, hbl⟩ := HF.out (p, bq) (List.mem_of_getElem? hq)
        obtain ⟨u, c', A', cd', e, hul, _, e0, e1, hrb, hcd', hAS⟩ := unsure_at hu1 hq hbl
        injection e with ea eb ec
        subst ea
        have HQ := Lib.hid (lastW_take (k := (n : Int)) hq)
        have HRB := Lib.hid hrb
        clear hq hbl eb ec hrb
        by_cases hpk : p = n
        · have hpk2 : (p == (n : Int)) = true := by rw [beq_iff_eq]; exact hpk
          have hL2 : Hid (seenR x (lastW (d.unsure.take (j + 1)) n) = some bq) := by
            show _ = _
            rw [HQ.out, if_pos hpk]
            rfl
          clear hpk
          go_wp2
          go_round
          case rel => exact ⟨j + 1, cd', A', bq, some bq, rfl, rfl, by go_num, by omega, HRB, hcd', fun z e => by injection e with e; exact e.symm, hL2⟩
          case measure => simp [intOf]; omega
        · have hpk2 : (p == (n : Int)) = false := by rw [beq_eq_false_iff_ne]; exact hpk
          have hL2 : Hid (seenR x (lastW (d.unsure.take (j + 1)) n) = y) := by
            show _ = _
            rw [HQ.out, if_neg hpk]
            exact HL.out
          clear hpk
          go_wp2
          go_round
          case rel => exact ⟨j + 1, c1', A, b, y, rfl, rfl, by go_num, by omega, HR, hc1', HY, hL2⟩
          case measure => simp [intOf]; omega
      · have hje : j = d.unsure.length := by omega
        have HP : Hid (d.readV (n : Int) = readO y) := by
          show _ = _
          rw [HX.out]
          have := HL.out
          rw [hje, List.take_length] at this
          rw [this]
        subst hje
        clear HL HX
        rcases y with _ | y
        · rw [show (none : Option (List UInt8)).isNone = true from rfl]
          go_wp2
          go_ret2
          rw [HP.out]
          unfold readO
          exact ⟨_, rfl, OwnB.nil _ _, bl⟩
        · rw [show (some y : Option (List UInt8)).isNone = false from rfl]
          obtain rfl := HY.out y rfl
          go_wp2_with ((with_reducible show wpList _ _ _ (⟨some 70, _, _, _, _, _⟩ :: _) _ _); refine wpL_cloneB rfl (.tmp 68) (.tmp 69) rfl rfl A _ c1' y rfl HR.out (by omega) ?_; intro v2 w2 hown2 hb2)
          go_ret2
          rw [HP.out]
          unfold readO
          exact ⟨_, rfl, hown2, hb2⟩
end Go.Proofs.Ytjpkddmdhdmhgaa
