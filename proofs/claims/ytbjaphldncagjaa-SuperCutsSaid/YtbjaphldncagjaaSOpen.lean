/- sector.Open walked. -/
import Derived.Test.YtbjaphldncagjaaSector
import Derived.Test.YtbjaphldncagjaaSOpenPlain
import Derived.Test.YtbjaphldncagjaaBytesLib
import Derived.Test.YtbjaphldncagjaaGet
import Derived.Test.YtbjaphldncagjaaEncLaws
namespace Go.Proofs.Ytbjaphldncagjaa
open Go.RowKit

def RetO (r : List Int × List UInt8 × Int) (w : World) (e : Ending) (w' : World) : Prop := ∃ v, e = .returned (.tuple #[.agg (r.1.map (Value.int .i64)).toArray, v, .int .i64 r.2.2]) ∧ OwnB w' w.heap.size v r.2.1 ∧ Below w.heap.size w w'

/-- Results of which the first is a struct's cell. -/
theorem results_cell3 {P : Program} {fn : Func} {p u v : Tmp} {ty : TypeId} (h : fn.results = #[.cell p ty, .tmp u, .tmp v]) (tmps : Array Value) (w : World) (g : Nat) (t : TypeId) (cs : Array Value) (fr : Nat × Nat) (d : TypeDesc)
    (hp : tmps.getD p undef = .pointer (some ⟨g, 0, none⟩)) (hg : w.heap[g]? = some (.cells cs t fr))
    (hu : P.underlying ty = some d) (hd : (match d with | .struct _ | .array _ _ => true | _ => false) = true) (hi : (P.info? ty).map (·.size) = some cs.size) :
    (results fn tmps).run P w = .ok (.tuple #[.agg cs, tmps.getD u undef, tmps.getD v undef]) w := by
  have hp' : tmps[p]?.getD undef = .pointer (some ⟨g, 0, none⟩) := by simpa using hp
  simp [results, h, hp', asAddr, run_loadVar_row w g t ty cs fr d hg hu hd hi, Result.andThen]

theorem set5 {w : World} {g : Nat} {t : TypeId} {a0 a1 a2 a3 a4 : Value} (h : w.heap[g]? = some (.cells #[a0, a1, a2, a3, a4] t (0, 0))) (x0 x1 x2 x3 x4 : Value) :
    (((((w.setCell ⟨g, 0, none⟩ x0).setCell ⟨g, 1, none⟩ x1).setCell ⟨g, 2, none⟩ x2).setCell ⟨g, 3, none⟩ x3).setCell ⟨g, 4, none⟩ x4).heap[g]? = some (.cells #[x0, x1, x2, x3, x4] t (0, 0)) :=
  heap_setCell_same _ _ _ _ _ _ (heap_setCell_same _ _ _ _ _ _ (heap_setCell_same _ _ _ _ _ _ (heap_setCell_same _ _ _ _ _ _ (heap_setCell_same _ _ _ _ _ _ h))))
theorem below5 {w w' : World} {B g : Nat} (h : Below B w w') (hg : B ≤ g) (x0 x1 x2 x3 x4 : Value) :
    Below B w (((((w'.setCell ⟨g, 0, none⟩ x0).setCell ⟨g, 1, none⟩ x1).setCell ⟨g, 2, none⟩ x2).setCell ⟨g, 3, none⟩ x3).setCell ⟨g, 4, none⟩ x4) :=
  ((((h.setCell hg _).setCell hg _).setCell hg _).setCell hg _).setCell hg _

/-- A store of a whole row, as a step of a region that draws its order. -/
theorem step_store_row {P : Program} {w : World} {ops : Array Oper} {o : Oper} {a : Act} {K : Act → World → Prop} {Q : Exit → Act → World → Prop} {E : Prop} (hgd : Region.wanted o (yielded ops a.tmps) = true) (ty : TypeId) (x y : Operand) (ho : o.op = .store ty x y)
    (g : Nat) (cells : Array Value) (hx : a.eval x = .pointer (some ⟨g, 0, none⟩)) (hy : a.eval y = .agg cells)
    (t : TypeId) (old : Array Value) (hg : w.heap[g]? = some (.cells old t (0, 0))) (hi : (P.info? ty).map (·.size) = some cells.size)
    (hold : old.size = cells.size) (h1 : cells.all (·.oneCell') = true)
    (h : K (a.put o.dst undef) (w.setRow g cells)) : if Region.wanted o (yielded ops a.tmps) = true then Oper.wp P o a w K Q else E := by
  rw [if_pos hgd]
  exact wp_store_row ty x y ho g cells hx hy t old hg hi hold h1 h

theorem Below.setRow {B g : Nat} {w w' : World} (h : Below B w w') (hg : B ≤ g) (cs : Array Value) : Below B w (w'.setRow g cs) :=
  h.trans ⟨rfl, rfl, rfl, by simp, fun k hk => setRow_other w' g k cs (by omega)⟩

theorem lt_of_heap {w : World} {g : Nat} {o : Obj} (h : w.heap[g]? = some o) : g < w.heap.size := (Array.getElem?_eq_some_iff.1 h).1
theorem rd_sub {w : World} {b off m : Nat} {bs : List UInt8} (h : RdB w (some ⟨b, off, none⟩) m bs) (k n : Nat) (hkn : k + n ≤ m) : RdB w (some ⟨b, off + k, none⟩) n ((bs.drop k).take n) := by
  have h2 := Rd.cut h k (k + n) (m + 1) (by omega) hkn (by omega)
  rw [if_neg (by omega)] at h2
  simp only [Option.map_some, Nat.mul_one] at h2
  rw [add_flat, show k + n - k = n by omega, ← List.map_take, ← List.map_drop, List.drop_take, show k + n - k = n by omega] at h2
  exact h2

theorem OwnB.heq {w w' : World} {base : Nat} {v : Value} {bs : List UInt8} (h : OwnB w base v bs) (he : ∀ k, base ≤ k → w'.heap[k]? = w.heap[k]?) : OwnB w' base v bs := by
  unfold OwnB at h ⊢
  refine ⟨h.1, ?_⟩
  rcases h.2 with h0 | ⟨g, cap, cur, rfl, h1, h2, h3⟩
  · exact .inl h0
  · exact .inr ⟨g, cap, cur, rfl, h1, (he g h1).trans h2, h3⟩
theorem heap5 (w : World) {g k : Nat} (h : k ≠ g) (x0 x1 x2 x3 x4 : Value) :
    (((((w.setCell ⟨g, 0, none⟩ x0).setCell ⟨g, 1, none⟩ x1).setCell ⟨g, 2, none⟩ x2).setCell ⟨g, 3, none⟩ x3).setCell ⟨g, 4, none⟩ x4).heap[k]? = w.heap[k]? := by
  rw [heap_setCell_other _ _ _ _ h, heap_setCell_other _ _ _ _ h, heap_setCell_other _ _ _ _ h, heap_setCell_other _ _ _ _ h, heap_setCell_other _ _ _ _ h]

def valsP (b : List UInt8) : List Int := [(fld b 0 1 : Int), (fld b 1 4 : Int), (fld b 5 7 : Int), (fld b 12 1 : Int), (fld b 13 1 : Int), (lenP b : Int)]
def atsL : List Int := [0, 1, 5, 12, 13, 14, 16]
def lsA (l : List Int) (j : Nat) : Array Value := ((l.take j ++ List.replicate (6 - j) 0).map (Value.int .i64)).toArray
theorem lsA_next {b : List UInt8} {j : Nat} {x : Int} (h : (valsP b)[j]? = some x) : (lsA (valsP b) j).setIfInBounds j (.int .i64 x) = lsA (valsP b) (j + 1) := by
  have hj : j < 6 := (List.getElem?_eq_some_iff.1 h).1
  rcases j with _ | _ | _ | _ | _ | _ | j <;> first | omega | (simp only [valsP, List.getElem?_cons_zero, List.getElem?_cons_succ, Option.some.injEq] at h; subst h; rfl)
theorem lsA_at (b : List UInt8) (j i : Nat) (hj : j ≤ 6) (hi : i < 6) : ∃ u, (lsA (valsP b) j)[i]? = some u := by
  refine ⟨_, Array.getElem?_eq_getElem ?_⟩
  simp [lsA, valsP]
  omega
theorem step_at {b : List UInt8} (hb : b.length = 512) {j : Nat} (hj : j < 6) : ∃ x y p, (valsP b)[j]? = some x ∧ sizesL[j]? = some y ∧ atsL[j]? = some p ∧ atsL[j + 1]? = some (p + y) ∧ getN b p y = (x, 0) ∧ 0 ≤ p ∧ p ≤ 16 ∧ 0 ≤ y ∧ y ≤ 7 := by
  rcases j with _ | _ | _ | _ | _ | _ | j
  · exact ⟨_, 1, 0, rfl, rfl, rfl, rfl, get_fld 0 1 (by omega) (by omega) (by omega), by omega⟩
  · exact ⟨_, 4, 1, rfl, rfl, rfl, rfl, get_fld 1 4 (by omega) (by omega) (by omega), by omega⟩
  · exact ⟨_, 7, 5, rfl, rfl, rfl, rfl, get_fld 5 7 (by omega) (by omega) (by omega), by omega⟩
  · exact ⟨_, 1, 12, rfl, rfl, rfl, rfl, get_fld 12 1 (by omega) (by omega) (by omega), by omega⟩
  · exact ⟨_, 1, 13, rfl, rfl, rfl, rfl, get_fld 13 1 (by omega) (by omega) (by omega), by omega⟩
  · exact ⟨_, 2, 14, rfl, rfl, rfl, rfl, get_fld 14 2 (by omega) (by omega) (by omega), by omega⟩
  · omega

set_option maxRecDepth 100000 in
set_option maxHeartbeats 1000000 in
theorem sopen_any (A : Option Addr) (m c : Nat) (bs : List UInt8) (w : World) (hb : RdB w A m bs) (hm : m ≤ c) (hc : m ≤ 100000) :
    Calls Try.prog 120 #[.slice A m c] w (RetO (openP bs) w) := by
  have hlb := hb.len
  subst hlb
  by_cases h512 : bs.length = 512
  · obtain ⟨w1, hw1⟩ : ∃ w1 : World, w1 = (w.alloc (.cells #[.int .i64 0, .int .i64 0, .int .i64 0, .int .i64 0, .int .i64 0] 115)).alloc (.cells #[.int .i64 0, .int .i64 0, .int .i64 0, .int .i64 0, .int .i64 0, .int .i64 0] 190) := ⟨_, rfl⟩
    have hH1 : w1.heap[w.heap.size]? = some (.cells #[.int .i64 0, .int .i64 0, .int .i64 0, .int .i64 0, .int .i64 0] 115 (0, 0)) := by rw [hw1]; exact heap_alloc2_old _ _ _
    have hL1 : w1.heap[w.heap.size + 1]? = some (.cells (lsA (valsP bs) 0) 190 (0, 0)) := by rw [hw1]; exact heap_alloc2_new _ _ _
    have hsz1 : w1.heap.size = w.heap.size + 2 := by rw [hw1]; simp
    have hb1 : Below w.heap.size w w1 := by rw [hw1]; exact (bl.alloc (Nat.le_refl _) _).alloc (by simp) _
    have HSZ := Lib.hid hsz1
    clear hsz1
    have h5 : ((bs.length : Int) != 512) = false := by rw [h512]; rfl
    have H512 := Lib.hid h512
    have hc512 : (512 : Int) ≤ (c : Int) := by omega
    obtain ⟨b, off, rfl, hat⟩ := hb.flat (by omega)
    clear h512 hat
    go_enter Try.func120, Try.ntmps120
    go_wp2_with fail
    rw [← hw1]
    clear hw1
    refine (sizes_any _).mono ?_; rintro e w2 ⟨v2, rfl, ⟨g2, rfl, hs2⟩, hb2⟩
    go_wp2
    have hH2 : w2.heap[w.heap.size]? = some (.cells #[.int .i64 0, .int .i64 0, .int .i64 0, .int .i64 0, .int .i64 0] 115 (0, 0)) := (hb2.block _ (by rw [HSZ.out]; omega)).trans hH1
    have hL2 : w2.heap[w.heap.size + 1]? = some (.cells (lsA (valsP bs) 0) 190 (0, 0)) := (hb2.block _ (by rw [HSZ.out]; omega)).trans hL1
    have hbw2 := nx hb1 hb2
    have hg2 : g2 ≠ w.heap.size + 1 := by
      intro e
      have h1 := hs2 0 1 rfl
      rw [e, cell_of_row _ _ _ _ _ _ hL2] at h1
      have h2 : (lsA (valsP bs) 0)[0]? = some (.int .i64 0) := rfl
      rw [h2] at h1
      cases h1
    have hsz2 : w.heap.size + 2 ≤ w2.heap.size := by have := hb2.size; have := HSZ.out; omega
    clear hH1 hL1 hb1 hb2
    go_loopw [6, 7, 8, 16] (fun at_ _ _ i wr => ∃ (j : Nat) (p : Int), i = .int .i64 j ∧ j ≤ 6 ∧ at_ = .int .i64 p ∧ atsL[j]? = some p ∧ wr.heap[w.heap.size]? = some (.cells #[.int .i64 0, .int .i64 0, .int .i64 0, .int .i64 0, .int .i64 0] 115 (0, 0)) ∧ wr.heap[w.heap.size + 1]? = some (.cells (lsA (valsP bs) j) 190 (0, 0)) ∧ (∀ (i : Nat) x, sizesL[i]? = some x → wr.cell? ⟨g2, i, none⟩ = some (.int .i64 x)) ∧ Below w.heap.size w wr) (fun _ _ _ i _ => 6 - (intOf i).toNat)
    case atStart => exact ⟨0, 0, rfl, by omega, rfl, rfl, hH2, hL2, hs2, hbw2⟩
    case round =>
      obtain ⟨j, p, rfl, hj, rfl, hp, hH, hL, hs, hbw⟩ := hrel
      by_cases hlt : j < 6
      · obtain ⟨x, y, p', hx, hy, hp', hpn, hgn, hp0, hp16, hy0, hy7⟩ := step_at H512.out hlt
        obtain rfl : p = p' := by rw [hp] at hp'; exact Option.some.inj hp'
        have cy := hs j y hy
        obtain ⟨u, hu⟩ := lsA_at bs j j hj hlt
        have cu : wr.cell? ⟨w.heap.size + 1, j, none⟩ = some u := (cell_of_row _ _ _ _ _ _ hL).trans hu
        have fu : wr.frozen? ⟨w.heap.size + 1, j, none⟩ = false := frozen_of_row _ _ _ _ _ hL
        have hbr := hb.below hbw
        have hxx := Lib.hid hx
        clear hp hp' hx hu
        have HS := Lib.hid hs
        clear hs
        go_wp2_with ((go_at_call 118; refine (get_any _ _ _ bs _ _ _ hbr (by omega) (by omega)).mono ?_; rintro e w3 ⟨rfl, rfl⟩; rw [hgn]))
        go_roundw
        case rel =>
          refine ⟨j + 1, _, by go_num, by omega, rfl, hpn, (heap_setCell_other _ _ _ _ (by simp)).trans hH, (heap_setCell_same _ _ _ _ _ _ hL).trans (by rw [lsA_next hxx.out]), fun i z hz => ?_, hbw.setCell (by simp) _⟩
          exact (World.cell?_of_block (a := ⟨g2, i, none⟩) (heap_setCell_other _ _ _ _ hg2)).trans (HS.out i z hz)
        case measure => simp [intOf]; omega
      · obtain rfl : j = 6 := by omega
        have hbr := hb.below hbw
        have c5 : wr.cell? ⟨w.heap.size + 1, 5, none⟩ = some (.int .i64 (lenP bs : Int)) := (cell_of_row _ _ _ _ _ _ hL).trans rfl
        by_cases hn : lenP bs ≤ 496
        · have hn2 : (0 : Int) ≤ (lenP bs : Int) := by omega
          have hn3 : (lenP bs : Int) ≤ 496 := by omega
          have H0 := Lib.hid hH
          have f0 : ∀ k, wr.frozen? ⟨w.heap.size, k, none⟩ = false := fun k => frozen_of_row _ _ _ _ _ hH
          have z0 : wr.cell? ⟨w.heap.size, 0, none⟩ = some (.int .i64 0) := (cell_of_row _ _ _ _ _ _ hH).trans rfl
          have z1 : wr.cell? ⟨w.heap.size, 1, none⟩ = some (.int .i64 0) := (cell_of_row _ _ _ _ _ _ hH).trans rfl
          have z2 : wr.cell? ⟨w.heap.size, 2, none⟩ = some (.int .i64 0) := (cell_of_row _ _ _ _ _ _ hH).trans rfl
          have z3 : wr.cell? ⟨w.heap.size, 3, none⟩ = some (.int .i64 0) := (cell_of_row _ _ _ _ _ _ hH).trans rfl
          have z4 : wr.cell? ⟨w.heap.size, 4, none⟩ = some (.int .i64 0) := (cell_of_row _ _ _ _ _ _ hH).trans rfl
          have c0 : wr.cell? ⟨w.heap.size + 1, 0, none⟩ = some (.int .i64 (fld bs 0 1 : Int)) := (cell_of_row _ _ _ _ _ _ hL).trans rfl
          have c1 : wr.cell? ⟨w.heap.size + 1, 1, none⟩ = some (.int .i64 (fld bs 1 4 : Int)) := (cell_of_row _ _ _ _ _ _ hL).trans rfl
          have c2 : wr.cell? ⟨w.heap.size + 1, 2, none⟩ = some (.int .i64 (fld bs 5 7 : Int)) := (cell_of_row _ _ _ _ _ _ hL).trans rfl
          have c3 : wr.cell? ⟨w.heap.size + 1, 3, none⟩ = some (.int .i64 (fld bs 12 1 : Int)) := (cell_of_row _ _ _ _ _ _ hL).trans rfl
          have c4 : wr.cell? ⟨w.heap.size + 1, 4, none⟩ = some (.int .i64 (fld bs 13 1 : Int)) := (cell_of_row _ _ _ _ _ _ hL).trans rfl
          clear hH hL hs hH2 hL2 hs2
          have hdl := Lib.hid (dataP_len H512.out hn)
          by_cases hp : partsP bs
          · have hsl' := seal_good H512.out hn hp
            have htf := tail_iff H512.out hn
            obtain ⟨X, hX⟩ : ∃ X, X = bs.take (16 + lenP bs) ++ List.replicate (496 - lenP bs) 0 := ⟨_, rfl⟩
            rw [← hX] at hsl' htf
            have hsl := Lib.hid hsl'
            clear hX hsl'
            by_cases htl : tailP bs
            · have hcmp : decide (X = bs) = true := decide_eq_true (htf.2 htl)
              have hP := Lib.hid (openP_ok H512.out ⟨hn, hp, htl⟩)
              clear hp htl htf
              go_wp2_with (first
                | (go_at_call 88; refine (bclone_any _ _ _ (dataP bs) _ (rd_sub (hb.below (below5 hbw (Nat.le_refl _) _ _ _ _ _)) 16 (lenP bs) (by have := H512.out; omega)) (by omega)).mono ?_; rintro e w4 ⟨v4, rfl, hown4, hb4⟩; have hb4' := nx (below5 hbw (Nat.le_refl _) _ _ _ _ _) hb4; have H5 := set5 H0.out (.int .i64 (fld bs 0 1 : Int)) (.int .i64 (fld bs 1 4 : Int)) (.int .i64 (fld bs 5 7 : Int)) (.int .i64 (fld bs 12 1 : Int)) (.int .i64 (fld bs 13 1 : Int)); have H4 := Lib.hid ((hb4.block _ (lt_of_heap H5)).trans H5); clear H5; have e0 : w4.cell? ⟨w.heap.size, 0, none⟩ = _ := (cell_of_row _ _ _ _ _ _ H4.out).trans rfl; have e1 : w4.cell? ⟨w.heap.size, 1, none⟩ = _ := (cell_of_row _ _ _ _ _ _ H4.out).trans rfl; have e2 : w4.cell? ⟨w.heap.size, 2, none⟩ = _ := (cell_of_row _ _ _ _ _ _ H4.out).trans rfl; have e3 : w4.cell? ⟨w.heap.size, 3, none⟩ = _ := (cell_of_row _ _ _ _ _ _ H4.out).trans rfl; have e4 : w4.cell? ⟨w.heap.size, 4, none⟩ = _ := (cell_of_row _ _ _ _ _ _ H4.out).trans rfl; obtain ⟨A4, c4, rfl, hr4, hl4, hm4⟩ := hown4.form)
                | (go_at_call 74; refine (seal_any _ _ _ _ _ _ _ _ (dataP bs) _ hr4 (by rw [hdl.out]; omega)).mono ?_; rintro e w5 ⟨v5, n5, rfl, ⟨hn5, hown5⟩, hb5⟩; rw [hsl.out] at hn5 hown5; subst hn5; have hb5' := nx hb4' hb5; have H5 := Lib.hid ((hb5.block _ (lt_of_heap H4.out)).trans H4.out); have f5 : ∀ k, w5.frozen? ⟨w.heap.size, k, none⟩ = false := (fun k => frozen_of_row _ _ _ _ _ H5.out); have g0 := below_cell hb5 e0; have g1 := below_cell hb5 e1; have g2 := below_cell hb5 e2; have g3 := below_cell hb5 e3; have g4 := below_cell hb5 e4; obtain ⟨A5, c5', rfl, hr5, hl5, hm5⟩ := hown5.form)
                | (go_at_call 151; refine (bequal_any _ _ _ _ _ _ _ bs _ hr5 (hb.below hb5')).mono ?_; rintro e w6 ⟨rfl, rfl⟩; rw [hcmp]))
              have hlt4 := lt_of_heap (set5 H0.out (.int .i64 (fld bs 0 1 : Int)) (.int .i64 (fld bs 1 4 : Int)) (.int .i64 (fld bs 5 7 : Int)) (.int .i64 (fld bs 12 1 : Int)) (.int .i64 (fld bs 13 1 : Int)))
              have hown6 := (hown4.below hb5).heq (fun k hk => heap5 w5 (Nat.ne_of_gt (Nat.lt_of_lt_of_le hlt4 hk)) (.int .i64 (fld bs 0 1 : Int)) (.int .i64 (fld bs 1 4 : Int)) (.int .i64 (fld bs 5 7 : Int)) (.int .i64 (fld bs 12 1 : Int)) (.int .i64 (fld bs 13 1 : Int)))
              refine bodyPost_ret (results_cell3 rfl _ _ w.heap.size _ _ _ _ rfl (set5 H5.out _ _ _ _ _) Try.underlying115 rfl (by kernel_rfl)) rfl ?_
              exact ⟨_, by rw [hP.out]; rfl, by rw [hP.out]; exact hown6.mono (Nat.le_of_lt hlt4), below5 hb5' (Nat.le_refl _) _ _ _ _ _⟩
            · have hcmp : decide (X = bs) = false := decide_eq_false (fun h => htl (htf.1 h))
              have hP := Lib.hid (openP_bad H512.out (fun h => htl h.2.2))
              clear hp htl htf
              go_wp2_with (first
                | (go_at_call 88; refine (bclone_any _ _ _ (dataP bs) _ (rd_sub (hb.below (below5 hbw (Nat.le_refl _) _ _ _ _ _)) 16 (lenP bs) (by have := H512.out; omega)) (by omega)).mono ?_; rintro e w4 ⟨v4, rfl, hown4, hb4⟩; have hb4' := nx (below5 hbw (Nat.le_refl _) _ _ _ _ _) hb4; have H5 := set5 H0.out (.int .i64 (fld bs 0 1 : Int)) (.int .i64 (fld bs 1 4 : Int)) (.int .i64 (fld bs 5 7 : Int)) (.int .i64 (fld bs 12 1 : Int)) (.int .i64 (fld bs 13 1 : Int)); have H4 := Lib.hid ((hb4.block _ (lt_of_heap H5)).trans H5); clear H5; have e0 : w4.cell? ⟨w.heap.size, 0, none⟩ = _ := (cell_of_row _ _ _ _ _ _ H4.out).trans rfl; have e1 : w4.cell? ⟨w.heap.size, 1, none⟩ = _ := (cell_of_row _ _ _ _ _ _ H4.out).trans rfl; have e2 : w4.cell? ⟨w.heap.size, 2, none⟩ = _ := (cell_of_row _ _ _ _ _ _ H4.out).trans rfl; have e3 : w4.cell? ⟨w.heap.size, 3, none⟩ = _ := (cell_of_row _ _ _ _ _ _ H4.out).trans rfl; have e4 : w4.cell? ⟨w.heap.size, 4, none⟩ = _ := (cell_of_row _ _ _ _ _ _ H4.out).trans rfl; obtain ⟨A4, c4, rfl, hr4, hl4, hm4⟩ := hown4.form)
                | (go_at_call 74; refine (seal_any _ _ _ _ _ _ _ _ (dataP bs) _ hr4 (by rw [hdl.out]; omega)).mono ?_; rintro e w5 ⟨v5, n5, rfl, ⟨hn5, hown5⟩, hb5⟩; rw [hsl.out] at hn5 hown5; subst hn5; have hb5' := nx hb4' hb5; have H5 := Lib.hid ((hb5.block _ (lt_of_heap H4.out)).trans H4.out); have f5 : ∀ k, w5.frozen? ⟨w.heap.size, k, none⟩ = false := (fun k => frozen_of_row _ _ _ _ _ H5.out); have g0 := below_cell hb5 e0; have g1 := below_cell hb5 e1; have g2 := below_cell hb5 e2; have g3 := below_cell hb5 e3; have g4 := below_cell hb5 e4; obtain ⟨A5, c5', rfl, hr5, hl5, hm5⟩ := hown5.form)
                | (go_at_call 151; refine (bequal_any _ _ _ _ _ _ _ bs _ hr5 (hb.below hb5')).mono ?_; rintro e w6 ⟨rfl, rfl⟩; rw [hcmp]))
              refine bodyPost_ret (results_cell3 rfl _ _ w.heap.size _ _ _ _ rfl (set5 H5.out _ _ _ _ _) Try.underlying115 rfl (by kernel_rfl)) rfl ?_
              exact ⟨_, by rw [hP.out]; rfl, by rw [hP.out]; exact OwnB.nil _ _, below5 hb5' (Nat.le_refl _) _ _ _ _ _⟩
          · have hsl := Lib.hid (seal_bad hp)
            have hP := Lib.hid (openP_bad H512.out (fun h => hp h.2.1))
            clear hp
            go_wp2_with (first
              | (go_at_call 88; refine (bclone_any _ _ _ (dataP bs) _ (rd_sub (hb.below (below5 hbw (Nat.le_refl _) _ _ _ _ _)) 16 (lenP bs) (by have := H512.out; omega)) (by omega)).mono ?_; rintro e w4 ⟨v4, rfl, hown4, hb4⟩; have hb4' := nx (below5 hbw (Nat.le_refl _) _ _ _ _ _) hb4; have H5 := set5 H0.out (.int .i64 (fld bs 0 1 : Int)) (.int .i64 (fld bs 1 4 : Int)) (.int .i64 (fld bs 5 7 : Int)) (.int .i64 (fld bs 12 1 : Int)) (.int .i64 (fld bs 13 1 : Int)); have H4 := Lib.hid ((hb4.block _ (lt_of_heap H5)).trans H5); clear H5; have e0 : w4.cell? ⟨w.heap.size, 0, none⟩ = _ := (cell_of_row _ _ _ _ _ _ H4.out).trans rfl; have e1 : w4.cell? ⟨w.heap.size, 1, none⟩ = _ := (cell_of_row _ _ _ _ _ _ H4.out).trans rfl; have e2 : w4.cell? ⟨w.heap.size, 2, none⟩ = _ := (cell_of_row _ _ _ _ _ _ H4.out).trans rfl; have e3 : w4.cell? ⟨w.heap.size, 3, none⟩ = _ := (cell_of_row _ _ _ _ _ _ H4.out).trans rfl; have e4 : w4.cell? ⟨w.heap.size, 4, none⟩ = _ := (cell_of_row _ _ _ _ _ _ H4.out).trans rfl; obtain ⟨A4, c4, rfl, hr4, hl4, hm4⟩ := hown4.form)
              | (go_at_call 74; refine (seal_any _ _ _ _ _ _ _ _ (dataP bs) _ hr4 (by rw [hdl.out]; omega)).mono ?_; rintro e w5 ⟨v5, n5, rfl, ⟨hn5, hown5⟩, hb5⟩; rw [hsl.out] at hn5 hown5; subst hn5; have hb5' := nx hb4' hb5; have H5 := Lib.hid ((hb5.block _ (lt_of_heap H4.out)).trans H4.out); have f5 : ∀ k, w5.frozen? ⟨w.heap.size, k, none⟩ = false := (fun k => frozen_of_row _ _ _ _ _ H5.out); have g0 := below_cell hb5 e0; have g1 := below_cell hb5 e1; have g2 := below_cell hb5 e2; have g3 := below_cell hb5 e3; have g4 := below_cell hb5 e4; obtain ⟨A5, c5', rfl, hr5, hl5, hm5⟩ := hown5.form)
              | (go_at_call 151; refine (bequal_any _ _ _ _ _ _ _ bs _ hr5 (hb.below hb5')).mono ?_; rintro e w6 ⟨rfl, rfl⟩; rw [hcmp]))
            refine bodyPost_ret (results_cell3 rfl _ _ w.heap.size _ _ _ _ rfl (set5 H5.out _ _ _ _ _) Try.underlying115 rfl (by kernel_rfl)) rfl ?_
            exact ⟨_, by rw [hP.out]; rfl, by rw [hP.out]; exact OwnB.nil _ _, below5 hb5' (Nat.le_refl _) _ _ _ _ _⟩
        · have hP := Lib.hid (openP_bad H512.out (fun h => hn h.1))
          have f0 : ∀ k, wr.frozen? ⟨w.heap.size, k, none⟩ = false := fun k => frozen_of_row _ _ _ _ _ hH
          have z0 : wr.cell? ⟨w.heap.size, 0, none⟩ = some (.int .i64 0) := (cell_of_row _ _ _ _ _ _ hH).trans rfl
          have z1 : wr.cell? ⟨w.heap.size, 1, none⟩ = some (.int .i64 0) := (cell_of_row _ _ _ _ _ _ hH).trans rfl
          have z2 : wr.cell? ⟨w.heap.size, 2, none⟩ = some (.int .i64 0) := (cell_of_row _ _ _ _ _ _ hH).trans rfl
          have z3 : wr.cell? ⟨w.heap.size, 3, none⟩ = some (.int .i64 0) := (cell_of_row _ _ _ _ _ _ hH).trans rfl
          have z4 : wr.cell? ⟨w.heap.size, 4, none⟩ = some (.int .i64 0) := (cell_of_row _ _ _ _ _ _ hH).trans rfl
          go_wp2
          refine bodyPost_ret (results_cell3 rfl _ _ w.heap.size _ _ _ _ rfl (set5 hH _ _ _ _ _) Try.underlying115 rfl (by kernel_rfl)) rfl ?_
          exact ⟨_, by rw [hP.out]; rfl, by rw [hP.out]; exact OwnB.nil _ _, below5 hbw (Nat.le_refl _) _ _ _ _ _⟩
  · have hP := Lib.hid (openP_short h512)
    go_enter Try.func120, Try.ntmps120
    go_wp2
    refine bodyPost_ret (results_cell3 rfl _ _ w.heap.size _ _ _ _ rfl (heap_alloc_new _ _) Try.underlying115 rfl (by kernel_rfl)) rfl ?_
    exact ⟨_, by rw [hP.out]; rfl, by rw [hP.out]; exact OwnB.nil _ _, bl.alloc (Nat.le_refl _) _⟩
end Go.Proofs.Ytbjaphldncagjaa
