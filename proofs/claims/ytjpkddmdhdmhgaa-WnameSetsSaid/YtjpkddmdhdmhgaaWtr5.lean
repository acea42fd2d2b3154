/- wname: Set; a writer that is none. -/
import Derived.Test.YtjpkddmdhdmhgaaWtr1
import Derived.Test.YtjpkddmdhdmhgaaFlash3
namespace Go.Proofs.Ytjpkddmdhdmhgaa
open Go.RowKit Go.Maps

/-- Bytes in the place of bytes. -/
def putAt (bs : List UInt8) (k : Nat) (r : List UInt8) : List UInt8 := bs.take k ++ (r ++ bs.drop (k + r.length))
theorem putAt_length {bs r : List UInt8} {k : Nat} (h : k + r.length ≤ bs.length) : (putAt bs k r).length = bs.length := by simp [putAt]; omega
def Wr.put (x : Wr) (k : Nat) (r : List UInt8) : Wr := { x with b := putAt x.b k r }

/-- What Set answers. -/
noncomputable def setOk (x : Wr) (at' n size : Int) : Prop := fitsB n size = true ∧ 0 ≤ at' ∧ at' ≤ x.b.length ∧ size ≤ x.b.length - at'
theorem putB_fit_length {n size : Int} (h : fitsB n size = true) : ((putB [] n size).length : Int) = size ∧ 1 ≤ size ∧ size ≤ 7 := by
  obtain ⟨h1, h2, _⟩ := fitsB_true h
  unfold putB
  rw [if_pos h]
  simp [length_be]
  omega

theorem OwnB.src {w : World} {B g n c : Nat} {bs : List UInt8} (h : OwnB w B (.slice (some ⟨g, 0, none⟩) n c) bs) : ∀ j v, (bs.map bV)[j]? = some v → w.cell? (Addr.add ⟨g, 0, none⟩ j) = some v := by
  intro j v hv
  have hj : j < bs.length := by have := (List.getElem?_eq_some_iff.1 hv).1; simpa using this
  obtain ⟨g', c', e, _, _, _, _, hc⟩ := h.flat (by omega)
  injection e with e1 _ _
  injection e1 with e1
  injection e1 with e1
  subst e1
  rw [List.getElem?_map] at hv
  obtain ⟨y, hy, rfl⟩ := Option.map_eq_some_iff.1 hv
  rw [add_flat, Nat.zero_add]
  exact hc j y hy

theorem Wtr.put {w w' w2 : World} {B g gb mb cap : Nat} {F : Nat → Prop} {x : Wr} {cur : Array Value} {k : Nat} {r : List UInt8} (hn : x.Near) (hg : w.heap[g]? = some (.cells #[.slice (some ⟨gb, 0, none⟩) x.b.length cap, .map (some mb)] 127 (0, 0))) (hm : MapIs w mb x.rests) (hgF : F g ∧ B ≤ g)
    (hbF : ∀ k, Value.ownBlock (.slice (some ⟨gb, 0, none⟩) x.b.length cap) = some k → F k ∧ k ≠ g ∧ k ≠ mb) (hmF : F mb ∧ mb ≠ g) (hF : ∀ k, F k → B ≤ k ∧ k < w.heap.size) (hbg : B ≤ gb) (hcb : w.heap[gb]? = some (.cells cur 5 (0, 0))) (hnc : x.b.length ≤ cap) (hcm : cap ≤ maxLen) (hcs : cur.size = cap) (htake : cur.toList.take x.b.length = x.b.map bV)
    (hk : k + r.length ≤ x.b.length) (hb2 : Below w.heap.size w w2) (hw' : w' = w2.setRow gb (cur.toList.take k ++ (r.map bV ++ cur.toList.drop (k + (r.map bV).length))).toArray) : Wtr w' B F g (x.put k r) ∧ Chg F w w' := by
  subst hw'
  have hgb := hbF gb rfl
  have hgl := (hF g hgF.1).2
  have hbl := (hF gb hgb.1).2
  have hml := (hF mb hmF.1).2
  have hc1 : Chg F w w2 := Chg.of_below hb2
  have hcb2 : w2.heap[gb]? = some (.cells cur 5 (0, 0)) := (hb2.block gb hbl).trans hcb
  have hsz := hb2.size
  refine ⟨⟨hn, _, mb, ?_, ⟨by simp, .inr ⟨gb, cap, _, rfl, hbg, setRow_heap _ _ _ _ _ _ hcb2, ?_, hcm, ?_, ?_⟩⟩, ?_, hgF, ?_, hmF, fun k hk => ⟨(hF k hk).1, by simp; have := (hF k hk).2; omega⟩⟩, hc1.setRow (Or.inl hgb.1) _⟩
  · rw [setRow_other _ _ _ _ (Ne.symm hgb.2.1), hb2.block g hgl, hg]
    simp only [Wr.put]
    rw [putAt_length hk]
  · simp only [Wr.put]; rw [putAt_length hk]; exact hnc
  · rw [List.size_toArray]
    simp only [List.length_append, List.length_take, List.length_drop, List.length_map, Array.length_toList]
    omega
  · simp only [Wr.put]
    rw [putAt_length hk, Nat.mul_one, List.toList_toArray]
    unfold putAt
    have e1 : cur.toList.take k = (x.b.map bV).take k := by rw [← htake, List.take_take, Nat.min_eq_left (by omega)]
    rw [e1, List.map_append, List.map_append, List.length_map]
    have e2 : (x.b.map bV).take k = (x.b.take k).map bV := List.map_take.symm
    rw [e2, List.take_append, List.take_append]
    have l1 : ((x.b.take k).map bV).length = k := by simp; omega
    rw [l1, List.take_of_length_le (by rw [l1]; omega), List.take_of_length_le (l := r.map bV) (by rw [List.length_map]; omega), List.length_map]
    congr 2
    rw [List.map_drop, ← htake, List.drop_take, Nat.sub_sub]
  · exact hm.keep (by rw [setRow_other _ _ _ _ (Ne.symm hgb.2.2)]; exact hb2.block mb hml)
  · simp only [Wr.put]
    rw [putAt_length hk]
    exact hbF

set_option maxRecDepth 100000 in
set_option maxHeartbeats 2000000 in
theorem wset_bad (w : World) (B g : Nat) (F : Nat → Prop) (x : Wr) (at' n size : Int) (h : Wtr w B F g x) (_ : x.b.length ≤ 1000000000) (hs : ¬ setOk x at' n size) (hr1 : -9223372036854775808 ≤ size) (hr2 : size ≤ 9223372036854775807) :
    Calls Try.prog 52 #[.pointer (some ⟨g, 0, none⟩), .int .i64 at', .int .i64 n, .int .i64 size] w (Ret (.int .i64 1) w) := by
  obtain ⟨hn, bv, mb, hg, hbv, _⟩ := h
  obtain ⟨A, c, rfl, _⟩ := hbv.form
  have c0 : w.cell? ⟨g, 0, none⟩ = some (.slice A x.b.length c) := (cell_of_row _ _ _ _ _ _ hg).trans rfl
  clear hg hbv
  unfold setOk at hs
  by_cases h1 : fitsB n size = true
  · have H1 := Lib.hid h1
    by_cases h2 : 0 ≤ at'
    · by_cases h3 : at' ≤ x.b.length
      · have h4 : (x.b.length : Int) - at' < size := by
          apply Int.not_le.1
          intro h5
          exact hs ⟨h1, h2, h3, h5⟩
        clear hs h1
        go_enter Try.func52, Try.ntmps52
        go_wp2_with (go_at_call 67; refine (fits_any _ _ _).mono ?_; rw [H1.out]; rintro e w1 ⟨rfl, rfl⟩)
        go_ret
        exact ⟨rfl, rfl⟩
      · clear hs h1
        go_enter Try.func52, Try.ntmps52
        go_wp2_with (go_at_call 67; refine (fits_any _ _ _).mono ?_; rw [H1.out]; rintro e w1 ⟨rfl, rfl⟩)
        go_ret
        exact ⟨rfl, rfl⟩
    · clear hs h1
      go_enter Try.func52, Try.ntmps52
      go_wp2_with (go_at_call 67; refine (fits_any _ _ _).mono ?_; rw [H1.out]; rintro e w1 ⟨rfl, rfl⟩)
      go_ret
      exact ⟨rfl, rfl⟩
  · have H1 := Lib.hid (show fitsB n size = false by simpa using h1)
    clear hs h1
    go_enter Try.func52, Try.ntmps52
    go_wp2_with (go_at_call 67; refine (fits_any _ _ _).mono ?_; rw [H1.out]; rintro e w1 ⟨rfl, rfl⟩)
    go_ret
    exact ⟨rfl, rfl⟩

set_option maxRecDepth 100000 in
set_option maxHeartbeats 2000000 in
theorem wset_any (w : World) (B g : Nat) (F : Nat → Prop) (x : Wr) (k : Nat) (n size : Int) (h : Wtr w B F g x) (hx : x.b.length ≤ 1000000000) (hs : setOk x k n size) :
    Calls Try.prog 52 #[.pointer (some ⟨g, 0, none⟩), .int .i64 (k : Int), .int .i64 n, .int .i64 size] w (RetX w B F g (x.put k (putB [] n size)) (.int .i64 0)) := by
  obtain ⟨h1, h2, h3, h4⟩ := hs
  obtain ⟨hpl, hp1, hp7⟩ := putB_fit_length h1
  have H1 := Lib.hid h1
  clear h1
  obtain ⟨hn, bv, mb, hg, hbv, hm, hgF, hbF, hmF, hF⟩ := h
  have hbv' := hbv
  obtain ⟨_, hb2⟩ := hbv'
  rcases hb2 with ⟨_, h0⟩ | ⟨gb, cap, cur, rfl, hbg, hcb, hnc, hcm, hcs, htake⟩
  · exfalso; omega
  have c0 : w.cell? ⟨g, 0, none⟩ = some (.slice (some ⟨gb, 0, none⟩) x.b.length cap) := (cell_of_row _ _ _ _ _ _ hg).trans rfl
  have HG := Lib.hid hg
  have HC := Lib.hid hcb
  have HT := Lib.hid htake
  have HS := Lib.hid hcs
  have hgb := hbF gb rfl
  have hgl := (hF g hgF.1).2
  have hbl := (hF gb hgb.1).2
  rw [Nat.mul_one] at htake
  have hk1 : (k : Int) ≤ x.b.length := h3
  have hk0 : (0 : Int) ≤ k := Int.natCast_nonneg k
  clear hg hcb hcs
  have htk := Lib.hid htake
  clear htake HT
  go_enter Try.func52, Try.ntmps52
  go_wp2_with (go_at_call 67; refine (fits_any _ _ _).mono ?_; rw [H1.out]; rintro e w1 ⟨rfl, rfl⟩)
  have hlen : (putB [] n size).length ≤ x.b.length - k := by omega
  have hpl7 : (putB [] n size).length ≤ 7 := by omega
  have hp0 : 0 < (putB [] n size).length := by omega
  generalize hr : putB [] n size = r at hlen hpl7 hp0
  have HR := Lib.hid hr
  clear hr hpl
  go_region_held3 (fun w' => w'.cell? ⟨g, 0, none⟩ = some (.slice (some ⟨gb, 0, none⟩) x.b.length cap))
    (first
      | with_reducible exact c0
      | with_reducible exact below_cell bl.drew c0
      | with_reducible exact below_cell hbD c0
      | with_reducible exact (cell_setRow_other _ _ _ ⟨g, 0, none⟩ (Ne.symm hgb.2.1)).trans (below_cell hbD c0))
    (first
      | (go_at_call 68; refine (put_any none 0 0 [] n size w.drew (Rd.nil _ _ _) (by omega)).mono ?_; rintro e w2 ⟨v2, rfl, hown2, hb2⟩; rw [HR.out] at hown2; have hbD : Below w.heap.size w w2 := nx bl.drew hb2; obtain ⟨g2, cc2, rfl, hg2, hgl2, hl2, hc2, hcell2⟩ := hown2.flat hp0; have HC2 := Lib.hid ((hbD.block gb hbl).trans HC.out); have HSRC := Lib.hid hown2.src; clear hown2 hcell2)
      | (refine step_copy_own (by rfl) (.tmp 46) (.tmp 49) _ _ (by rfl) 5 Try.underlying22 sizeB gb k (x.b.length - k) (cap - k) ⟨g2, 0, none⟩ r.length cc2 (by rfl) (by rfl) _ _ HC2.out (r.map bV) (by rw [List.length_map]; exact (Nat.min_eq_left hlen).symm) HSRC.out (by rw [List.length_map, HS.out]; omega) (bV_one r) ?_))
  go_wp2
  go_ret
  have hp := Wtr.put hn HG.out hm hgF hbF hmF hF hbg HC.out hnc hcm (HS.out.trans (Nat.mul_one _)) htk.out (k := k) (r := r) (by omega) hbD rfl
  exact ⟨rfl, F, HR.out.symm ▸ hp.1, hp.2, fun z hz => .inl hz⟩

set_option maxHeartbeats 400000 in
theorem wnil_raw (w : World) (A : Option Addr) (n c : Nat) : Calls Try.prog 40 #[.pointer none, .slice A n c] w (Ret (.tuple #[]) w) := by
  go_enter Try.func40, Try.ntmps40
  go_wp2
  go_end0
  exact ⟨rfl, rfl⟩
set_option maxHeartbeats 400000 in
theorem wnil_set (w : World) (a n s : Int) : Calls Try.prog 52 #[.pointer none, .int .i64 a, .int .i64 n, .int .i64 s] w (Ret (.int .i64 1) w) := by
  go_enter Try.func52, Try.ntmps52
  go_wp2
  go_ret
  exact ⟨rfl, rfl⟩
set_option maxHeartbeats 400000 in
theorem wnil_name (w : World) (A : Option Addr) (n c : Nat) (b : Bool) : Calls Try.prog 44 #[.pointer none, .slice A n c, .bool b] w (Ret (.int .i64 1) w) := by
  go_enter Try.func44, Try.ntmps44
  go_wp2
  go_ret
  exact ⟨rfl, rfl⟩
set_option maxHeartbeats 400000 in
theorem wnil_bytes (w : World) : Calls Try.prog 48 #[.pointer none] w (Ret (.slice none 0 0) w) := by
  go_enter Try.func48, Try.ntmps48
  go_wp2
  go_ret
  exact ⟨rfl, rfl⟩
set_option maxHeartbeats 400000 in
theorem wnil_len (w : World) : Calls Try.prog 47 #[.pointer none] w (Ret (.int .i64 0) w) := by
  go_enter Try.func47, Try.ntmps47
  go_wp2
  go_ret
  exact ⟨rfl, rfl⟩
end Go.Proofs.Ytjpkddmdhdmhgaa
