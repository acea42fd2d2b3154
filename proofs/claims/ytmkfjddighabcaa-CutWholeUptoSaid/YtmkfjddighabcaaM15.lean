/- Parts of a proof, joined: Steps, Wtr5, RrPut, MsRaw, AppE, MsEncP, LawT, Ans06. -/
import Derived.Deep.RegionHeld3
import Derived.Test.YtmkfjddighabcaaM01
import Derived.Test.YtmkfjddighabcaaM02
import Derived.Test.YtmkfjddighabcaaM06
import Derived.Test.YtmkfjddighabcaaM12
import Derived.Test.YtmkfjddighabcaaM14
/- Steps of a region that draws; a row of one's own, laid out. No program in it. -/
namespace Go.Proofs.Ytmkfjddighabcaa
open Go.RowKit

theorem step_copy_own {P : Program} {w : World} {ops : Array Oper} {o : Oper} {a : Act} {K : Act → World → Prop} {Q : Exit → Act → World → Prop} {E : Prop} (hgd : Region.wanted o (yielded ops a.tmps) = true) (d s : Operand) (dT sT : TypeId)
    (ho : o.op = .call { callee := .builtin .copy, args := #[d, s], argTypes := #[dT, sT] }) (elem : TypeId) (hu : P.underlying dT = some (.slice elem)) (hsz : (P.info? elem).map (·.size) = some 1)
    (g off dLen dCap : Nat) (ad : Addr) (sLen sCap : Nat) (hd : a.eval d = .slice (some ⟨g, off, none⟩) dLen dCap) (hs : a.eval s = .slice (some ad) sLen sCap)
    (cur : Array Value) (t : TypeId) (hg : w.heap[g]? = some (.cells cur t (0, 0))) (cs : List Value) (hn : cs.length = Nat.min sLen dLen)
    (hsrc : ∀ j v, cs[j]? = some v → w.cell? (ad.add j) = some v) (hfit : off + cs.length ≤ cur.size) (h1 : ∀ v ∈ cs, v.oneCell' = true)
    (h : K (a.put o.dst (goInt cs.length)) (w.setRow g (cur.toList.take off ++ (cs ++ cur.toList.drop (off + cs.length))).toArray)) : if Region.wanted o (yielded ops a.tmps) = true then Oper.wp P o a w K Q else E := by
  rw [if_pos hgd]
  exact wp_copy_own d s dT sT ho elem hu hsz g off dLen dCap ad sLen sCap hd hs cur t hg cs hn hsrc hfit h1 h

theorem OwnE.row {α : Type} {E : Enc α} {e : TypeId} {S : Nat → Prop} {w : World} {base : Nat} {v : Value} {xs : List α} (h : OwnE E e S w base v xs) (hn : 0 < xs.length) : ∃ g c cur, v = .slice (some ⟨g, 0, none⟩) xs.length c ∧ base ≤ g ∧ xs.length ≤ c ∧ w.heap[g]? = some (.cells cur e (0, 0)) ∧ cur.size = c * E.size ∧
    ∀ i x, xs[i]? = some x → E.R S w ((cur.toList.drop (i * E.size)).take E.size) x := by
  obtain ⟨cells, hw, hr, hS⟩ := h
  rcases hw.2 with ⟨rfl, h0⟩ | ⟨g, cap, cur, rfl, h2, h3, h4, h5, h6, h7⟩
  · omega
  · refine ⟨g, cap, cur, rfl, h2, h4, h3, h6, fun i x hx => ?_⟩
    have hi : i < xs.length := (List.getElem?_eq_some_iff.1 hx).1
    have hi1 : (i + 1) * E.size ≤ xs.length * E.size := Nat.mul_le_mul_right _ hi
    have hi3 : (i + 1) * E.size = i * E.size + E.size := by rw [Nat.add_mul, Nat.one_mul]
    have := hr i x hx
    rw [← h7, List.drop_take, List.take_take, Nat.min_eq_left (by omega)] at this
    exact this

end Go.Proofs.Ytmkfjddighabcaa

/- wname: Set; a writer that is none. -/
namespace Go.Proofs.Ytmkfjddighabcaa
open Go.RowKit Go.Maps

/-- What Set answers. -/
noncomputable def setOk (x : Wr) (at' n size : Int) : Prop := fitsB n size = true ∧ 0 ≤ at' ∧ at' ≤ x.b.length ∧ size ≤ x.b.length - at'
theorem putB_fit_length {n size : Int} (h : fitsB n size = true) : ((putB [] n size).length : Int) = size ∧ 1 ≤ size ∧ size ≤ 7 := by
  obtain ⟨h1, h2, _⟩ := fitsB_true h
  unfold putB
  rw [if_pos h]
  simp [length_be]
  omega

theorem OwnB.src {w : World} {B g n c : Nat} {bs : List UInt8} (h : OwnB w B (.slice (some ⟨g, 0, none⟩) n c) bs) : ∀ j v, (bs.map bV)[j]? = some v → w.cell? (Addr.add ⟨g, 0, none⟩ j) = some v := by
  intro j v hv
  have hj : j < bs.length := by have := (List.getElem?_eq_some_iff.1 hv).1; simpa using this
  obtain ⟨g', c', e, _, _, _, _, hc⟩ := h.flat (by omega)
  injection e with e1 _ _
  injection e1 with e1
  injection e1 with e1
  subst e1
  rw [List.getElem?_map] at hv
  obtain ⟨y, hy, rfl⟩ := Option.map_eq_some_iff.1 hv
  rw [add_flat, Nat.zero_add]
  exact hc j y hy

theorem Wtr.put {w w' w2 : World} {B g gb mb cap : Nat} {F : Nat → Prop} {x : Wr} {cur : Array Value} {k : Nat} {r : List UInt8} (hn : x.Near) (hg : w.heap[g]? = some (.cells #[.slice (some ⟨gb, 0, none⟩) x.b.length cap, .map (some mb)] 161 (0, 0))) (hm : MapIs w mb x.rests) (hgF : F g ∧ B ≤ g)
    (hbF : ∀ k, Value.ownBlock (.slice (some ⟨gb, 0, none⟩) x.b.length cap) = some k → F k ∧ k ≠ g ∧ k ≠ mb) (hmF : F mb ∧ mb ≠ g) (hF : ∀ k, F k → B ≤ k ∧ k < w.heap.size) (hbg : B ≤ gb) (hcb : w.heap[gb]? = some (.cells cur 5 (0, 0))) (hnc : x.b.length ≤ cap) (hcm : cap ≤ maxLen) (hcs : cur.size = cap) (htake : cur.toList.take x.b.length = x.b.map bV)
    (hk : k + r.length ≤ x.b.length) (hb2 : Below w.heap.size w w2) (hw' : w' = w2.setRow gb (cur.toList.take k ++ (r.map bV ++ cur.toList.drop (k + (r.map bV).length))).toArray) : Wtr w' B F g (x.put k r) ∧ Chg F w w' := by
  subst hw'
  have hgb := hbF gb rfl
  have hgl := (hF g hgF.1).2
  have hbl := (hF gb hgb.1).2
  have hml := (hF mb hmF.1).2
  have hc1 : Chg F w w2 := Chg.of_below hb2
  have hcb2 : w2.heap[gb]? = some (.cells cur 5 (0, 0)) := (hb2.block gb hbl).trans hcb
  have hsz := hb2.size
  refine ⟨⟨hn, _, mb, ?_, ⟨by simp, .inr ⟨gb, cap, _, rfl, hbg, setRow_heap _ _ _ _ _ _ hcb2, ?_, hcm, ?_, ?_⟩⟩, ?_, hgF, ?_, hmF, fun k hk => ⟨(hF k hk).1, by simp; have := (hF k hk).2; omega⟩⟩, hc1.setRow (Or.inl hgb.1) _⟩
  · rw [setRow_other _ _ _ _ (Ne.symm hgb.2.1), hb2.block g hgl, hg]
    simp only [Wr.put]
    rw [putAt_length hk]
  · simp only [Wr.put]; rw [putAt_length hk]; exact hnc
  · rw [List.size_toArray]
    simp only [List.length_append, List.length_take, List.length_drop, List.length_map, Array.length_toList]
    omega
  · simp only [Wr.put]
    rw [putAt_length hk, Nat.mul_one, List.toList_toArray]
    unfold putAt
    have e1 : cur.toList.take k = (x.b.map bV).take k := by rw [← htake, List.take_take, Nat.min_eq_left (by omega)]
    rw [e1, List.map_append, List.map_append, List.length_map]
    have e2 : (x.b.map bV).take k = (x.b.take k).map bV := List.map_take.symm
    rw [e2, List.take_append, List.take_append]
    have l1 : ((x.b.take k).map bV).length = k := by simp; omega
    rw [l1, List.take_of_length_le (by rw [l1]; omega), List.take_of_length_le (l := r.map bV) (by rw [List.length_map]; omega), List.length_map]
    congr 2
    rw [List.map_drop, ← htake, List.drop_take, Nat.sub_sub]
  · exact hm.keep (by rw [setRow_other _ _ _ _ (Ne.symm hgb.2.2)]; exact hb2.block mb hml)
  · simp only [Wr.put]
    rw [putAt_length hk]
    exact hbF

set_option maxRecDepth 100000 in
set_option maxHeartbeats 2000000 in
theorem wset_bad (w : World) (B g : Nat) (F : Nat → Prop) (x : Wr) (at' n size : Int) (h : Wtr w B F g x) (_ : x.b.length ≤ 1000000000) (hs : ¬ setOk x at' n size) (hr1 : -9223372036854775808 ≤ size) (hr2 : size ≤ 9223372036854775807) :
    Calls Try.prog 139 #[.pointer (some ⟨g, 0, none⟩), .int .i64 at', .int .i64 n, .int .i64 size] w (Ret (.int .i64 1) w) := by
  obtain ⟨hn, bv, mb, hg, hbv, _⟩ := h
  obtain ⟨A, c, rfl, _⟩ := hbv.form
  have c0 : w.cell? ⟨g, 0, none⟩ = some (.slice A x.b.length c) := (cell_of_row _ _ _ _ _ _ hg).trans rfl
  clear hg hbv
  unfold setOk at hs
  by_cases h1 : fitsB n size = true
  · have H1 := Lib.hid h1
    by_cases h2 : 0 ≤ at'
    · by_cases h3 : at' ≤ x.b.length
      · have h4 : (x.b.length : Int) - at' < size := by
          apply Int.not_le.1
          intro h5
          exact hs ⟨h1, h2, h3, h5⟩
        clear hs h1
        go_enter Try.func139, Try.ntmps139
        go_wp2_with (go_at_call 54; refine (fits_any _ _ _).mono ?_; rw [H1.out]; rintro e w1 ⟨rfl, rfl⟩)
        go_ret
        exact ⟨rfl, rfl⟩
      · clear hs h1
        go_enter Try.func139, Try.ntmps139
        go_wp2_with (go_at_call 54; refine (fits_any _ _ _).mono ?_; rw [H1.out]; rintro e w1 ⟨rfl, rfl⟩)
        go_ret
        exact ⟨rfl, rfl⟩
    · clear hs h1
      go_enter Try.func139, Try.ntmps139
      go_wp2_with (go_at_call 54; refine (fits_any _ _ _).mono ?_; rw [H1.out]; rintro e w1 ⟨rfl, rfl⟩)
      go_ret
      exact ⟨rfl, rfl⟩
  · have H1 := Lib.hid (show fitsB n size = false by simpa using h1)
    clear hs h1
    go_enter Try.func139, Try.ntmps139
    go_wp2_with (go_at_call 54; refine (fits_any _ _ _).mono ?_; rw [H1.out]; rintro e w1 ⟨rfl, rfl⟩)
    go_ret
    exact ⟨rfl, rfl⟩

set_option maxRecDepth 100000 in
set_option maxHeartbeats 2000000 in
theorem wset_any (w : World) (B g : Nat) (F : Nat → Prop) (x : Wr) (k : Nat) (n size : Int) (h : Wtr w B F g x) (hx : x.b.length ≤ 1000000000) (hs : setOk x k n size) :
    Calls Try.prog 139 #[.pointer (some ⟨g, 0, none⟩), .int .i64 (k : Int), .int .i64 n, .int .i64 size] w (RetX w B F g (x.put k (putB [] n size)) (.int .i64 0)) := by
  obtain ⟨h1, h2, h3, h4⟩ := hs
  obtain ⟨hpl, hp1, hp7⟩ := putB_fit_length h1
  have H1 := Lib.hid h1
  clear h1
  obtain ⟨hn, bv, mb, hg, hbv, hm, hgF, hbF, hmF, hF⟩ := h
  have hbv' := hbv
  obtain ⟨_, hb2⟩ := hbv'
  rcases hb2 with ⟨_, h0⟩ | ⟨gb, cap, cur, rfl, hbg, hcb, hnc, hcm, hcs, htake⟩
  · exfalso; omega
  have c0 : w.cell? ⟨g, 0, none⟩ = some (.slice (some ⟨gb, 0, none⟩) x.b.length cap) := (cell_of_row _ _ _ _ _ _ hg).trans rfl
  have HG := Lib.hid hg
  have HC := Lib.hid hcb
  have HT := Lib.hid htake
  have HS := Lib.hid hcs
  have hgb := hbF gb rfl
  have hgl := (hF g hgF.1).2
  have hbl := (hF gb hgb.1).2
  rw [Nat.mul_one] at htake
  have hk1 : (k : Int) ≤ x.b.length := h3
  have hk0 : (0 : Int) ≤ k := Int.natCast_nonneg k
  clear hg hcb hcs
  have htk := Lib.hid htake
  clear htake HT
  go_enter Try.func139, Try.ntmps139
  go_wp2_with (go_at_call 54; refine (fits_any _ _ _).mono ?_; rw [H1.out]; rintro e w1 ⟨rfl, rfl⟩)
  have hlen : (putB [] n size).length ≤ x.b.length - k := by omega
  have hpl7 : (putB [] n size).length ≤ 7 := by omega
  have hp0 : 0 < (putB [] n size).length := by omega
  generalize hr : putB [] n size = r at hlen hpl7 hp0
  have HR := Lib.hid hr
  clear hr hpl
  go_region_held3 (fun w' => w'.cell? ⟨g, 0, none⟩ = some (.slice (some ⟨gb, 0, none⟩) x.b.length cap))
    (first
      | with_reducible exact c0
      | with_reducible exact below_cell bl.drew c0
      | with_reducible exact below_cell hbD c0
      | with_reducible exact (cell_setRow_other _ _ _ ⟨g, 0, none⟩ (Ne.symm hgb.2.1)).trans (below_cell hbD c0))
    (first
      | (go_at_call 135; refine (put_any none 0 0 [] n size w.drew (Rd.nil _ _ _) (by omega)).mono ?_; rintro e w2 ⟨v2, rfl, hown2, hb2⟩; rw [HR.out] at hown2; have hbD : Below w.heap.size w w2 := nx bl.drew hb2; obtain ⟨g2, cc2, rfl, hg2, hgl2, hl2, hc2, hcell2⟩ := hown2.flat hp0; have HC2 := Lib.hid ((hbD.block gb hbl).trans HC.out); have HSRC := Lib.hid hown2.src; clear hown2 hcell2)
      | (refine step_copy_own (by rfl) (.tmp 46) (.tmp 49) _ _ (by rfl) 5 Try.underlying26 sizeB gb k (x.b.length - k) (cap - k) ⟨g2, 0, none⟩ r.length cc2 (by rfl) (by rfl) _ _ HC2.out (r.map bV) (by rw [List.length_map]; exact (Nat.min_eq_left hlen).symm) HSRC.out (by rw [List.length_map, HS.out]; omega) (bV_one r) ?_))
  go_wp2
  go_ret
  have hp := Wtr.put hn HG.out hm hgF hbF hmF hF hbg HC.out hnc hcm (HS.out.trans (Nat.mul_one _)) htk.out (k := k) (r := r) (by omega) hbD rfl
  exact ⟨rfl, F, HR.out.symm ▸ hp.1, hp.2, fun z hz => .inl hz⟩

set_option maxHeartbeats 400000 in
theorem wnil_raw (w : World) (A : Option Addr) (n c : Nat) : Calls Try.prog 90 #[.pointer none, .slice A n c] w (Ret (.tuple #[]) w) := by
  go_enter Try.func90, Try.ntmps90
  go_wp2
  go_end0
  exact ⟨rfl, rfl⟩
set_option maxHeartbeats 400000 in
theorem wnil_set (w : World) (a n s : Int) : Calls Try.prog 139 #[.pointer none, .int .i64 a, .int .i64 n, .int .i64 s] w (Ret (.int .i64 1) w) := by
  go_enter Try.func139, Try.ntmps139
  go_wp2
  go_ret
  exact ⟨rfl, rfl⟩
set_option maxHeartbeats 400000 in
theorem wnil_name (w : World) (A : Option Addr) (n c : Nat) (b : Bool) : Calls Try.prog 88 #[.pointer none, .slice A n c, .bool b] w (Ret (.int .i64 1) w) := by
  go_enter Try.func88, Try.ntmps88
  go_wp2
  go_ret
  exact ⟨rfl, rfl⟩
set_option maxHeartbeats 400000 in
theorem wnil_bytes (w : World) : Calls Try.prog 91 #[.pointer none] w (Ret (.slice none 0 0) w) := by
  go_enter Try.func91, Try.ntmps91
  go_wp2
  go_ret
  exact ⟨rfl, rfl⟩
set_option maxHeartbeats 400000 in
theorem wnil_len (w : World) : Calls Try.prog 137 #[.pointer none] w (Ret (.int .i64 0) w) := by
  go_enter Try.func137, Try.ntmps137
  go_wp2
  go_ret
  exact ⟨rfl, rfl⟩
end Go.Proofs.Ytmkfjddighabcaa

/- rr.Put in general. -/
namespace Go.Proofs.Ytmkfjddighabcaa
open Go.RowKit
set_option maxRecDepth 100000

structure RrSt (w wr : World) (B g : Nat) (F Fr : Nat → Prop) (y : Wr) (q : Nat) (S : Nat → Prop) (s : RS) (r : RR) : Prop where
  W : Wtr wr B Fr g y
  C : Chg F w wr
  N : ∀ z, Fr z → F z ∨ w.heap.size ≤ z
  Q : RRow wr q s r
  D : RIn S wr s r
  qF : ¬ Fr q
  SF : ∀ b, S b → b < wr.heap.size ∧ ¬ Fr b
section
variable {w wr w' : World} {B g q : Nat} {F Fr F' S : Nat → Prop} {y y' : Wr} {s : RS} {r : RR}
theorem RrSt.step (h : RrSt w wr B g F Fr y q S s r) (hw : Wtr w' B F' g y') (hc : Chg Fr wr w') (hF : ∀ z, F' z → Fr z ∨ wr.heap.size ≤ z) : RrSt w w' B g F F' y' q S s r where
  W := hw
  C := h.C.trans hc h.N
  N := new_trans h.C h.N hF
  Q := hc.heap h.Q h.qF
  D := h.D.chg hc h.SF
  qF := fun hq => (hF q hq).elim h.qF (fun hl => by have := (Array.getElem?_eq_some_iff.1 h.Q).1; omega)
  SF := fun b hb => ⟨Nat.lt_of_lt_of_le (h.SF b hb).1 hc.size, fun hq => (hF b hq).elim (h.SF b hb).2 (fun hl => by have := (h.SF b hb).1; omega)⟩
theorem RrSt.below (h : RrSt w wr B g F Fr y q S s r) (hb : Below wr.heap.size wr w') : RrSt w w' B g F Fr y q S s r := h.step (h.W.below hb) (Chg.of_below hb) (fun _ hz => .inl hz)
theorem RrSt.done (h : RrSt w wr B g F Fr y q S s r) {v : Value} {u : Wr} (hz : y = u) : RetX w B F g u v (.returned v) wr := by subst hz; exact ⟨rfl, Fr, h.W, h.C, h.N⟩
theorem RrSt.start {x : Wr} (h : Wtr w B F g x) (hd : RIn S w s r) (hS : ∀ b, S b → b < w.heap.size ∧ ¬ F b) : RrSt w (w.alloc (.cells (rrCells s r) 44)) B g F F x w.heap.size S s r := by
  have hb : Below w.heap.size w (w.alloc (.cells (rrCells s r) 44)) := bl.alloc (Nat.le_refl _) _
  exact ⟨h.below hb, Chg.of_below hb, fun _ hz => .inl hz, RRow.made w s r, hd.below hb (fun b hb' => (hS b hb').1), fun hq => by have := (h.F_lt _ hq).2; omega, fun b hb' => ⟨Nat.lt_of_lt_of_le (hS b hb').1 hb.size, (hS b hb').2⟩⟩
end

set_option maxHeartbeats 8000000 in
theorem rrPut_any (w : World) (B g : Nat) (F : Nat → Prop) (x : Wr) (s : RS) (r : RR) (S : Nat → Prop) (hf : FineR r) (h : Wtr w B F g x) (hd : RIn S w s r) (hS : ∀ b, S b → b < w.heap.size ∧ ¬ F b) (hx : x.b.length ≤ 8990000) (hxr : x.rests.length ≤ 8990000) :
    Calls Try.prog 89 #[.pointer (some ⟨g, 0, none⟩), rrV s r] w (RetX w B F g (x.rr r) (.int .i64 0)) := by
  have hst := RrSt.start h hd hS
  obtain ⟨w1, hw1⟩ : ∃ w1, w1 = w.alloc (.cells (rrCells s r) 44) := ⟨_, rfl⟩
  rw [← hw1] at hst
  have ST1 := Lib.hid hst
  obtain ⟨x0, x1, x2, x3, x4, x5, x6, x7, x8⟩ := hst.Q.cells
  have HF := Lib.hid hf
  have HFB := Lib.hid (fineRB_true hf)
  have hln : r.name.length ≤ 255 := by have := sizeN_length r.name; have := hf.1.2; omega
  have HLN := Lib.hid hln
  have HRN : Hid (r.data.host.length ≤ 1000000000 ∧ r.data.mail.length ≤ 1000000000 ∧ r.data.nums.length ≤ 1000000000 ∧ r.data.texts.length ≤ 1000000000) := by
    have hh := hf.2.1.2
    have h1 := hh.2.2.1
    have h4 : r.data.host.length ≤ 255 := by
      have := hh.2.2.2.1; unfold hostP at this
      split at this
      · have h5 := sizeN_length r.data.host; have := this.2; omega
      · rw [this]; simp
    have h5 : r.data.mail.length ≤ 255 := by
      have := hh.2.2.2.2.1; unfold hostP at this
      split at this
      · have h5 := sizeN_length r.data.mail; have := this.2; omega
      · rw [this]; simp
    have h6 : r.data.texts.length ≤ 64 := by
      have := hh.2.2.2.2.2.2; unfold textsP at this
      split at this
      · exact this.2.1
      · rw [this]; simp
    have h7 : (shapeP r.type).nums ≤ 5 := by rcases shape_cases r.type with e | e | e | e | e | e | e | e <;> rw [e] <;> decide
    exact ⟨by omega, by omega, by omega, by omega⟩
  obtain ⟨y1, hy1⟩ : ∃ y1, y1 = x.name r.name true := ⟨_, rfl⟩
  obtain ⟨y2, hy2⟩ : ∃ y2, y2 = y1.raw (putB [] r.type 2) := ⟨_, rfl⟩
  obtain ⟨y3, hy3⟩ : ∃ y3, y3 = y2.raw (putB [] r.cls 2) := ⟨_, rfl⟩
  obtain ⟨y4, hy4⟩ : ∃ y4, y4 = y3.raw (putB [] r.ttl 4) := ⟨_, rfl⟩
  obtain ⟨y5, hy5⟩ : ∃ y5, y5 = y4.raw (putB [] 0 2) := ⟨_, rfl⟩
  obtain ⟨y6, hy6⟩ : ∃ y6, y6 = y5.data (shapeP r.type) r.data := ⟨_, rfl⟩
  have hhead : y4 = x.rrHead r := by rw [hy4, hy3, hy2, hy1]; rfl
  have hl1 := Wr.name_le (x := x) r.name true
  have hr1 := Wr.name_rests (x := x) r.name true
  rw [← hy1] at hl1 hr1
  have hl2 : y2.b.length ≤ y1.b.length + 7 := by rw [hy2, raw_len]; have := putB_len r.type 2; omega
  have hl3 : y3.b.length ≤ y2.b.length + 7 := by rw [hy3, raw_len]; have := putB_len r.cls 2; omega
  have hl4 : y4.b.length ≤ y3.b.length + 7 := by rw [hy4, raw_len]; have := putB_len r.ttl 4; omega
  have hl5 : y5.b.length = y4.b.length + 2 := by rw [hy5, raw_len, put02_len]
  have hr5 : y5.rests = y1.rests := by rw [hy5, hy4, hy3, hy2]; rfl
  have hl6 := Wr.data_len y5 hf.2.1.2
  rw [← hy6] at hl6
  have hsz := hf.1.2
  obtain ⟨n, hn⟩ : ∃ n, n = x.rrLen r := ⟨_, rfl⟩
  have hn2 : y6.b.length = y4.b.length + (2 + n) := by
    have : n = y6.b.length - y4.b.length - 2 := by rw [hn, hy6, hy5, hhead]; rfl
    omega
  have hnl : n < 65536 := by rw [hn]; exact x.rrLen_lt hf
  have HY1 := Lib.hid hy1
  have HY2 := Lib.hid hy2
  have HY3 := Lib.hid hy3
  have HY4 := Lib.hid hy4
  have HY5 := Lib.hid hy5
  have HY6 := Lib.hid hy6
  have HX : Hid (x.b.length ≤ 8990000 ∧ x.rests.length ≤ 8990000 ∧ y1.b.length ≤ 8990300 ∧ y2.b.length ≤ 8990310 ∧ y3.b.length ≤ 8990320 ∧ y4.b.length ≤ 8990330 ∧ y5.b.length ≤ 8990340 ∧ y5.rests.length ≤ 8990300 ∧ y6.b.length ≤ 9100000) := by
    rw [hr5]
    exact ⟨by omega, by omega, by omega, by omega, by omega, by omega, by omega, by omega, by omega⟩
  have HN2 := Lib.hid hn2
  have HNL := Lib.hid hnl
  have HEND : Hid (y6.put y4.b.length (putB [] (n : Int) 2) = x.rr r) := by
    show _ = _
    rw [hn, hy6, hy5, hhead]; rfl
  unfold rrV
  unfold rrCells at hw1 ⊢
  clear h hd hS hf hst hln hx hxr hy1 hy2 hy3 hy4 hy5 hy6 hhead hl1 hr1 hl2 hl3 hl4 hl5 hr5 hl6 hsz hn hn2 hnl
  go_enter Try.func89, Try.ntmps89
  go_upto_region 1 with (fail)
  rw [← hw1]
  clear hw1
  go_upto_region 3 with (first
    | (go_at_call 97; refine (rrSound_any s r w1 ST1.out.D (fun b hb => (ST1.out.SF b hb).1) (by have := HLN.out; omega) HRN.out).mono ?_; rw [HFB.out]; rintro e w2 ⟨v2, rfl, rfl, hb2⟩; have ST2 := Lib.hid (ST1.out.below hb2); clear hb2)
    | fail)
  clear x0 x1 x2 x3 x4 x5 x6 x7 x8
  obtain ⟨x0, x1, x2, x3, x4, x5, x6, x7, x8⟩ := ST2.out.Q.cells
  go_upto_region 4 with (first
    | (go_at_call 88; refine (name_any w2 B g F x s.A _ s.c r.name true ST2.out.W ST2.out.D.n ST2.out.SF (by have := HLN.out; omega) ST2.out.D.cn.1 ST2.out.D.cn.2 (by have := HX.out; omega) (by have := HX.out; omega)).mono ?_; rw [nameS_sound HF.out.1, ← HY1.out]; rintro e w3 ⟨rfl, F3, h3, hc3, hF3⟩; have ST3 := Lib.hid (ST2.out.step h3 hc3 hF3); clear h3 hc3 hF3)
    | fail)
  clear x0 x1 x2 x3 x4 x5 x6 x7 x8
  obtain ⟨x0, x1, x2, x3, x4, x5, x6, x7, x8⟩ := ST3.out.Q.cells
  go_upto_region 5 with (first
    | (go_at_call 87; refine (wnum_any w3 B g F3 y1 r.type 2 ST3.out.W (by have := HX.out; omega)).mono ?_; rw [← HY2.out]; rintro e w4 ⟨rfl, F4, h4, hc4, hF4⟩; have ST4 := Lib.hid (ST3.out.step h4 hc4 hF4); clear h4 hc4 hF4)
    | fail)
  clear x0 x1 x2 x3 x4 x5 x6 x7 x8
  obtain ⟨x0, x1, x2, x3, x4, x5, x6, x7, x8⟩ := ST4.out.Q.cells
  go_upto_region 6 with (first
    | (go_at_call 87; refine (wnum_any w4 B g F4 y2 r.cls 2 ST4.out.W (by have := HX.out; omega)).mono ?_; rw [← HY3.out]; rintro e w5 ⟨rfl, F5, h5, hc5, hF5⟩; have ST5 := Lib.hid (ST4.out.step h5 hc5 hF5); clear h5 hc5 hF5)
    | fail)
  clear x0 x1 x2 x3 x4 x5 x6 x7 x8
  obtain ⟨x0, x1, x2, x3, x4, x5, x6, x7, x8⟩ := ST5.out.Q.cells
  go_upto_region 7 with (first
    | (go_at_call 87; refine (wnum_any w5 B g F5 y3 r.ttl 4 ST5.out.W (by have := HX.out; omega)).mono ?_; rw [← HY4.out]; rintro e w6 ⟨rfl, F6, h6, hc6, hF6⟩; have ST6 := Lib.hid (ST5.out.step h6 hc6 hF6); clear h6 hc6 hF6)
    | fail)
  clear x0 x1 x2 x3 x4 x5 x6 x7 x8
  go_upto_region 9 with (first
    | (go_at_call 137; refine (wlen_any w6 B g F6 y4 ST6.out.W).mono ?_; rintro e w7 ⟨rfl, rfl⟩)
    | (go_at_call 87; refine (wnum_any w6 B g F6 y4 0 2 ST6.out.W (by have := HX.out; omega)).mono ?_; rw [← HY5.out]; rintro e w8 ⟨rfl, F8, h8, hc8, hF8⟩; have ST8 := Lib.hid (ST6.out.step h8 hc8 hF8); clear h8 hc8 hF8)
    | fail)
  obtain ⟨x0, x1, x2, x3, x4, x5, x6, x7, x8⟩ := ST8.out.Q.cells
  go_upto_region 10 with (first
    | (go_at_call 138; refine (dput_any r.type w8 B g F8 y5 s.d r.data S HF.out.2.1 ST8.out.W ST8.out.D.d ST8.out.SF (by have := HX.out; omega) (by have := HX.out; omega)).mono ?_; rw [← HY6.out]; rintro e w9 ⟨rfl, F9, h9, hc9, hF9⟩; have ST9 := Lib.hid (ST8.out.step h9 hc9 hF9); clear h9 hc9 hF9)
    | fail)
  clear x0 x1 x2 x3 x4 x5 x6 x7 x8
  have h4l : y4.b.length ≤ 8990330 := HX.out.2.2.2.2.2.1
  have hn65 := HNL.out
  go_wp2_with (first
    | (go_at_call 139; rw [show ((y4.b.length : Int) + (2 + (n : Int)) - (y4.b.length : Int) - 2) = (n : Int) by omega]; refine (wset_any w9 B g F9 y6 y4.b.length (n : Int) 2 ST9.out.W (by have := HX.out; omega) ⟨fits2 hn65, by omega, by have := HN2.out; omega, by have := HN2.out; omega⟩).mono ?_; rw [HEND.out]; rintro e w11 ⟨rfl, F11, h11, hc11, hF11⟩; have ST11 := Lib.hid (ST9.out.step h11 hc11 hF11); clear h11 hc11 hF11)
    | (go_at_call 137; refine (wlen_any w9 B g F9 y6 ST9.out.W).mono ?_; rw [HN2.out]; rintro e w10 ⟨rfl, rfl⟩)
    | fail)
  go_ret
  exact ST11.out.done rfl

/-- What may not be is not written. -/
theorem rrPut_bad (w : World) (s : RS) (r : RR) {S : Nat → Prop} (g : Nat) (hf : ¬ FineR r) (h : RIn S w s r) (hS : ∀ b, S b → b < w.heap.size) (hbn : r.name.length ≤ 1000000000) (hbd : r.data.host.length ≤ 1000000000 ∧ r.data.mail.length ≤ 1000000000 ∧ r.data.nums.length ≤ 1000000000 ∧ r.data.texts.length ≤ 1000000000) :
    Calls Try.prog 89 #[.pointer (some ⟨g, 0, none⟩), rrV s r] w (RetP (fun v _ => v = .int .i64 2) w) := by
  obtain ⟨w1, hw1⟩ : ∃ w1, w1 = w.alloc (.cells (rrCells s r) 44) := ⟨_, rfl⟩
  have hb1 : Below w.heap.size w w1 := by rw [hw1]; exact bl.alloc (Nat.le_refl _) _
  have HR : Hid (RRow w1 w.heap.size s r) := by show RRow _ _ _ _; rw [hw1]; exact RRow.made w s r
  have HI := Lib.hid (h.below hb1 hS)
  have HS1 : Hid (∀ b, S b → b < w1.heap.size) := fun b hb => Nat.lt_of_lt_of_le (hS b hb) hb1.size
  have HBW1 := Lib.hid hb1
  have HBN := Lib.hid hbn
  have HBD := Lib.hid hbd
  have HFB := Lib.hid (fineRB_false hf)
  obtain ⟨x0, x1, x2, x3, x4, x5, x6, x7, x8⟩ := HR.out.cells
  unfold rrV
  unfold rrCells at hw1 ⊢
  clear h hS hb1 hbn hbd hf
  go_enter Try.func89, Try.ntmps89
  go_upto_region 1 with (fail)
  rw [← hw1]
  clear hw1
  go_wp2_with (first
    | (go_at_call 97; refine (rrSound_any s r w1 HI.out HS1.out HBN.out HBD.out).mono ?_; rw [HFB.out]; rintro e w2 ⟨v2, rfl, rfl, hb2⟩)
    | fail)
  go_ret
  exact ⟨_, rfl, rfl, nx HBW1.out hb2⟩
theorem rrPut_nil (w : World) (s : RS) (r : RR) :
    Calls Try.prog 89 #[.pointer none, rrV s r] w (RetP (fun v _ => v = .int .i64 2) w) := by
  unfold rrV rrCells
  go_enter Try.func89, Try.ntmps89
  go_wp2
  go_ret
  exact ⟨_, rfl, rfl, bl.alloc (Nat.le_refl _) _⟩
end Go.Proofs.Ytmkfjddighabcaa

/- msg.Raw: a message's bytes. -/
namespace Go.Proofs.Ytmkfjddighabcaa
open Go.RowKit
set_option maxRecDepth 100000

/-- A writer of the call's own; a block beside it. -/
structure WrS (w wr : World) (g : Nat) (F : Nat → Prop) (y : Wr) : Prop where
  W : Wtr wr w.heap.size F g y
  bw : Below w.heap.size w wr
structure WrO (w wr : World) (g : Nat) (F : Nat → Prop) (y : Wr) (p : Nat) (ob : Obj) : Prop extends WrS w wr g F y where
  P : wr.heap[p]? = some ob
  pF : ¬ F p
section
variable {w wr w' : World} {g p : Nat} {F F' : Nat → Prop} {y y' : Wr} {ob : Obj}
theorem WrS.nx (h : WrS w wr g F y) (hb : Below wr.heap.size wr w') : WrS w w' g F y := ⟨h.W.below hb, Go.Proofs.Ytmkfjddighabcaa.nx h.bw hb⟩
theorem WrS.step (h : WrS w wr g F y) (hw : Wtr w' w.heap.size F' g y') (hc : Chg F wr w') : WrS w w' g F' y' := ⟨hw, h.W.bw h.bw (Nat.le_refl _) hc⟩
theorem WrO.nx (h : WrO w wr g F y p ob) (hb : Below wr.heap.size wr w') : WrO w w' g F y p ob := ⟨h.toWrS.nx hb, (hb.block p (Array.getElem?_eq_some_iff.1 h.P).1).trans h.P, h.pF⟩
theorem WrO.step (h : WrO w wr g F y p ob) (hw : Wtr w' w.heap.size F' g y') (hc : Chg F wr w') (hF : ∀ z, F' z → F z ∨ wr.heap.size ≤ z) : WrO w w' g F' y' p ob :=
  ⟨h.toWrS.step hw hc, hc.heap h.P h.pF, fun hp => (hF p hp).elim h.pF (fun hl => by have := (Array.getElem?_eq_some_iff.1 h.P).1; omega)⟩
theorem WrS.withO (h : WrS w wr g F y) (hb : Below wr.heap.size wr w') (hp : w'.heap[p]? = some ob) (hl : wr.heap.size ≤ p) : WrO w w' g F y p ob :=
  ⟨h.nx hb, hp, fun hf => by have := (h.W.F_lt p hf).2; omega⟩
end
def headC (m : Ms) : Array Value := #[.int .i64 m.id, .int .i64 (flagsN m), .int .i64 m.qs.length, .int .i64 m.an.length, .int .i64 m.au.length, .int .i64 (m.ex.length + bitN m.edns 1)]
theorem head_at {w : World} {p : Nat} {m : Ms} {T : TypeId} (h : w.heap[p]? = some (.cells (headC m) T (0, 0))) {j : Nat} (hj : j < 6) : ∃ n, (headN m)[j]? = some n ∧ w.cell? ⟨p, j, none⟩ = some (.int .i64 n) := by
  have h0 := fun k => cell_of_row w p k _ _ _ h
  match j, hj with
  | 0, _ => exact ⟨_, rfl, (h0 0).trans rfl⟩
  | 1, _ => exact ⟨_, rfl, (h0 1).trans rfl⟩
  | 2, _ => exact ⟨_, rfl, (h0 2).trans rfl⟩
  | 3, _ => exact ⟨_, rfl, (h0 3).trans rfl⟩
  | 4, _ => exact ⟨_, rfl, (h0 4).trans rfl⟩
  | 5, _ => exact ⟨_, rfl, (h0 5).trans rfl⟩
theorem FineQ.lt {q : Qu} (h : FineQ q) : q.name.length ≤ 1000000000 := by have h1 := sizeN_length q.name; have h2 := h.1.2; omega

set_option maxHeartbeats 16000000 in
theorem mRaw_true (s : MS) (m : Ms) (w : World) {S : Nat → Prop} (h : MIn S w s m) (hS : ∀ b, S b → b < w.heap.size) (hf : FineM m) (hb : bytesM m ≤ 200000) (he : m.edns = true) :
    Calls Try.prog 45 #[msV s m] w (RetP (fun v w' => OwnB w' w.heap.size v (msW m).b) w) := by
  obtain ⟨w1, hw1⟩ : ∃ w1, w1 = w.alloc (.cells (mCells s m) 25) := ⟨_, rfl⟩
  have hb1 : Below w.heap.size w w1 := by rw [hw1]; exact bl.alloc (Nat.le_refl _) _
  have HR1 : Hid (MRow w1 w.heap.size s m) := by show MRow _ _ _ _; rw [hw1]; exact MRow.made w s m
  have HI1 := Lib.hid (h.below hb1 hS)
  have HS1 : Hid (∀ b, S b → b < w1.heap.size) := fun b hb => Nat.lt_of_lt_of_le (hS b hb) hb1.size
  have HB1 := Lib.hid hb1
  have HF := Lib.hid hf
  have HB := Lib.hid hb
  have HE := Lib.hid he
  have htot := hf.tot
  unfold totM at htot
  have HTOT := Lib.hid htot
  have HFL := Lib.hid (mflags_any w.heap.size s m (h0 := hf.op0) (h1 := hf.op) (h2 := hf.rc0) (h3 := hf.rc))
  have HOPT : Hid ((secW m 3).opt m = msW m) := rfl
  have HHC : Hid (headC m = #[.int .i64 m.id, .int .i64 (flagsN m), .int .i64 m.qs.length, .int .i64 m.an.length, .int .i64 m.au.length, .int .i64 ((m.ex.length : Int) + 1)]) := by show _ = _; unfold headC bitN; rw [he]; rfl
  unfold msV
  unfold mCells at hw1 ⊢
  clear h hS hb1 hf hb he
  go_enter Try.func45, Try.ntmps45
  go_upto_region 1 with (fail)
  rw [← hw1]
  clear hw1
  generalize hq : w.heap.size = q at HR1 HFL ⊢
  have HQ := Lib.hid hq
  clear hq
  go_upto_region 2 with (first
    | (go_at_call 85; refine (wnew_any w1).mono ?_; rintro e w2 ⟨g, F2, rfl, hw2, hb2⟩; have HW2 : Hid (WrS w1 w2 g F2 Wr.nil) := (WrS.mk hw2 hb2); clear hw2 hb2)
    | fail)
  have HR2 := Lib.hid (HR1.out.below HW2.out.bw)
  have y0 : w2.cell? ⟨q, 0, none⟩ = some (.int .i64 m.id) ∧ w2.cell? ⟨q, 8, none⟩ = some (.slice s.Q m.qs.length s.qc) ∧ w2.cell? ⟨q, 9, none⟩ = some (.slice s.A m.an.length s.ac) ∧ w2.cell? ⟨q, 10, none⟩ = some (.slice s.U m.au.length s.uc) := by
    obtain ⟨z0, z1, z2, z3, z4, z5, z6, z7, z8, z9, z10, z11, z12, z13⟩ := HR2.out.cells
    exact ⟨z0, z8, z9, z10⟩
  have y1 := And.intro (below_cell bl.drew y0.1) (And.intro (below_cell bl.drew y0.2.1) (And.intro (below_cell bl.drew y0.2.2.1) (below_cell bl.drew y0.2.2.2)))
  have z11 : w2.cell? ⟨q, 11, none⟩ = some (.slice s.X m.ex.length s.xc) := (HR2.out.cell 11).trans rfl
  have z12 : w2.cell? ⟨q, 12, none⟩ = some (.bool true) := (HR2.out.cell 12).trans (by rw [← HE.out]; rfl)
  go_upto_region 5 with (fail)
  clear z11 z12 htot
  go_region_held3 (fun w' => w'.cell? ⟨q, 0, none⟩ = some (.int .i64 m.id) ∧ w'.cell? ⟨q, 8, none⟩ = some (.slice s.Q m.qs.length s.qc) ∧ w'.cell? ⟨q, 9, none⟩ = some (.slice s.A m.an.length s.ac) ∧ w'.cell? ⟨q, 10, none⟩ = some (.slice s.U m.au.length s.uc))
    (first
      | with_reducible exact y0
      | with_reducible exact y1
      | with_reducible exact y2
      | with_reducible exact y3
      | fail)
    (first
      | (go_at_call 86; refine (HFL.out w2.drew (HR2.out.below bl.drew)).mono ?_; rintro e w3 ⟨rfl, n3, hv3⟩; have hb3 : Below w2.drew.heap.size w2.drew w3 := (by rw [hv3]; exact dN bl n3); clear hv3; have y2 := And.intro (below_cell hb3 y1.1) (And.intro (below_cell hb3 y1.2.1) (And.intro (below_cell hb3 y1.2.2.1) (below_cell hb3 y1.2.2.2))); have ha3 : Below w3.heap.size w3 (w3.alloc (.cells #[.int .i64 m.id, .int .i64 (flagsN m), .int .i64 m.qs.length, .int .i64 m.an.length, .int .i64 m.au.length, .int .i64 ((m.ex.length : Int) + 1)] 3)) := (bl.alloc (Nat.le_refl _) _); have y3 := And.intro (below_cell ha3 y2.1) (And.intro (below_cell ha3 y2.2.1) (And.intro (below_cell ha3 y2.2.2.1) (below_cell ha3 y2.2.2.2))))
      | fail)
  clear y0 y1 y2 y3 ha3
  rw [← HHC.out]
  obtain ⟨w4, hw4⟩ : ∃ w4, w4 = w3.alloc (.cells (headC m) 3) := ⟨_, rfl⟩
  have HO4 : Hid (WrO w1 w4 g F2 Wr.nil w3.heap.size (.cells (headC m) 3 (0, 0))) := (HW2.out.nx (bl.drew.trans hb3)).withO (by rw [hw4]; exact bl.alloc (Nat.le_refl _) _) (by rw [hw4]; exact heap_alloc_new w3 _) (Nat.le_refl _)
  rw [← hw4]
  generalize w3.heap.size = p at HO4 ⊢
  clear hw4 hb3 HW2 HR2
  go_wp2_with fail
  go_loopw [36] (fun iv wr => ∃ j : Nat, iv = .int .i64 j ∧ j ≤ 6 ∧ Hid (∃ F, WrO w1 wr g F (Wr.nil.nums2 ((headN m).take j)) p (.cells (headC m) 3 (0, 0)))) (fun iv _ => 6 - (intOf iv).toNat)
  case atStart => exact ⟨0, rfl, by decide, _, HO4.out⟩
  case round =>
    obtain ⟨j, rfl, hj, HST⟩ := hrel
    by_cases hlt : j < 6
    · obtain ⟨F, hst⟩ := HST.out
      obtain ⟨n, hn, x0⟩ := head_at hst.P hlt
      have HO := Lib.hid hst
      have HTK := Lib.hid (nums2_take Wr.nil hn)
      have HBD := Lib.hid (head_bnd m j)
      clear hst hn HST
      generalize Wr.nil.nums2 ((headN m).take j) = y at HO HTK HBD
      go_wp2_with (first
        | (go_at_call 87; refine (wnum_any wr w1.heap.size g F y n 2 HO.out.W (by have := HBD.out.1; omega)).mono ?_; rintro e w5 ⟨rfl, F5, h5, hc5, hF5⟩)
        | fail)
      go_roundw
      case rel => exact ⟨j + 1, by go_num, by omega, F5, by rw [HTK.out]; exact HO.out.step h5 hc5 hF5⟩
      case measure => simp [intOf]; omega
    · obtain rfl : j = 6 := by omega
      rw [show ((6 : Nat) : Int) = 6 from rfl]
      rw [head_all] at HST

      clear hj hlt HO4
      obtain ⟨F0, hst⟩ := HST.out
      have H0 := Lib.hid hst.toWrS
      clear hst HST
      have z8 : wr.cell? ⟨q, 8, none⟩ = some (.slice s.Q m.qs.length s.qc) := ((HR1.out.below H0.out.bw).cell 8).trans rfl
      have hql : m.qs.length ≤ 512 := by have := HTOT.out; omega
      rename World => wa
      go_wp2_with fail
      clear z8
      go_loopw [47] (fun iv wr => ∃ k : Nat, iv = .int .i64 k ∧ k ≤ m.qs.length ∧ Hid (∃ F, WrS w1 wr g F ((Wr.nil.nums2 (headN m)).qus (m.qs.take k)))) (fun iv _ => m.qs.length - (intOf iv).toNat)
      case atStart => exact ⟨0, rfl, Nat.zero_le _, _, H0.out⟩
      case round =>
        obtain ⟨k, rfl, hk, HST⟩ := hrel
        clear H0
        by_cases hlt : k < m.qs.length
        · obtain ⟨x, hx⟩ : ∃ x, m.qs[k]? = some x := ⟨_, List.getElem?_eq_getElem hlt⟩
          obtain ⟨F, hst⟩ := HST.out
          have HFQ := Lib.hid (HF.out.qs x (List.mem_of_getElem? hx))
          have HTK := Lib.hid (qus_take (Wr.nil.nums2 (headN m)) hx)
          have HBD := Lib.hid (quW_bnd HF.out k)
          obtain ⟨b, off, t, hA, _, hd, hc⟩ := qu_at HI1.out.q hx
          have hAA := Lib.hid hA
          rw [hA]
          obtain ⟨d0, d1, d2⟩ := hc.below hst.bw
          obtain ⟨w3, hw3⟩ : ∃ w3, w3 = wr.alloc (.cells (qCells t x) 50) := ⟨_, rfl⟩
          have hb3 : Below wr.heap.size wr w3 := by rw [hw3]; exact bl.alloc (Nat.le_refl _) _
          have HO := Lib.hid (hst.withO hb3 (by rw [hw3]; exact QRow.made wr t x) (Nat.le_refl _))
          have HD : Hid (∀ w', Below w1.heap.size w1 w' → QIn S w' t x) := fun w' hw => hd.below hw HS1.out
          unfold qCells at hw3
          clear hx hA hd hc hst HST hb3
          generalize (Wr.nil.nums2 (headN m)).qus (m.qs.take k) = y at HO HTK HBD
          go_upto_region 13 with (fail)
          rw [← hw3]
          clear hw3 d0 d1 d2
          generalize wr.heap.size = p3 at HO ⊢
          obtain ⟨x0, _, _⟩ := QRow.cells HO.out.P
          go_upto_region 14 with (first
            | (go_at_call 88; refine (name_any w3 w1.heap.size g F y t.A _ t.c x.name true HO.out.W (HD.out w3 HO.out.bw).n (fun b hb => ⟨Nat.lt_of_lt_of_le (HS1.out b hb) HO.out.bw.size, fun hf => by have h1 := HS1.out b hb; have h2 := (HO.out.W.F_lt b hf).1; omega⟩) (FineQ.lt HFQ.out) (HD.out w3 HO.out.bw).cn.1 (HD.out w3 HO.out.bw).cn.2 (by have := HBD.out.1; omega) (by have := HBD.out.2; omega)).mono ?_; rw [nameS_sound HFQ.out.1]; rintro e w4 ⟨rfl, F4, h4, hc4, hF4⟩; have HO4 := Lib.hid (HO.out.step h4 hc4 hF4); clear h4 hc4 hF4)
            | fail)
          clear x0
          obtain ⟨_, x1, _⟩ := QRow.cells HO4.out.P
          have HB4 : Hid ((y.name x.name true).b.length ≤ 150000) := by show _ ≤ _; have h1 := Wr.name_le (x := y) x.name true; have h2 := HFQ.out.1.2; have h3 := HBD.out.1; omega
          generalize hy4 : y.name x.name true = y4 at HO4 HB4
          have HY4 := Lib.hid hy4
          clear hy4
          go_upto_region 15 with (first
            | (go_at_call 87; refine (wnum_any w4 w1.heap.size g F4 y4 x.type 2 HO4.out.W (by have := HB4.out; omega)).mono ?_; rintro e w5 ⟨rfl, F5, h5, hc5, hF5⟩; have HO5 := Lib.hid (HO4.out.step h5 hc5 hF5); clear h5 hc5 hF5)
            | fail)
          clear x1
          obtain ⟨_, _, x2⟩ := QRow.cells HO5.out.P
          have HB5 : Hid ((y4.raw (putB [] x.type 2)).b.length ≤ 150010) := by show _ ≤ _; have h1 := raw_len y4 (putB [] x.type 2); have h2 := putB_len x.type 2; have h3 := HB4.out; omega
          go_wp2_with (first
            | (go_at_call 87; refine (wnum_any w5 w1.heap.size g F5 (y4.raw (putB [] x.type 2)) x.cls 2 HO5.out.W (by have := HB5.out; omega)).mono ?_; rintro e w6 ⟨rfl, F6, h6, hc6, hF6⟩; have HO6 := Lib.hid (HO5.out.step h6 hc6 hF6); clear h6 hc6 hF6)
            | fail)
          go_roundw
          case rel => exact ⟨k + 1, by go_num, by omega, F6, by rw [HTK.out]; have h := HO6.out.toWrS; rw [← HY4.out] at h; exact h⟩
          case measure => simp [intOf]; omega
        · obtain rfl : k = m.qs.length := by omega
          rw [List.take_length] at HST
          have HS0 : Hid (∃ F, WrS w1 wr g F (secW m 0)) := HST.out
          clear HST hk hlt hql
          obtain ⟨F1, h1⟩ := HS0.out
          have H1 := Lib.hid h1
          clear h1 HS0
          rename World => wb
          go_wp2_with (first
            | (go_at_call 50; refine (sections_any q wb).mono ?_; rintro e w7 ⟨gs, rfl, hg7, hl7, hb7⟩; have HO7 : Hid (WrO w1 w7 g F1 (secW m 0) gs (.cells (secP q) 92 (0, 0))) := H1.out.withO hb7 hg7 hl7; clear hg7 hl7 hb7)
            | fail)
          go_loopw [66] (fun iv wr => ∃ j : Nat, iv = .int .i64 j ∧ j ≤ 3 ∧ Hid (∃ F, WrO w1 wr g F (secW m j) gs (.cells (secP q) 92 (0, 0)))) (fun iv _ => 3 - (intOf iv).toNat)
          case atStart => exact ⟨0, rfl, by decide, _, HO7.out⟩
          case round =>
            obtain ⟨j, rfl, hj, HST⟩ := hrel
            clear HO7 H1
            by_cases hlt : j < 3
            · obtain ⟨F, hst⟩ := HST.out
              have y0 := secP_cell hst.P hlt
              have y1 := (HR1.out.below hst.bw).sec hlt
              have HO := Lib.hid hst
              have HSB : Hid (∀ k, ((secW m j).rrs ((secL m j).take k)).b.length ≤ 8900000 ∧ ((secW m j).rrs ((secL m j).take k)).rests.length ≤ 600000) := sec_bnd HF.out HB.out hlt
              have HSC := Lib.hid (HI1.out.sec j)
              have HSF := Lib.hid (HF.out.sec j)
              have HTE : Hid (secW m (j + 1) = (secW m j).rrs (secL m j)) := rfl
              have hsl : (secL m j).length ≤ 512 := by have h := HTOT.out; match j, hlt with | 0, _ => show m.an.length ≤ 512; omega | 1, _ => show m.au.length ≤ 512; omega | 2, _ => show m.ex.length ≤ 512; omega
              clear hst HST
              generalize secW m j = y at HO HSB HTE
              generalize secL m j = l at y1 HSB HSC HSF HTE hsl
              rename World => wc
              have hj3 : decide ((j : Int) < 3) = true := decide_eq_true (by omega)
              go_wp2_with fail
              clear y0 y1
              go_loopw [74] (fun iv wr => ∃ k : Nat, iv = .int .i64 k ∧ k ≤ l.length ∧ Hid (∃ F, WrO w1 wr g F (y.rrs (l.take k)) gs (.cells (secP q) 92 (0, 0)))) (fun iv _ => l.length - (intOf iv).toNat)
              case atStart => exact ⟨0, rfl, Nat.zero_le _, _, HO.out⟩
              case round =>
                obtain ⟨k, rfl, hk, HST⟩ := hrel
                clear HO
                by_cases hlk : k < l.length
                · obtain ⟨r, hr⟩ : ∃ r, l[k]? = some r := ⟨_, List.getElem?_eq_getElem hlk⟩
                  obtain ⟨F, hst⟩ := HST.out
                  have HFR := Lib.hid (HSF.out r (List.mem_of_getElem? hr)).2
                  have HTK := Lib.hid (rrs_take y hr)
                  have HBD := Lib.hid (HSB.out k)
                  obtain ⟨b, off, t, hA, _, hd, hc⟩ := rr_at HSC.out hr
                  have hAA := Lib.hid hA
                  rw [hA]
                  obtain ⟨d0, d1, d2, d3, d4, d5, d6, d7, d8⟩ := hc.below hst.bw
                  obtain ⟨w3, hw3⟩ : ∃ w3, w3 = wr.alloc (.cells (rrCells t r) 44) := ⟨_, rfl⟩
                  have hb3 : Below wr.heap.size wr w3 := by rw [hw3]; exact bl.alloc (Nat.le_refl _) _
                  have HO := Lib.hid (hst.nx hb3)
                  have HRW : Hid (RRow w3 wr.heap.size t r) := by show RRow _ _ _ _; rw [hw3]; exact RRow.made wr t r
                  have HD : Hid (∀ w', Below w1.heap.size w1 w' → RIn S w' t r) := fun w' hw => hd.below hw HS1.out
                  unfold rrCells at hw3
                  clear hr hA hd hc hst HST hb3
                  generalize y.rrs (l.take k) = z at HO HTK HBD
                  go_upto_region 23 with (fail)
                  rw [← hw3]
                  clear hw3 d0 d1 d2 d3 d4 d5 d6 d7 d8
                  obtain ⟨x0, x1, x2, x3, x4, x5, x6, x7, x8⟩ := HRW.out.cells
                  generalize wr.heap.size = p3 at HRW x0 x1 x2 x3 x4 x5 x6 x7 x8 ⊢
                  go_wp2_with (first
                    | (go_at_call 89; refine (rrPut_any w3 w1.heap.size g F z t r S HFR.out HO.out.W (HD.out w3 HO.out.bw) (fun b hb => ⟨Nat.lt_of_lt_of_le (HS1.out b hb) HO.out.bw.size, fun hf => by have h1 := HS1.out b hb; have h2 := (HO.out.W.F_lt b hf).1; omega⟩) (by have := HBD.out.1; omega) (by have := HBD.out.2; omega)).mono ?_; rintro e w4 ⟨rfl, F4, h4, hc4, hF4⟩; have HO4 := Lib.hid (HO.out.step h4 hc4 hF4); clear h4 hc4 hF4)
                    | fail)
                  go_roundw
                  case rel => exact ⟨k + 1, by go_num, by omega, F4, by rw [HTK.out]; exact HO4.out⟩
                  case measure => simp [intOf]; omega
                · obtain rfl : k = l.length := by omega
                  rw [List.take_length] at HST
                  go_wp2
                  go_roundw
                  case rel => obtain ⟨F, h⟩ := HST.out; exact ⟨j + 1, by go_num, by omega, F, by rw [HTE.out]; exact h⟩
                  case measure => simp [intOf]; omega
            · obtain rfl : j = 3 := by omega
              obtain ⟨F, hst⟩ := HST.out
              have HO := Lib.hid hst.toWrS
              have HB3 := Lib.hid (sec_bnd3 HF.out HB.out)
              have HRW := Lib.hid (HR1.out.below hst.bw)
              clear hst HST hlt hj
              generalize secW m 3 = y at HO HB3 HOPT
              have z12 : wr.cell? ⟨q, 12, none⟩ = some (.bool true) := (HRW.out.cell 12).trans (by rw [← HE.out]; rfl)
              have z13 : wr.cell? ⟨q, 13, none⟩ = some (.int .i64 m.size) := (HRW.out.cell 13).trans rfl
              have hlit : RdB (wr.alloc (.cells #[.int .u8 0] 5)) (some ⟨wr.heap.size, 0, none⟩) 1 [0] := lit_rd wr [0] (Nat.le_of_ble_eq_true rfl)
              obtain ⟨w5, hw5⟩ : ∃ w5, w5 = wr.alloc (.cells #[.int .u8 0] 5) := ⟨_, rfl⟩
              have HO5 : Hid (WrS w1 w5 g F y) := HO.out.nx (by rw [hw5]; exact bl.alloc (Nat.le_refl _) _)
              rw [← hw5] at hlit
              have HLIT := Lib.hid hlit
              have HOPT2 : Hid ((((y.raw [0]).raw (putB [] 41 2)).raw (putB [] m.size 2)).raw (putB [] 0 6) = msW m) := by show _ = _; rw [← HOPT.out]; unfold Wr.opt; rw [if_pos HE.out]; rfl
              clear hlit HO HOPT
              obtain ⟨y1, hy1⟩ : ∃ y1, y1 = y.raw [0] := ⟨_, rfl⟩
              obtain ⟨y2, hy2⟩ : ∃ y2, y2 = y1.raw (putB [] 41 2) := ⟨_, rfl⟩
              obtain ⟨y3, hy3⟩ : ∃ y3, y3 = y2.raw (putB [] m.size 2) := ⟨_, rfl⟩
              rw [← hy1, ← hy2, ← hy3] at HOPT2
              have hl1 : y1.b.length ≤ 8900001 := by have h1 := HB3.out; rw [hy1, raw_len]; simp; omega
              have hl2 : y2.b.length ≤ 8900010 := by rw [hy2, raw_len]; have := putB_len 41 2; omega
              have hl3 : y3.b.length ≤ 8900020 := by rw [hy3, raw_len]; have := putB_len m.size 2; omega
              have hl4 : (y3.raw (putB [] 0 6)).b.length ≤ 8900030 := by rw [raw_len]; have := putB_len 0 6; omega
              rw [HOPT2.out] at hl4
              have HL := Lib.hid (And.intro hl1 (And.intro hl2 (And.intro hl3 hl4)))
              have HY1 := Lib.hid hy1
              have HY2 := Lib.hid hy2
              have HY3 := Lib.hid hy3
              clear hl1 hl2 hl3 hl4 hy1 hy2 hy3
              have HRWa : Hid (∀ w', Below w1.heap.size w1 w' → w'.cell? ⟨q, 13, none⟩ = some (.int .i64 m.size)) := fun w' hw => ((HR1.out.below hw).cell 13).trans rfl
              clear z13
              go_upto_region 28 with (first
                | (go_at_call 90; rw [← hw5]; refine (wraw_any w5 w1.heap.size g F y _ 1 1 [0] HO5.out.W HLIT.out (by have := HB3.out; omega)).mono ?_; rw [← HY1.out]; rintro e w6 ⟨rfl, F6, h6, hc6, hF6⟩; have HO6 := Lib.hid (HO5.out.step h6 hc6); clear h6 hc6 hF6)
                | fail)
              clear hw5
              go_upto_region 29 with (first
                | (go_at_call 87; refine (wnum_any w6 w1.heap.size g F6 y1 41 2 HO6.out.W (by have := HL.out.1; omega)).mono ?_; rw [← HY2.out]; rintro e w7 ⟨rfl, F7, h7, hc7, hF7⟩; have HO7 := Lib.hid (HO6.out.step h7 hc7); clear h7 hc7 hF7)
                | fail)
              have z13 := HRWa.out w7 HO7.out.bw
              go_upto_region 30 with (first
                | (go_at_call 87; refine (wnum_any w7 w1.heap.size g F7 y2 m.size 2 HO7.out.W (by have := HL.out.2.1; omega)).mono ?_; rw [← HY3.out]; rintro e w8 ⟨rfl, F8, h8, hc8, hF8⟩; have HO8 := Lib.hid (HO7.out.step h8 hc8); clear h8 hc8 hF8)
                | fail)
              clear z13
              go_upto_region 31 with (first
                | (go_at_call 87; refine (wnum_any w8 w1.heap.size g F8 y3 0 6 HO8.out.W (by have := HL.out.2.2.1; omega)).mono ?_; rw [HOPT2.out]; rintro e w9 ⟨rfl, F9, h9, hc9, hF9⟩; have HO9 := Lib.hid (HO8.out.step h9 hc9); clear h9 hc9 hF9)
                | fail)
              go_wp2_with (first
                | (go_at_call 91; refine (wbytes_any w9 w1.heap.size g F9 (msW m) HO9.out.W (by have := HL.out.2.2.2; omega)).mono ?_; rintro e w10 ⟨v10, rfl, ho10, hb10⟩)
                | fail)
              go_ret
              have hbw := nx HB1.out HO9.out.bw
              exact ⟨_, rfl, ho10.mono hbw.size, nx hbw hb10⟩
set_option maxHeartbeats 16000000 in
theorem mRaw_false (s : MS) (m : Ms) (w : World) {S : Nat → Prop} (h : MIn S w s m) (hS : ∀ b, S b → b < w.heap.size) (hf : FineM m) (hb : bytesM m ≤ 200000) (he : m.edns = false) :
    Calls Try.prog 45 #[msV s m] w (RetP (fun v w' => OwnB w' w.heap.size v (msW m).b) w) := by
  obtain ⟨w1, hw1⟩ : ∃ w1, w1 = w.alloc (.cells (mCells s m) 25) := ⟨_, rfl⟩
  have hb1 : Below w.heap.size w w1 := by rw [hw1]; exact bl.alloc (Nat.le_refl _) _
  have HR1 : Hid (MRow w1 w.heap.size s m) := by show MRow _ _ _ _; rw [hw1]; exact MRow.made w s m
  have HI1 := Lib.hid (h.below hb1 hS)
  have HS1 : Hid (∀ b, S b → b < w1.heap.size) := fun b hb => Nat.lt_of_lt_of_le (hS b hb) hb1.size
  have HB1 := Lib.hid hb1
  have HF := Lib.hid hf
  have HB := Lib.hid hb
  have HE := Lib.hid he
  have htot := hf.tot
  unfold totM at htot
  have HTOT := Lib.hid htot
  have HFL := Lib.hid (mflags_any w.heap.size s m (h0 := hf.op0) (h1 := hf.op) (h2 := hf.rc0) (h3 := hf.rc))
  have HOPT : Hid ((secW m 3).opt m = msW m) := rfl
  have HHC : Hid (headC m = #[.int .i64 m.id, .int .i64 (flagsN m), .int .i64 m.qs.length, .int .i64 m.an.length, .int .i64 m.au.length, .int .i64 ((m.ex.length : Int))]) := by show _ = _; unfold headC bitN; rw [he]; rfl
  unfold msV
  unfold mCells at hw1 ⊢
  clear h hS hb1 hf hb he
  go_enter Try.func45, Try.ntmps45
  go_upto_region 1 with (fail)
  rw [← hw1]
  clear hw1
  generalize hq : w.heap.size = q at HR1 HFL ⊢
  have HQ := Lib.hid hq
  clear hq
  go_upto_region 2 with (first
    | (go_at_call 85; refine (wnew_any w1).mono ?_; rintro e w2 ⟨g, F2, rfl, hw2, hb2⟩; have HW2 : Hid (WrS w1 w2 g F2 Wr.nil) := (WrS.mk hw2 hb2); clear hw2 hb2)
    | fail)
  have HR2 := Lib.hid (HR1.out.below HW2.out.bw)
  have y0 : w2.cell? ⟨q, 0, none⟩ = some (.int .i64 m.id) ∧ w2.cell? ⟨q, 8, none⟩ = some (.slice s.Q m.qs.length s.qc) ∧ w2.cell? ⟨q, 9, none⟩ = some (.slice s.A m.an.length s.ac) ∧ w2.cell? ⟨q, 10, none⟩ = some (.slice s.U m.au.length s.uc) := by
    obtain ⟨z0, z1, z2, z3, z4, z5, z6, z7, z8, z9, z10, z11, z12, z13⟩ := HR2.out.cells
    exact ⟨z0, z8, z9, z10⟩
  have y1 := And.intro (below_cell bl.drew y0.1) (And.intro (below_cell bl.drew y0.2.1) (And.intro (below_cell bl.drew y0.2.2.1) (below_cell bl.drew y0.2.2.2)))
  have z11 : w2.cell? ⟨q, 11, none⟩ = some (.slice s.X m.ex.length s.xc) := (HR2.out.cell 11).trans rfl
  have z12 : w2.cell? ⟨q, 12, none⟩ = some (.bool false) := (HR2.out.cell 12).trans (by rw [← HE.out]; rfl)
  go_upto_region 5 with (fail)
  clear z11 z12 htot
  go_region_held3 (fun w' => w'.cell? ⟨q, 0, none⟩ = some (.int .i64 m.id) ∧ w'.cell? ⟨q, 8, none⟩ = some (.slice s.Q m.qs.length s.qc) ∧ w'.cell? ⟨q, 9, none⟩ = some (.slice s.A m.an.length s.ac) ∧ w'.cell? ⟨q, 10, none⟩ = some (.slice s.U m.au.length s.uc))
    (first
      | with_reducible exact y0
      | with_reducible exact y1
      | with_reducible exact y2
      | with_reducible exact y3
      | fail)
    (first
      | (go_at_call 86; refine (HFL.out w2.drew (HR2.out.below bl.drew)).mono ?_; rintro e w3 ⟨rfl, n3, hv3⟩; have hb3 : Below w2.drew.heap.size w2.drew w3 := (by rw [hv3]; exact dN bl n3); clear hv3; have y2 := And.intro (below_cell hb3 y1.1) (And.intro (below_cell hb3 y1.2.1) (And.intro (below_cell hb3 y1.2.2.1) (below_cell hb3 y1.2.2.2))); have ha3 : Below w3.heap.size w3 (w3.alloc (.cells #[.int .i64 m.id, .int .i64 (flagsN m), .int .i64 m.qs.length, .int .i64 m.an.length, .int .i64 m.au.length, .int .i64 ((m.ex.length : Int))] 3)) := (bl.alloc (Nat.le_refl _) _); have y3 := And.intro (below_cell ha3 y2.1) (And.intro (below_cell ha3 y2.2.1) (And.intro (below_cell ha3 y2.2.2.1) (below_cell ha3 y2.2.2.2))))
      | fail)
  clear y0 y1 y2 y3 ha3
  rw [← HHC.out]
  obtain ⟨w4, hw4⟩ : ∃ w4, w4 = w3.alloc (.cells (headC m) 3) := ⟨_, rfl⟩
  have HO4 : Hid (WrO w1 w4 g F2 Wr.nil w3.heap.size (.cells (headC m) 3 (0, 0))) := (HW2.out.nx (bl.drew.trans hb3)).withO (by rw [hw4]; exact bl.alloc (Nat.le_refl _) _) (by rw [hw4]; exact heap_alloc_new w3 _) (Nat.le_refl _)
  rw [← hw4]
  generalize w3.heap.size = p at HO4 ⊢
  clear hw4 hb3 HW2 HR2
  go_wp2_with fail
  go_loopw [36] (fun iv wr => ∃ j : Nat, iv = .int .i64 j ∧ j ≤ 6 ∧ Hid (∃ F, WrO w1 wr g F (Wr.nil.nums2 ((headN m).take j)) p (.cells (headC m) 3 (0, 0)))) (fun iv _ => 6 - (intOf iv).toNat)
  case atStart => exact ⟨0, rfl, by decide, _, HO4.out⟩
  case round =>
    obtain ⟨j, rfl, hj, HST⟩ := hrel
    by_cases hlt : j < 6
    · obtain ⟨F, hst⟩ := HST.out
      obtain ⟨n, hn, x0⟩ := head_at hst.P hlt
      have HO := Lib.hid hst
      have HTK := Lib.hid (nums2_take Wr.nil hn)
      have HBD := Lib.hid (head_bnd m j)
      clear hst hn HST
      generalize Wr.nil.nums2 ((headN m).take j) = y at HO HTK HBD
      go_wp2_with (first
        | (go_at_call 87; refine (wnum_any wr w1.heap.size g F y n 2 HO.out.W (by have := HBD.out.1; omega)).mono ?_; rintro e w5 ⟨rfl, F5, h5, hc5, hF5⟩)
        | fail)
      go_roundw
      case rel => exact ⟨j + 1, by go_num, by omega, F5, by rw [HTK.out]; exact HO.out.step h5 hc5 hF5⟩
      case measure => simp [intOf]; omega
    · obtain rfl : j = 6 := by omega
      rw [show ((6 : Nat) : Int) = 6 from rfl]
      rw [head_all] at HST

      clear hj hlt HO4
      obtain ⟨F0, hst⟩ := HST.out
      have H0 := Lib.hid hst.toWrS
      clear hst HST
      have z8 : wr.cell? ⟨q, 8, none⟩ = some (.slice s.Q m.qs.length s.qc) := ((HR1.out.below H0.out.bw).cell 8).trans rfl
      have hql : m.qs.length ≤ 512 := by have := HTOT.out; omega
      rename World => wa
      go_wp2_with fail
      clear z8
      go_loopw [47] (fun iv wr => ∃ k : Nat, iv = .int .i64 k ∧ k ≤ m.qs.length ∧ Hid (∃ F, WrS w1 wr g F ((Wr.nil.nums2 (headN m)).qus (m.qs.take k)))) (fun iv _ => m.qs.length - (intOf iv).toNat)
      case atStart => exact ⟨0, rfl, Nat.zero_le _, _, H0.out⟩
      case round =>
        obtain ⟨k, rfl, hk, HST⟩ := hrel
        clear H0
        by_cases hlt : k < m.qs.length
        · obtain ⟨x, hx⟩ : ∃ x, m.qs[k]? = some x := ⟨_, List.getElem?_eq_getElem hlt⟩
          obtain ⟨F, hst⟩ := HST.out
          have HFQ := Lib.hid (HF.out.qs x (List.mem_of_getElem? hx))
          have HTK := Lib.hid (qus_take (Wr.nil.nums2 (headN m)) hx)
          have HBD := Lib.hid (quW_bnd HF.out k)
          obtain ⟨b, off, t, hA, _, hd, hc⟩ := qu_at HI1.out.q hx
          have hAA := Lib.hid hA
          rw [hA]
          obtain ⟨d0, d1, d2⟩ := hc.below hst.bw
          obtain ⟨w3, hw3⟩ : ∃ w3, w3 = wr.alloc (.cells (qCells t x) 50) := ⟨_, rfl⟩
          have hb3 : Below wr.heap.size wr w3 := by rw [hw3]; exact bl.alloc (Nat.le_refl _) _
          have HO := Lib.hid (hst.withO hb3 (by rw [hw3]; exact QRow.made wr t x) (Nat.le_refl _))
          have HD : Hid (∀ w', Below w1.heap.size w1 w' → QIn S w' t x) := fun w' hw => hd.below hw HS1.out
          unfold qCells at hw3
          clear hx hA hd hc hst HST hb3
          generalize (Wr.nil.nums2 (headN m)).qus (m.qs.take k) = y at HO HTK HBD
          go_upto_region 13 with (fail)
          rw [← hw3]
          clear hw3 d0 d1 d2
          generalize wr.heap.size = p3 at HO ⊢
          obtain ⟨x0, _, _⟩ := QRow.cells HO.out.P
          go_upto_region 14 with (first
            | (go_at_call 88; refine (name_any w3 w1.heap.size g F y t.A _ t.c x.name true HO.out.W (HD.out w3 HO.out.bw).n (fun b hb => ⟨Nat.lt_of_lt_of_le (HS1.out b hb) HO.out.bw.size, fun hf => by have h1 := HS1.out b hb; have h2 := (HO.out.W.F_lt b hf).1; omega⟩) (FineQ.lt HFQ.out) (HD.out w3 HO.out.bw).cn.1 (HD.out w3 HO.out.bw).cn.2 (by have := HBD.out.1; omega) (by have := HBD.out.2; omega)).mono ?_; rw [nameS_sound HFQ.out.1]; rintro e w4 ⟨rfl, F4, h4, hc4, hF4⟩; have HO4 := Lib.hid (HO.out.step h4 hc4 hF4); clear h4 hc4 hF4)
            | fail)
          clear x0
          obtain ⟨_, x1, _⟩ := QRow.cells HO4.out.P
          have HB4 : Hid ((y.name x.name true).b.length ≤ 150000) := by show _ ≤ _; have h1 := Wr.name_le (x := y) x.name true; have h2 := HFQ.out.1.2; have h3 := HBD.out.1; omega
          generalize hy4 : y.name x.name true = y4 at HO4 HB4
          have HY4 := Lib.hid hy4
          clear hy4
          go_upto_region 15 with (first
            | (go_at_call 87; refine (wnum_any w4 w1.heap.size g F4 y4 x.type 2 HO4.out.W (by have := HB4.out; omega)).mono ?_; rintro e w5 ⟨rfl, F5, h5, hc5, hF5⟩; have HO5 := Lib.hid (HO4.out.step h5 hc5 hF5); clear h5 hc5 hF5)
            | fail)
          clear x1
          obtain ⟨_, _, x2⟩ := QRow.cells HO5.out.P
          have HB5 : Hid ((y4.raw (putB [] x.type 2)).b.length ≤ 150010) := by show _ ≤ _; have h1 := raw_len y4 (putB [] x.type 2); have h2 := putB_len x.type 2; have h3 := HB4.out; omega
          go_wp2_with (first
            | (go_at_call 87; refine (wnum_any w5 w1.heap.size g F5 (y4.raw (putB [] x.type 2)) x.cls 2 HO5.out.W (by have := HB5.out; omega)).mono ?_; rintro e w6 ⟨rfl, F6, h6, hc6, hF6⟩; have HO6 := Lib.hid (HO5.out.step h6 hc6 hF6); clear h6 hc6 hF6)
            | fail)
          go_roundw
          case rel => exact ⟨k + 1, by go_num, by omega, F6, by rw [HTK.out]; have h := HO6.out.toWrS; rw [← HY4.out] at h; exact h⟩
          case measure => simp [intOf]; omega
        · obtain rfl : k = m.qs.length := by omega
          rw [List.take_length] at HST
          have HS0 : Hid (∃ F, WrS w1 wr g F (secW m 0)) := HST.out
          clear HST hk hlt hql
          obtain ⟨F1, h1⟩ := HS0.out
          have H1 := Lib.hid h1
          clear h1 HS0
          rename World => wb
          go_wp2_with (first
            | (go_at_call 50; refine (sections_any q wb).mono ?_; rintro e w7 ⟨gs, rfl, hg7, hl7, hb7⟩; have HO7 : Hid (WrO w1 w7 g F1 (secW m 0) gs (.cells (secP q) 92 (0, 0))) := H1.out.withO hb7 hg7 hl7; clear hg7 hl7 hb7)
            | fail)
          go_loopw [66] (fun iv wr => ∃ j : Nat, iv = .int .i64 j ∧ j ≤ 3 ∧ Hid (∃ F, WrO w1 wr g F (secW m j) gs (.cells (secP q) 92 (0, 0)))) (fun iv _ => 3 - (intOf iv).toNat)
          case atStart => exact ⟨0, rfl, by decide, _, HO7.out⟩
          case round =>
            obtain ⟨j, rfl, hj, HST⟩ := hrel
            clear HO7 H1
            by_cases hlt : j < 3
            · obtain ⟨F, hst⟩ := HST.out
              have y0 := secP_cell hst.P hlt
              have y1 := (HR1.out.below hst.bw).sec hlt
              have HO := Lib.hid hst
              have HSB : Hid (∀ k, ((secW m j).rrs ((secL m j).take k)).b.length ≤ 8900000 ∧ ((secW m j).rrs ((secL m j).take k)).rests.length ≤ 600000) := sec_bnd HF.out HB.out hlt
              have HSC := Lib.hid (HI1.out.sec j)
              have HSF := Lib.hid (HF.out.sec j)
              have HTE : Hid (secW m (j + 1) = (secW m j).rrs (secL m j)) := rfl
              have hsl : (secL m j).length ≤ 512 := by have h := HTOT.out; match j, hlt with | 0, _ => show m.an.length ≤ 512; omega | 1, _ => show m.au.length ≤ 512; omega | 2, _ => show m.ex.length ≤ 512; omega
              clear hst HST
              generalize secW m j = y at HO HSB HTE
              generalize secL m j = l at y1 HSB HSC HSF HTE hsl
              rename World => wc
              have hj3 : decide ((j : Int) < 3) = true := decide_eq_true (by omega)
              go_wp2_with fail
              clear y0 y1
              go_loopw [74] (fun iv wr => ∃ k : Nat, iv = .int .i64 k ∧ k ≤ l.length ∧ Hid (∃ F, WrO w1 wr g F (y.rrs (l.take k)) gs (.cells (secP q) 92 (0, 0)))) (fun iv _ => l.length - (intOf iv).toNat)
              case atStart => exact ⟨0, rfl, Nat.zero_le _, _, HO.out⟩
              case round =>
                obtain ⟨k, rfl, hk, HST⟩ := hrel
                clear HO
                by_cases hlk : k < l.length
                · obtain ⟨r, hr⟩ : ∃ r, l[k]? = some r := ⟨_, List.getElem?_eq_getElem hlk⟩
                  obtain ⟨F, hst⟩ := HST.out
                  have HFR := Lib.hid (HSF.out r (List.mem_of_getElem? hr)).2
                  have HTK := Lib.hid (rrs_take y hr)
                  have HBD := Lib.hid (HSB.out k)
                  obtain ⟨b, off, t, hA, _, hd, hc⟩ := rr_at HSC.out hr
                  have hAA := Lib.hid hA
                  rw [hA]
                  obtain ⟨d0, d1, d2, d3, d4, d5, d6, d7, d8⟩ := hc.below hst.bw
                  obtain ⟨w3, hw3⟩ : ∃ w3, w3 = wr.alloc (.cells (rrCells t r) 44) := ⟨_, rfl⟩
                  have hb3 : Below wr.heap.size wr w3 := by rw [hw3]; exact bl.alloc (Nat.le_refl _) _
                  have HO := Lib.hid (hst.nx hb3)
                  have HRW : Hid (RRow w3 wr.heap.size t r) := by show RRow _ _ _ _; rw [hw3]; exact RRow.made wr t r
                  have HD : Hid (∀ w', Below w1.heap.size w1 w' → RIn S w' t r) := fun w' hw => hd.below hw HS1.out
                  unfold rrCells at hw3
                  clear hr hA hd hc hst HST hb3
                  generalize y.rrs (l.take k) = z at HO HTK HBD
                  go_upto_region 23 with (fail)
                  rw [← hw3]
                  clear hw3 d0 d1 d2 d3 d4 d5 d6 d7 d8
                  obtain ⟨x0, x1, x2, x3, x4, x5, x6, x7, x8⟩ := HRW.out.cells
                  generalize wr.heap.size = p3 at HRW x0 x1 x2 x3 x4 x5 x6 x7 x8 ⊢
                  go_wp2_with (first
                    | (go_at_call 89; refine (rrPut_any w3 w1.heap.size g F z t r S HFR.out HO.out.W (HD.out w3 HO.out.bw) (fun b hb => ⟨Nat.lt_of_lt_of_le (HS1.out b hb) HO.out.bw.size, fun hf => by have h1 := HS1.out b hb; have h2 := (HO.out.W.F_lt b hf).1; omega⟩) (by have := HBD.out.1; omega) (by have := HBD.out.2; omega)).mono ?_; rintro e w4 ⟨rfl, F4, h4, hc4, hF4⟩; have HO4 := Lib.hid (HO.out.step h4 hc4 hF4); clear h4 hc4 hF4)
                    | fail)
                  go_roundw
                  case rel => exact ⟨k + 1, by go_num, by omega, F4, by rw [HTK.out]; exact HO4.out⟩
                  case measure => simp [intOf]; omega
                · obtain rfl : k = l.length := by omega
                  rw [List.take_length] at HST
                  go_wp2
                  go_roundw
                  case rel => obtain ⟨F, h⟩ := HST.out; exact ⟨j + 1, by go_num, by omega, F, by rw [HTE.out]; exact h⟩
                  case measure => simp [intOf]; omega
            · obtain rfl : j = 3 := by omega
              obtain ⟨F, hst⟩ := HST.out
              have HO := Lib.hid hst.toWrS
              have HB3 := Lib.hid (sec_bnd3 HF.out HB.out)
              have HRW := Lib.hid (HR1.out.below hst.bw)
              clear hst HST hlt hj
              generalize secW m 3 = y at HO HB3 HOPT
              have z12 : wr.cell? ⟨q, 12, none⟩ = some (.bool false) := (HRW.out.cell 12).trans (by rw [← HE.out]; rfl)
              have HOPT2 : Hid (y = msW m) := by show _ = _; rw [← HOPT.out]; unfold Wr.opt; rw [if_neg (by rw [HE.out]; decide)]
              go_wp2_with (first
                | (go_at_call 91; refine (wbytes_any wr w1.heap.size g F y HO.out.W (by have := HB3.out; omega)).mono ?_; rw [HOPT2.out]; rintro e w10 ⟨v10, rfl, ho10, hb10⟩)
                | fail)
              go_ret
              have hbw := nx HB1.out HO.out.bw
              exact ⟨_, rfl, ho10.mono hbw.size, nx hbw hb10⟩
theorem mRaw_any (s : MS) (m : Ms) (w : World) {S : Nat → Prop} (h : MIn S w s m) (hS : ∀ b, S b → b < w.heap.size) (hf : FineM m) (hb : bytesM m ≤ 200000) :
    Calls Try.prog 45 #[msV s m] w (RetP (fun v w' => OwnB w' w.heap.size v (msW m).b) w) := by
  cases he : m.edns with
  | true => exact mRaw_true s m w h hS hf hb he
  | false => exact mRaw_false s m w h hS hf hb he
end Go.Proofs.Ytmkfjddighabcaa

/- append(s, x...): s a row of the call's own, x whatever elements that read by the Enc. No program in it. -/
namespace Go.Proofs.Ytmkfjddighabcaa
open Go.RowKit

section
variable {α : Type} {E : Enc α} {w : World} {So Si : Nat → Prop}
/-- The cells of elements, one behind the other. -/
theorem els_cells {b off : Nat} {ys : List α} (h : ∀ i x, ys[i]? = some x → ∃ r, E.R Si w r x ∧ ∀ j u, r[j]? = some u → w.cell? ⟨b, off + (i * E.size + j), none⟩ = some u) :
    ∃ r : List Value, r.length = ys.length * E.size ∧ (∀ j u, r[j]? = some u → w.cell? ⟨b, off + j, none⟩ = some u) ∧ (∀ i x, ys[i]? = some x → E.R Si w ((r.drop (i * E.size)).take E.size) x) ∧ ∀ u ∈ r, u.oneCell' = true := by
  revert h
  refine snoc_ind (P := fun ys => (∀ i x, ys[i]? = some x → ∃ r, E.R Si w r x ∧ ∀ j u, r[j]? = some u → w.cell? ⟨b, off + (i * E.size + j), none⟩ = some u) → ∃ r : List Value, r.length = ys.length * E.size ∧ (∀ j u, r[j]? = some u → w.cell? ⟨b, off + j, none⟩ = some u) ∧ (∀ i x, ys[i]? = some x → E.R Si w ((r.drop (i * E.size)).take E.size) x) ∧ ∀ u ∈ r, u.oneCell' = true) (fun _ => ⟨[], by simp, fun j u h => by simp at h, fun i x h => by simp at h, fun u h => by simp at h⟩) (fun ys y ih h => ?_) ys
  obtain ⟨r, h1, h2, h3, h4⟩ := ih fun i x hx => h i x (by rw [List.getElem?_append_left (List.getElem?_eq_some_iff.1 hx).1]; exact hx)
  obtain ⟨s, hs, hc⟩ := h ys.length y (by rw [List.getElem?_append_right (Nat.le_refl _), Nat.sub_self]; rfl)
  have hsl := E.len hs
  refine ⟨r ++ s, by rw [List.length_append, List.length_append, List.length_singleton, h1, hsl, Nat.add_mul, Nat.one_mul], fun j u hu => ?_, fun i x hx => ?_, fun u hu => (List.mem_append.1 hu).elim (h4 u) (E.one hs u)⟩
  · by_cases hj : j < r.length
    · rw [List.getElem?_append_left hj] at hu
      exact h2 j u hu
    · rw [List.getElem?_append_right (by omega)] at hu
      have := hc _ u hu
      rw [← h1, show r.length + (j - r.length) = j by omega] at this
      exact this
  · by_cases hi : i < ys.length
    · rw [List.getElem?_append_left hi] at hx
      rw [chunk h1 hx rfl]
      exact h3 i x hx
    · rw [List.getElem?_append_right (by omega)] at hx
      have hi0 : i = ys.length := by
        have := (List.getElem?_eq_some_iff.1 hx).1
        simp at this
        omega
      subst hi0
      rw [Nat.sub_self] at hx
      injection hx with hx
      subst hx
      rw [← h1, List.drop_append_of_le_length (Nat.le_refl _), List.drop_length, List.nil_append, List.take_of_length_le (by omega)]
      exact hs
theorem els_rd {A : Option Addr} {n : Nat} {ys : List α} (h : Els E So Si w A n ys) : ∃ r : List Value, Rd w E.size A n r ∧ (∀ i x, ys[i]? = some x → E.R Si w ((r.drop (i * E.size)).take E.size) x) ∧ ∀ u ∈ r, u.oneCell' = true := by
  by_cases hn : 0 < n
  · obtain ⟨b, off, rfl, _, hx⟩ := h.2 hn
    obtain ⟨r, h1, h2, h3, h4⟩ := els_cells hx
    exact ⟨r, ⟨by rw [h1, h.1], fun _ => ⟨b, off, rfl, h2⟩⟩, h3, h4⟩
  · obtain rfl : n = 0 := by omega
    have : ys = [] := List.eq_nil_of_length_eq_zero h.1
    subst this
    exact ⟨[], Rd.nil _ _ _, fun i x h => by simp at h, fun u h => by simp at h⟩
theorem chunk_r {cells r : List Value} {n i : Nat} (hc : cells.length = n * E.size) :
    ((cells ++ r).drop ((n + i) * E.size)).take E.size = (r.drop (i * E.size)).take E.size := by
  rw [Nat.add_mul, ← hc, List.drop_append, List.drop_of_length_le (by omega), List.nil_append]
  congr 2
  omega
end
/-- append(s, x...), in a drawn region. -/
theorem step_appE {α : Type} {P : Program} {T e : TypeId} {E : Enc α} {bytes : Nat} {w : World} (ht : ElT P T e E bytes) {ops : Array Oper} {o : Oper} {a : Act} {K : Act → World → Prop} {Q : Exit → Act → World → Prop} {X : Prop} (hgd : Region.wanted o (yielded ops a.tmps) = true) (s x : Operand)
    (ho : o.op = .call { callee := .builtin .append, args := #[s, x], argTypes := #[T, T] })
    (base : Nat) (v : Value) (xs : List α) {S : Nat → Prop} (hs : a.eval s = v) (hown : OwnE E e S w base v xs) (A : Option Addr) (n c : Nat) (ys : List α) {So S' : Nat → Prop} (hr : Els E So S' w A n ys) (hS' : ∀ b, S' b → b < w.heap.size ∧ some b ≠ v.ownBlock)
    (hx : a.eval x = .slice A n c) (hb : (xs.length + n) * bytes ≤ 140737488355328) (hl : xs.length + n ≤ maxLen) (hbase : base ≤ w.heap.size)
    (h : ∀ v' w', OwnE E e (orS S S') w' base v' (xs ++ ys) → w.grownBy w' v.ownBlock → (v'.ownBlock = v.ownBlock ∨ v'.ownBlock = some w.heap.size) → K (a.put o.dst v') w') :
    if Region.wanted o (yielded ops a.tmps) = true then Oper.wp P o a w K Q else X := by
  rw [if_pos hgd]
  obtain ⟨hT, i, z, hi, hz, hsz, hby, hzc⟩ := ht
  have hlt := hown.lt
  obtain ⟨cells, hw, hread, hS⟩ := hown
  obtain ⟨r, hrd, hrr, hone⟩ := els_rd hr
  have hyl := hr.len
  refine wp_append_any (P := P) s x _ ho base e i z E.size bytes hT hi hz hsz hby hzc E.pos v xs.length _ hs hw A n c r hx hrd hone hl hb hbase fun v' w' h1 h2 h3 => h v' w' ?_ h2 h3
  have hbl : ∀ b, b < w.heap.size → some b ≠ v.ownBlock → w'.heap[b]? = w.heap[b]? := fun b hb1 hb2 => h2.block b hb1 hb2
  refine ⟨cells ++ r, by rw [List.length_append, hyl]; exact h1, fun j y' hy => ?_, fun b hb' => ?_⟩
  · by_cases hj : j < xs.length
    · rw [List.getElem?_append_left hj] at hy
      rw [chunk hw.1 hy rfl]
      exact E.mono (fun b hb' => .inl hb') (E.keep (fun b hb' => hbl b (hS b hb').1 (hS b hb').2) (hread j y' hy))
    · rw [List.getElem?_append_right (by omega)] at hy
      have hy2 := hy
      have he : j = xs.length + (j - xs.length) := by omega
      rw [he, chunk_r hw.1]
      exact E.mono (fun b hb' => .inr hb') (E.keep (fun b hb' => hbl b (hS' b hb').1 (hS' b hb').2) (hrr _ y' hy2))
  · have hb2 : b < w.heap.size ∧ some b ≠ v.ownBlock := hb'.elim (fun h => hS b h) (fun h => hS' b h)
    refine ⟨Nat.lt_of_lt_of_le hb2.1 h2.size, ?_⟩
    rcases h3 with h3 | h3
    · rw [h3]; exact hb2.2
    · rw [h3]
      intro hc
      injection hc with hc
      omega
/-- A row of no elements. -/
theorem ownE_lit0 {α : Type} {E : Enc α} {e : TypeId} {w : World} {S : Nat → Prop} {base : Nat} (hS : ∀ b, S b → b < w.heap.size) (hb : base ≤ w.heap.size) : OwnE E e S (w.alloc (.cells #[] e)) base (.slice (some ⟨w.heap.size, 0, none⟩) 0 0) [] :=
  ⟨[], World.ownsRow_lit (e := e) (size := E.size) w #[] 0 hb (by simp) (by simp), fun i x h => by simp at h, fun b h => ⟨by have := hS b h; simp; omega, fun he => by have h1 := hS b h; injection he with he; rw [he] at h1; exact Nat.lt_irrefl _ h1⟩⟩
end Go.Proofs.Ytmkfjddighabcaa

/- msg.Encode. -/
namespace Go.Proofs.Ytmkfjddighabcaa
open Go.RowKit
set_option maxRecDepth 100000

/-- A message's bytes, or the error. -/
noncomputable def encP (m : Ms) : List UInt8 × Int := if fineM m = true then (if (msW m).b.length ≤ 65535 then ((msW m).b, 0) else ([], 4)) else ([], 2)
theorem fineM_iff {m : Ms} : fineM m = true ↔ FineM m := by
  by_cases h : FineM m
  · exact ⟨fun _ => h, fineM_yes⟩
  · rw [fineM_no h]; exact ⟨fun h1 => (by cases h1), fun h2 => absurd h2 h⟩
theorem encP_bad {m : Ms} (h : fineM m = false) : encP m = ([], 2) := by unfold encP; rw [if_neg (by rw [h]; decide)]
theorem encP_large {m : Ms} (h : fineM m = true) (hl : 65535 < (msW m).b.length) : encP m = ([], 4) := by unfold encP; rw [if_pos h, if_neg (by omega)]
theorem encP_ok {m : Ms} (h : fineM m = true) (hl : (msW m).b.length ≤ 65535) : encP m = ((msW m).b, 0) := by unfold encP; rw [if_pos h, if_pos hl]
theorem encP_len (m : Ms) : (encP m).1.length ≤ 65535 := by
  unfold encP
  split
  · split
    · assumption
    · simp
  · simp

set_option maxHeartbeats 4000000 in
theorem mEncode_any (s : MS) (m : Ms) (w : World) {S : Nat → Prop} (h : MIn S w s m) (hS : ∀ b, S b → b < w.heap.size) (hL : LtM m) (hb : bytesM m ≤ 200000) :
    Calls Try.prog 17 #[msV s m] w (RetP (fun v w' => ∃ bv, v = .tuple #[bv, .int .i64 (encP m).2] ∧ OwnB w' w.heap.size bv (encP m).1) w) := by
  obtain ⟨w1, hw1⟩ : ∃ w1, w1 = w.alloc (.cells (mCells s m) 25) := ⟨_, rfl⟩
  have hb1 : Below w.heap.size w w1 := by rw [hw1]; exact bl.alloc (Nat.le_refl _) _
  have HR1 : Hid (MRow w1 w.heap.size s m) := by show MRow _ _ _ _; rw [hw1]; exact MRow.made w s m
  have hS1 : ∀ b, S b → b < w1.heap.size := fun b hb => Nat.lt_of_lt_of_le (hS b hb) hb1.size
  have HS := Lib.hid (mSound_any s m w1 (h.below hb1 hS) hS1 hL)
  have HI := Lib.hid (h.below hb1 hS)
  have HS1 : Hid (∀ b, S b → b < w1.heap.size) := hS1
  have HB := Lib.hid hb
  have HB1 := Lib.hid hb1
  obtain ⟨z0, z1, z2, z3, z4, z5, z6, z7, z8, z9, z10, z11, z12, z13⟩ := HR1.out.cells
  unfold msV mCells at HS
  unfold msV
  unfold mCells at hw1 ⊢
  clear h hS hb1 hL hb hS1
  cases hf : fineM m with
  | false =>
    rw [hf] at HS
    have HE := Lib.hid (encP_bad hf)
    clear hf
    go_enter Try.func17, Try.ntmps17
    go_upto_region 1 with (fail)
    rw [← hw1]
    clear hw1
    go_wp2_with (first
      | (go_at_call 21; refine HS.out.mono ?_; rintro e w2 ⟨v2, rfl, rfl, hb2⟩)
      | fail)
    go_ret2
    exact ⟨_, rfl, ⟨_, (by rw [HE.out]; rfl), by rw [HE.out]; exact OwnB.nil _ _⟩, nx HB1.out hb2⟩
  | true =>
    rw [hf] at HS
    have HFT := Lib.hid hf
    clear hf
    have HRAW : Hid (∀ w2, Below w1.heap.size w1 w2 → Calls Try.prog 45 #[.agg #[.int .i64 m.id, .bool m.resp, .int .i64 m.op, .bool m.aa, .bool m.tc, .bool m.rd, .bool m.ra, .int .i64 m.rcode, .slice s.Q m.qs.length s.qc, .slice s.A m.an.length s.ac, .slice s.U m.au.length s.uc, .slice s.X m.ex.length s.xc, .bool m.edns, .int .i64 m.size]] w2 (RetP (fun v w' => OwnB w' w2.heap.size v (msW m).b) w2)) :=
      fun w2 hw => mRaw_any s m w2 (HI.out.below hw HS1.out) (fun b hb => Nat.lt_of_lt_of_le (HS1.out b hb) hw.size) (fineM_iff.1 HFT.out) HB.out
    go_enter Try.func17, Try.ntmps17
    go_upto_region 1 with (fail)
    rw [← hw1]
    clear hw1
    go_upto_region 3 with (first
      | (go_at_call 21; refine HS.out.mono ?_; rintro e w2 ⟨v2, rfl, rfl, hb2⟩)
      | fail)
    have HB2 := Lib.hid hb2
    clear z0 z1 z2 z3 z4 z5 z6 z7 z8 z9 z10 z11 z12 z13 hb2
    obtain ⟨z0, z1, z2, z3, z4, z5, z6, z7, z8, z9, z10, z11, z12, z13⟩ := (HR1.out.below HB2.out).cells
    go_upto_region 4 with (first
      | (go_at_call 45; refine (HRAW.out w2 HB2.out).mono ?_; rintro e w3 ⟨v3, rfl, ho3, hb3⟩; obtain ⟨A3, c3, hv3, _, _, _⟩ := OwnB.form ho3; subst hv3; have HO3 := Lib.hid ho3; have HB3 := Lib.hid (nx HB1.out (nx HB2.out hb3)); clear ho3 hb3)
      | fail)
    have HBS : Hid (w.heap.size ≤ w2.heap.size) := (nx HB1.out HB2.out).size
    obtain ⟨n, hn⟩ : ∃ n, n = (msW m).b.length := ⟨_, rfl⟩
    have HN := Lib.hid hn
    rw [← hn] at HO3 ⊢
    clear hn
    by_cases hl : (65535 : Int) < (n : Int)
    · have HE := Lib.hid (encP_large HFT.out (by rw [← HN.out]; omega))
      go_wp2
      go_ret2
      exact ⟨_, rfl, ⟨_, (by rw [HE.out]; rfl), by rw [HE.out]; exact OwnB.nil _ _⟩, HB3.out⟩
    · have HE := Lib.hid (encP_ok HFT.out (by rw [← HN.out]; omega))
      go_wp2
      go_ret2
      exact ⟨_, rfl, ⟨_, (by rw [HE.out]; rfl), by rw [HE.out]; exact HO3.out.mono HBS.out⟩, HB3.out⟩
end Go.Proofs.Ytmkfjddighabcaa

/- What each law's walk ends with. -/
namespace Go.Proofs.Ytmkfjddighabcaa
open Go.RowKit

/-- The law returns true, and what was there is as it was. -/
def LawT (w : World) (e : Ending) (w' : World) : Prop := e = .returned (.bool true) ∧ Below w.heap.size w w'
end Go.Proofs.Ytmkfjddighabcaa

/- gazetteerlaw06.answers. -/
namespace Go.Proofs.Ytmkfjddighabcaa
open Go.RowKit
set_option maxRecDepth 100000

def msA : Ms := ⟨258, false, 0, false, false, true, false, 0, [], [], [], [], false, 0⟩
theorem msA_fine : FineM msA := ⟨by decide, by decide, by decide, by decide, by decide, by decide, by decide, .inr rfl, fun _ h => (List.not_mem_nil h).elim, fun _ h => (List.not_mem_nil h).elim, fun _ h => (List.not_mem_nil h).elim, fun _ h => (List.not_mem_nil h).elim⟩
theorem msA_b : (msW msA).b = [1, 2, 1, 0, 0, 0, 0, 0, 0, 0, 0, 0] := by kernel_rfl
theorem msA_enc : encP msA = ([1, 2, 1, 0, 0, 0, 0, 0, 0, 0, 0, 0], 0) := by rw [encP_ok (fineM_yes msA_fine) (by rw [msA_b]; decide), msA_b]
theorem LtM.short {m : Ms} (h : m.qs = []) (h1 : m.an = []) (h2 : m.au = []) (h3 : m.ex = []) : LtM m := by
  have hs : ∀ j, secL m j = [] := fun j => by match j with | 0 => exact h1 | 1 => exact h2 | n + 2 => exact h3
  exact ⟨by rw [h]; decide, fun j => by rw [hs j]; decide, fun x hx => (by rw [h] at hx; cases hx), fun j x hx => (by rw [hs j] at hx; cases hx)⟩
theorem MIn.short {w : World} {m : Ms} (h : m.qs = []) (h1 : m.an = []) (h2 : m.au = []) (h3 : m.ex = []) (ii : i64S m.id) (io : i64S m.op) (ir : i64S m.rcode) (is : i64S m.size) : MIn noS w MS.nil m :=
  ⟨by rw [h]; exact Els.nil _ _ _ _ _, by rw [h1]; exact Els.nil _ _ _ _ _, by rw [h2]; exact Els.nil _ _ _ _ _, by rw [h3]; exact Els.nil _ _ _ _ _, by rw [h]; exact ⟨Nat.le_refl _, by decide⟩, by rw [h1]; exact ⟨Nat.le_refl _, by decide⟩, by rw [h2]; exact ⟨Nat.le_refl _, by decide⟩, by rw [h3]; exact ⟨Nat.le_refl _, by decide⟩, ii, io, ir, is⟩
set_option maxHeartbeats 2000000 in
theorem answers06_any (w : World) : Calls Try.prog 15 #[] w (LawT w) := by
  have HE := mEncode_any MS.nil msA w (MIn.short rfl rfl rfl rfl ⟨by decide, by decide⟩ ⟨by decide, by decide⟩ ⟨by decide, by decide⟩ ⟨by decide, by decide⟩) (fun _ h => h.elim) (LtM.short rfl rfl rfl rfl) (by decide)
  rw [msA_enc] at HE
  have HC : Hid (Calls Try.prog 17 #[.agg #[.int .i64 258, .bool false, .int .i64 0, .bool false, .bool false, .bool true, .bool false, .int .i64 0, .slice none 0 0, .slice none 0 0, .slice none 0 0, .slice none 0 0, .bool false, .int .i64 0]] w (RetP (fun v w' => ∃ bv, v = .tuple #[bv, .int .i64 0] ∧ OwnB w' w.heap.size bv [1, 2, 1, 0, 0, 0, 0, 0, 0, 0, 0, 0]) w)) := HE
  clear HE
  go_enter Try.func15, Try.ntmps15
  go_upto_region 2 with (first
    | (go_at_call 17; refine HC.out.mono ?_; rintro e w2 ⟨v2, rfl, ⟨bv, rfl, ho⟩, hb2⟩; obtain ⟨A2, c2, hv2, hrd, _, _⟩ := OwnB.form ho; subst hv2; obtain ⟨b2, off2, hA2, hc2⟩ := RdB.flat hrd (by decide); subst hA2; have x0 : w2.cell? ⟨b2, off2, none⟩ = some (.int .u8 1) := hc2 0 1 rfl; have x2 : w2.cell? ⟨b2, off2 + 2, none⟩ = some (.int .u8 1) := hc2 2 1 rfl; clear hc2 hrd ho)
    | fail)
  go_wp2
  go_ret
  exact ⟨rfl, hb2⟩
end Go.Proofs.Ytmkfjddighabcaa
