/- Parts of a proof, joined: Steps, Wtr5, RrPut, MsRaw, MsEncP, BytesLib, ShortP, Scrub1, OpenOu. -/
import Derived.Deep.RegionHeld3
import Derived.Test.YtimkdpkhdbiniaaQ01
import Derived.Test.YtimkdpkhdbiniaaQ02
import Derived.Test.YtimkdpkhdbiniaaQ04
import Derived.Test.YtimkdpkhdbiniaaQ07
import Derived.Test.YtimkdpkhdbiniaaQ08
/- Steps of a region that draws; a row of one's own, laid out. No program in it. -/
namespace Go.Proofs.Ytimkdpkhdbiniaa
open Go.RowKit

theorem step_copy_own {P : Program} {w : World} {ops : Array Oper} {o : Oper} {a : Act} {K : Act → World → Prop} {Q : Exit → Act → World → Prop} {E : Prop} (hgd : Region.wanted o (yielded ops a.tmps) = true) (d s : Operand) (dT sT : TypeId)
    (ho : o.op = .call { callee := .builtin .copy, args := #[d, s], argTypes := #[dT, sT] }) (elem : TypeId) (hu : P.underlying dT = some (.slice elem)) (hsz : (P.info? elem).map (·.size) = some 1)
    (g off dLen dCap : Nat) (ad : Addr) (sLen sCap : Nat) (hd : a.eval d = .slice (some ⟨g, off, none⟩) dLen dCap) (hs : a.eval s = .slice (some ad) sLen sCap)
    (cur : Array Value) (t : TypeId) (hg : w.heap[g]? = some (.cells cur t (0, 0))) (cs : List Value) (hn : cs.length = Nat.min sLen dLen)
    (hsrc : ∀ j v, cs[j]? = some v → w.cell? (ad.add j) = some v) (hfit : off + cs.length ≤ cur.size) (h1 : ∀ v ∈ cs, v.oneCell' = true)
    (h : K (a.put o.dst (goInt cs.length)) (w.setRow g (cur.toList.take off ++ (cs ++ cur.toList.drop (off + cs.length))).toArray)) : if Region.wanted o (yielded ops a.tmps) = true then Oper.wp P o a w K Q else E := by
  rw [if_pos hgd]
  exact wp_copy_own d s dT sT ho elem hu hsz g off dLen dCap ad sLen sCap hd hs cur t hg cs hn hsrc hfit h1 h

theorem OwnE.row {α : Type} {E : Enc α} {e : TypeId} {S : Nat → Prop} {w : World} {base : Nat} {v : Value} {xs : List α} (h : OwnE E e S w base v xs) (hn : 0 < xs.length) : ∃ g c cur, v = .slice (some ⟨g, 0, none⟩) xs.length c ∧ base ≤ g ∧ xs.length ≤ c ∧ w.heap[g]? = some (.cells cur e (0, 0)) ∧ cur.size = c * E.size ∧
    ∀ i x, xs[i]? = some x → E.R S w ((cur.toList.drop (i * E.size)).take E.size) x := by
  obtain ⟨cells, hw, hr, hS⟩ := h
  rcases hw.2 with ⟨rfl, h0⟩ | ⟨g, cap, cur, rfl, h2, h3, h4, h5, h6, h7⟩
  · omega
  · refine ⟨g, cap, cur, rfl, h2, h4, h3, h6, fun i x hx => ?_⟩
    have hi : i < xs.length := (List.getElem?_eq_some_iff.1 hx).1
    have hi1 : (i + 1) * E.size ≤ xs.length * E.size := Nat.mul_le_mul_right _ hi
    have hi3 : (i + 1) * E.size = i * E.size + E.size := by rw [Nat.add_mul, Nat.one_mul]
    have := hr i x hx
    rw [← h7, List.drop_take, List.take_take, Nat.min_eq_left (by omega)] at this
    exact this

end Go.Proofs.Ytimkdpkhdbiniaa

/- wname: Set; a writer that is none. -/
namespace Go.Proofs.Ytimkdpkhdbiniaa
open Go.RowKit Go.Maps

/-- What Set answers. -/
noncomputable def setOk (x : Wr) (at' n size : Int) : Prop := fitsB n size = true ∧ 0 ≤ at' ∧ at' ≤ x.b.length ∧ size ≤ x.b.length - at'
theorem putB_fit_length {n size : Int} (h : fitsB n size = true) : ((putB [] n size).length : Int) = size ∧ 1 ≤ size ∧ size ≤ 7 := by
  obtain ⟨h1, h2, _⟩ := fitsB_true h
  unfold putB
  rw [if_pos h]
  simp [length_be]
  omega

theorem OwnB.src {w : World} {B g n c : Nat} {bs : List UInt8} (h : OwnB w B (.slice (some ⟨g, 0, none⟩) n c) bs) : ∀ j v, (bs.map bV)[j]? = some v → w.cell? (Addr.add ⟨g, 0, none⟩ j) = some v := by
  intro j v hv
  have hj : j < bs.length := by have := (List.getElem?_eq_some_iff.1 hv).1; simpa using this
  obtain ⟨g', c', e, _, _, _, _, hc⟩ := h.flat (by omega)
  injection e with e1 _ _
  injection e1 with e1
  injection e1 with e1
  subst e1
  rw [List.getElem?_map] at hv
  obtain ⟨y, hy, rfl⟩ := Option.map_eq_some_iff.1 hv
  rw [add_flat, Nat.zero_add]
  exact hc j y hy

theorem Wtr.put {w w' w2 : World} {B g gb mb cap : Nat} {F : Nat → Prop} {x : Wr} {cur : Array Value} {k : Nat} {r : List UInt8} (hn : x.Near) (hg : w.heap[g]? = some (.cells #[.slice (some ⟨gb, 0, none⟩) x.b.length cap, .map (some mb)] 176 (0, 0))) (hm : MapIs w mb x.rests) (hgF : F g ∧ B ≤ g)
    (hbF : ∀ k, Value.ownBlock (.slice (some ⟨gb, 0, none⟩) x.b.length cap) = some k → F k ∧ k ≠ g ∧ k ≠ mb) (hmF : F mb ∧ mb ≠ g) (hF : ∀ k, F k → B ≤ k ∧ k < w.heap.size) (hbg : B ≤ gb) (hcb : w.heap[gb]? = some (.cells cur 5 (0, 0))) (hnc : x.b.length ≤ cap) (hcm : cap ≤ maxLen) (hcs : cur.size = cap) (htake : cur.toList.take x.b.length = x.b.map bV)
    (hk : k + r.length ≤ x.b.length) (hb2 : Below w.heap.size w w2) (hw' : w' = w2.setRow gb (cur.toList.take k ++ (r.map bV ++ cur.toList.drop (k + (r.map bV).length))).toArray) : Wtr w' B F g (x.put k r) ∧ Chg F w w' := by
  subst hw'
  have hgb := hbF gb rfl
  have hgl := (hF g hgF.1).2
  have hbl := (hF gb hgb.1).2
  have hml := (hF mb hmF.1).2
  have hc1 : Chg F w w2 := Chg.of_below hb2
  have hcb2 : w2.heap[gb]? = some (.cells cur 5 (0, 0)) := (hb2.block gb hbl).trans hcb
  have hsz := hb2.size
  refine ⟨⟨hn, _, mb, ?_, ⟨by simp, .inr ⟨gb, cap, _, rfl, hbg, setRow_heap _ _ _ _ _ _ hcb2, ?_, hcm, ?_, ?_⟩⟩, ?_, hgF, ?_, hmF, fun k hk => ⟨(hF k hk).1, by simp; have := (hF k hk).2; omega⟩⟩, hc1.setRow (Or.inl hgb.1) _⟩
  · rw [setRow_other _ _ _ _ (Ne.symm hgb.2.1), hb2.block g hgl, hg]
    simp only [Wr.put]
    rw [putAt_length hk]
  · simp only [Wr.put]; rw [putAt_length hk]; exact hnc
  · rw [List.size_toArray]
    simp only [List.length_append, List.length_take, List.length_drop, List.length_map, Array.length_toList]
    omega
  · simp only [Wr.put]
    rw [putAt_length hk, Nat.mul_one, List.toList_toArray]
    unfold putAt
    have e1 : cur.toList.take k = (x.b.map bV).take k := by rw [← htake, List.take_take, Nat.min_eq_left (by omega)]
    rw [e1, List.map_append, List.map_append, List.length_map]
    have e2 : (x.b.map bV).take k = (x.b.take k).map bV := List.map_take.symm
    rw [e2, List.take_append, List.take_append]
    have l1 : ((x.b.take k).map bV).length = k := by simp; omega
    rw [l1, List.take_of_length_le (by rw [l1]; omega), List.take_of_length_le (l := r.map bV) (by rw [List.length_map]; omega), List.length_map]
    congr 2
    rw [List.map_drop, ← htake, List.drop_take, Nat.sub_sub]
  · exact hm.keep (by rw [setRow_other _ _ _ _ (Ne.symm hgb.2.2)]; exact hb2.block mb hml)
  · simp only [Wr.put]
    rw [putAt_length hk]
    exact hbF

set_option maxRecDepth 100000 in
set_option maxHeartbeats 2000000 in
theorem wset_any (w : World) (B g : Nat) (F : Nat → Prop) (x : Wr) (k : Nat) (n size : Int) (h : Wtr w B F g x) (hx : x.b.length ≤ 1000000000) (hs : setOk x k n size) :
    Calls Try.prog 196 #[.pointer (some ⟨g, 0, none⟩), .int .i64 (k : Int), .int .i64 n, .int .i64 size] w (RetX w B F g (x.put k (putB [] n size)) (.int .i64 0)) := by
  obtain ⟨h1, h2, h3, h4⟩ := hs
  obtain ⟨hpl, hp1, hp7⟩ := putB_fit_length h1
  have H1 := Lib.hid h1
  clear h1
  obtain ⟨hn, bv, mb, hg, hbv, hm, hgF, hbF, hmF, hF⟩ := h
  have hbv' := hbv
  obtain ⟨_, hb2⟩ := hbv'
  rcases hb2 with ⟨_, h0⟩ | ⟨gb, cap, cur, rfl, hbg, hcb, hnc, hcm, hcs, htake⟩
  · exfalso; omega
  have c0 : w.cell? ⟨g, 0, none⟩ = some (.slice (some ⟨gb, 0, none⟩) x.b.length cap) := (cell_of_row _ _ _ _ _ _ hg).trans rfl
  have HG := Lib.hid hg
  have HC := Lib.hid hcb
  have HT := Lib.hid htake
  have HS := Lib.hid hcs
  have hgb := hbF gb rfl
  have hgl := (hF g hgF.1).2
  have hbl := (hF gb hgb.1).2
  rw [Nat.mul_one] at htake
  have hk1 : (k : Int) ≤ x.b.length := h3
  have hk0 : (0 : Int) ≤ k := Int.natCast_nonneg k
  clear hg hcb hcs
  have htk := Lib.hid htake
  clear htake HT
  go_enter Try.func196, Try.ntmps196
  go_wp2_with (go_at_call 88; refine (fits_any _ _ _).mono ?_; rw [H1.out]; rintro e w1 ⟨rfl, rfl⟩)
  have hlen : (putB [] n size).length ≤ x.b.length - k := by omega
  have hpl7 : (putB [] n size).length ≤ 7 := by omega
  have hp0 : 0 < (putB [] n size).length := by omega
  generalize hr : putB [] n size = r at hlen hpl7 hp0
  have HR := Lib.hid hr
  clear hr hpl
  go_region_held3 (fun w' => w'.cell? ⟨g, 0, none⟩ = some (.slice (some ⟨gb, 0, none⟩) x.b.length cap))
    (first
      | with_reducible exact c0
      | with_reducible exact below_cell bl.drew c0
      | with_reducible exact below_cell hbD c0
      | with_reducible exact (cell_setRow_other _ _ _ ⟨g, 0, none⟩ (Ne.symm hgb.2.1)).trans (below_cell hbD c0))
    (first
      | (go_at_call 149; refine (put_any none 0 0 [] n size w.drew (Rd.nil _ _ _) (by omega)).mono ?_; rintro e w2 ⟨v2, rfl, hown2, hb2⟩; rw [HR.out] at hown2; have hbD : Below w.heap.size w w2 := nx bl.drew hb2; obtain ⟨g2, cc2, rfl, hg2, hgl2, hl2, hc2, hcell2⟩ := hown2.flat hp0; have HC2 := Lib.hid ((hbD.block gb hbl).trans HC.out); have HSRC := Lib.hid hown2.src; clear hown2 hcell2)
      | (refine step_copy_own (by rfl) (.tmp 46) (.tmp 49) _ _ (by rfl) 5 Try.underlying22 sizeB gb k (x.b.length - k) (cap - k) ⟨g2, 0, none⟩ r.length cc2 (by rfl) (by rfl) _ _ HC2.out (r.map bV) (by rw [List.length_map]; exact (Nat.min_eq_left hlen).symm) HSRC.out (by rw [List.length_map, HS.out]; omega) (bV_one r) ?_))
  go_wp2
  go_ret
  have hp := Wtr.put hn HG.out hm hgF hbF hmF hF hbg HC.out hnc hcm (HS.out.trans (Nat.mul_one _)) htk.out (k := k) (r := r) (by omega) hbD rfl
  exact ⟨rfl, F, HR.out.symm ▸ hp.1, hp.2, fun z hz => .inl hz⟩

end Go.Proofs.Ytimkdpkhdbiniaa

/- rr.Put in general. -/
namespace Go.Proofs.Ytimkdpkhdbiniaa
open Go.RowKit
set_option maxRecDepth 100000

structure RrSt (w wr : World) (B g : Nat) (F Fr : Nat → Prop) (y : Wr) (q : Nat) (S : Nat → Prop) (s : RS) (r : RR) : Prop where
  W : Wtr wr B Fr g y
  C : Chg F w wr
  N : ∀ z, Fr z → F z ∨ w.heap.size ≤ z
  Q : RRow wr q s r
  D : RIn S wr s r
  qF : ¬ Fr q
  SF : ∀ b, S b → b < wr.heap.size ∧ ¬ Fr b
section
variable {w wr w' : World} {B g q : Nat} {F Fr F' S : Nat → Prop} {y y' : Wr} {s : RS} {r : RR}
theorem RrSt.step (h : RrSt w wr B g F Fr y q S s r) (hw : Wtr w' B F' g y') (hc : Chg Fr wr w') (hF : ∀ z, F' z → Fr z ∨ wr.heap.size ≤ z) : RrSt w w' B g F F' y' q S s r where
  W := hw
  C := h.C.trans hc h.N
  N := new_trans h.C h.N hF
  Q := hc.heap h.Q h.qF
  D := h.D.chg hc h.SF
  qF := fun hq => (hF q hq).elim h.qF (fun hl => by have := (Array.getElem?_eq_some_iff.1 h.Q).1; omega)
  SF := fun b hb => ⟨Nat.lt_of_lt_of_le (h.SF b hb).1 hc.size, fun hq => (hF b hq).elim (h.SF b hb).2 (fun hl => by have := (h.SF b hb).1; omega)⟩
theorem RrSt.below (h : RrSt w wr B g F Fr y q S s r) (hb : Below wr.heap.size wr w') : RrSt w w' B g F Fr y q S s r := h.step (h.W.below hb) (Chg.of_below hb) (fun _ hz => .inl hz)
theorem RrSt.done (h : RrSt w wr B g F Fr y q S s r) {v : Value} {u : Wr} (hz : y = u) : RetX w B F g u v (.returned v) wr := by subst hz; exact ⟨rfl, Fr, h.W, h.C, h.N⟩
theorem RrSt.start {x : Wr} (h : Wtr w B F g x) (hd : RIn S w s r) (hS : ∀ b, S b → b < w.heap.size ∧ ¬ F b) : RrSt w (w.alloc (.cells (rrCells s r) 84)) B g F F x w.heap.size S s r := by
  have hb : Below w.heap.size w (w.alloc (.cells (rrCells s r) 84)) := bl.alloc (Nat.le_refl _) _
  exact ⟨h.below hb, Chg.of_below hb, fun _ hz => .inl hz, RRow.made w s r, hd.below hb (fun b hb' => (hS b hb').1), fun hq => by have := (h.F_lt _ hq).2; omega, fun b hb' => ⟨Nat.lt_of_lt_of_le (hS b hb').1 hb.size, (hS b hb').2⟩⟩
end

set_option maxHeartbeats 8000000 in
theorem rrPut_any (w : World) (B g : Nat) (F : Nat → Prop) (x : Wr) (s : RS) (r : RR) (S : Nat → Prop) (hf : FineR r) (h : Wtr w B F g x) (hd : RIn S w s r) (hS : ∀ b, S b → b < w.heap.size ∧ ¬ F b) (hx : x.b.length ≤ 8990000) (hxr : x.rests.length ≤ 8990000) :
    Calls Try.prog 181 #[.pointer (some ⟨g, 0, none⟩), rrV s r] w (RetX w B F g (x.rr r) (.int .i64 0)) := by
  have hst := RrSt.start h hd hS
  obtain ⟨w1, hw1⟩ : ∃ w1, w1 = w.alloc (.cells (rrCells s r) 84) := ⟨_, rfl⟩
  rw [← hw1] at hst
  have ST1 := Lib.hid hst
  obtain ⟨x0, x1, x2, x3, x4, x5, x6, x7, x8⟩ := hst.Q.cells
  have HF := Lib.hid hf
  have HFB := Lib.hid (fineRB_true hf)
  have hln : r.name.length ≤ 255 := by have := sizeN_length r.name; have := hf.1.2; omega
  have HLN := Lib.hid hln
  have HRN : Hid (r.data.host.length ≤ 1000000000 ∧ r.data.mail.length ≤ 1000000000 ∧ r.data.nums.length ≤ 1000000000 ∧ r.data.texts.length ≤ 1000000000) := by
    have hh := hf.2.1.2
    have h1 := hh.2.2.1
    have h4 : r.data.host.length ≤ 255 := by
      have := hh.2.2.2.1; unfold hostP at this
      split at this
      · have h5 := sizeN_length r.data.host; have := this.2; omega
      · rw [this]; simp
    have h5 : r.data.mail.length ≤ 255 := by
      have := hh.2.2.2.2.1; unfold hostP at this
      split at this
      · have h5 := sizeN_length r.data.mail; have := this.2; omega
      · rw [this]; simp
    have h6 : r.data.texts.length ≤ 64 := by
      have := hh.2.2.2.2.2.2; unfold textsP at this
      split at this
      · exact this.2.1
      · rw [this]; simp
    have h7 : (shapeP r.type).nums ≤ 5 := by rcases shape_cases r.type with e | e | e | e | e | e | e | e <;> rw [e] <;> decide
    exact ⟨by omega, by omega, by omega, by omega⟩
  obtain ⟨y1, hy1⟩ : ∃ y1, y1 = x.name r.name true := ⟨_, rfl⟩
  obtain ⟨y2, hy2⟩ : ∃ y2, y2 = y1.raw (putB [] r.type 2) := ⟨_, rfl⟩
  obtain ⟨y3, hy3⟩ : ∃ y3, y3 = y2.raw (putB [] r.cls 2) := ⟨_, rfl⟩
  obtain ⟨y4, hy4⟩ : ∃ y4, y4 = y3.raw (putB [] r.ttl 4) := ⟨_, rfl⟩
  obtain ⟨y5, hy5⟩ : ∃ y5, y5 = y4.raw (putB [] 0 2) := ⟨_, rfl⟩
  obtain ⟨y6, hy6⟩ : ∃ y6, y6 = y5.data (shapeP r.type) r.data := ⟨_, rfl⟩
  have hhead : y4 = x.rrHead r := by rw [hy4, hy3, hy2, hy1]; rfl
  have hl1 := Wr.name_le (x := x) r.name true
  have hr1 := Wr.name_rests (x := x) r.name true
  rw [← hy1] at hl1 hr1
  have hl2 : y2.b.length ≤ y1.b.length + 7 := by rw [hy2, raw_len]; have := putB_len r.type 2; omega
  have hl3 : y3.b.length ≤ y2.b.length + 7 := by rw [hy3, raw_len]; have := putB_len r.cls 2; omega
  have hl4 : y4.b.length ≤ y3.b.length + 7 := by rw [hy4, raw_len]; have := putB_len r.ttl 4; omega
  have hl5 : y5.b.length = y4.b.length + 2 := by rw [hy5, raw_len, put02_len]
  have hr5 : y5.rests = y1.rests := by rw [hy5, hy4, hy3, hy2]; rfl
  have hl6 := Wr.data_len y5 hf.2.1.2
  rw [← hy6] at hl6
  have hsz := hf.1.2
  obtain ⟨n, hn⟩ : ∃ n, n = x.rrLen r := ⟨_, rfl⟩
  have hn2 : y6.b.length = y4.b.length + (2 + n) := by
    have : n = y6.b.length - y4.b.length - 2 := by rw [hn, hy6, hy5, hhead]; rfl
    omega
  have hnl : n < 65536 := by rw [hn]; exact x.rrLen_lt hf
  have HY1 := Lib.hid hy1
  have HY2 := Lib.hid hy2
  have HY3 := Lib.hid hy3
  have HY4 := Lib.hid hy4
  have HY5 := Lib.hid hy5
  have HY6 := Lib.hid hy6
  have HX : Hid (x.b.length ≤ 8990000 ∧ x.rests.length ≤ 8990000 ∧ y1.b.length ≤ 8990300 ∧ y2.b.length ≤ 8990310 ∧ y3.b.length ≤ 8990320 ∧ y4.b.length ≤ 8990330 ∧ y5.b.length ≤ 8990340 ∧ y5.rests.length ≤ 8990300 ∧ y6.b.length ≤ 9100000) := by
    rw [hr5]
    exact ⟨by omega, by omega, by omega, by omega, by omega, by omega, by omega, by omega, by omega⟩
  have HN2 := Lib.hid hn2
  have HNL := Lib.hid hnl
  have HEND : Hid (y6.put y4.b.length (putB [] (n : Int) 2) = x.rr r) := by
    show _ = _
    rw [hn, hy6, hy5, hhead]; rfl
  unfold rrV
  unfold rrCells at hw1 ⊢
  clear h hd hS hf hst hln hx hxr hy1 hy2 hy3 hy4 hy5 hy6 hhead hl1 hr1 hl2 hl3 hl4 hl5 hr5 hl6 hsz hn hn2 hnl
  go_enter Try.func181, Try.ntmps181
  go_upto_region 1 with (fail)
  rw [← hw1]
  clear hw1
  go_upto_region 3 with (first
    | (go_at_call 134; refine (rrSound_any s r w1 ST1.out.D (fun b hb => (ST1.out.SF b hb).1) (by have := HLN.out; omega) HRN.out).mono ?_; rw [HFB.out]; rintro e w2 ⟨v2, rfl, rfl, hb2⟩; have ST2 := Lib.hid (ST1.out.below hb2); clear hb2)
    | fail)
  clear x0 x1 x2 x3 x4 x5 x6 x7 x8
  obtain ⟨x0, x1, x2, x3, x4, x5, x6, x7, x8⟩ := ST2.out.Q.cells
  go_upto_region 4 with (first
    | (go_at_call 103; refine (name_any w2 B g F x s.A _ s.c r.name true ST2.out.W ST2.out.D.n ST2.out.SF (by have := HLN.out; omega) ST2.out.D.cn.1 ST2.out.D.cn.2 (by have := HX.out; omega) (by have := HX.out; omega)).mono ?_; rw [nameS_sound HF.out.1, ← HY1.out]; rintro e w3 ⟨rfl, F3, h3, hc3, hF3⟩; have ST3 := Lib.hid (ST2.out.step h3 hc3 hF3); clear h3 hc3 hF3)
    | fail)
  clear x0 x1 x2 x3 x4 x5 x6 x7 x8
  obtain ⟨x0, x1, x2, x3, x4, x5, x6, x7, x8⟩ := ST3.out.Q.cells
  go_upto_region 5 with (first
    | (go_at_call 101; refine (wnum_any w3 B g F3 y1 r.type 2 ST3.out.W (by have := HX.out; omega)).mono ?_; rw [← HY2.out]; rintro e w4 ⟨rfl, F4, h4, hc4, hF4⟩; have ST4 := Lib.hid (ST3.out.step h4 hc4 hF4); clear h4 hc4 hF4)
    | fail)
  clear x0 x1 x2 x3 x4 x5 x6 x7 x8
  obtain ⟨x0, x1, x2, x3, x4, x5, x6, x7, x8⟩ := ST4.out.Q.cells
  go_upto_region 6 with (first
    | (go_at_call 101; refine (wnum_any w4 B g F4 y2 r.cls 2 ST4.out.W (by have := HX.out; omega)).mono ?_; rw [← HY3.out]; rintro e w5 ⟨rfl, F5, h5, hc5, hF5⟩; have ST5 := Lib.hid (ST4.out.step h5 hc5 hF5); clear h5 hc5 hF5)
    | fail)
  clear x0 x1 x2 x3 x4 x5 x6 x7 x8
  obtain ⟨x0, x1, x2, x3, x4, x5, x6, x7, x8⟩ := ST5.out.Q.cells
  go_upto_region 7 with (first
    | (go_at_call 101; refine (wnum_any w5 B g F5 y3 r.ttl 4 ST5.out.W (by have := HX.out; omega)).mono ?_; rw [← HY4.out]; rintro e w6 ⟨rfl, F6, h6, hc6, hF6⟩; have ST6 := Lib.hid (ST5.out.step h6 hc6 hF6); clear h6 hc6 hF6)
    | fail)
  clear x0 x1 x2 x3 x4 x5 x6 x7 x8
  go_upto_region 9 with (first
    | (go_at_call 184; refine (wlen_any w6 B g F6 y4 ST6.out.W).mono ?_; rintro e w7 ⟨rfl, rfl⟩)
    | (go_at_call 101; refine (wnum_any w6 B g F6 y4 0 2 ST6.out.W (by have := HX.out; omega)).mono ?_; rw [← HY5.out]; rintro e w8 ⟨rfl, F8, h8, hc8, hF8⟩; have ST8 := Lib.hid (ST6.out.step h8 hc8 hF8); clear h8 hc8 hF8)
    | fail)
  obtain ⟨x0, x1, x2, x3, x4, x5, x6, x7, x8⟩ := ST8.out.Q.cells
  go_upto_region 10 with (first
    | (go_at_call 183; refine (dput_any r.type w8 B g F8 y5 s.d r.data S HF.out.2.1 ST8.out.W ST8.out.D.d ST8.out.SF (by have := HX.out; omega) (by have := HX.out; omega)).mono ?_; rw [← HY6.out]; rintro e w9 ⟨rfl, F9, h9, hc9, hF9⟩; have ST9 := Lib.hid (ST8.out.step h9 hc9 hF9); clear h9 hc9 hF9)
    | fail)
  clear x0 x1 x2 x3 x4 x5 x6 x7 x8
  have h4l : y4.b.length ≤ 8990330 := HX.out.2.2.2.2.2.1
  have hn65 := HNL.out
  go_wp2_with (first
    | (go_at_call 196; rw [show ((y4.b.length : Int) + (2 + (n : Int)) - (y4.b.length : Int) - 2) = (n : Int) by omega]; refine (wset_any w9 B g F9 y6 y4.b.length (n : Int) 2 ST9.out.W (by have := HX.out; omega) ⟨fits2 hn65, by omega, by have := HN2.out; omega, by have := HN2.out; omega⟩).mono ?_; rw [HEND.out]; rintro e w11 ⟨rfl, F11, h11, hc11, hF11⟩; have ST11 := Lib.hid (ST9.out.step h11 hc11 hF11); clear h11 hc11 hF11)
    | (go_at_call 184; refine (wlen_any w9 B g F9 y6 ST9.out.W).mono ?_; rw [HN2.out]; rintro e w10 ⟨rfl, rfl⟩)
    | fail)
  go_ret
  exact ST11.out.done rfl

end Go.Proofs.Ytimkdpkhdbiniaa

/- msg.Raw: a message's bytes. -/
namespace Go.Proofs.Ytimkdpkhdbiniaa
open Go.RowKit
set_option maxRecDepth 100000

/-- A writer of the call's own; a block beside it. -/
structure WrS (w wr : World) (g : Nat) (F : Nat → Prop) (y : Wr) : Prop where
  W : Wtr wr w.heap.size F g y
  bw : Below w.heap.size w wr
structure WrO (w wr : World) (g : Nat) (F : Nat → Prop) (y : Wr) (p : Nat) (ob : Obj) : Prop extends WrS w wr g F y where
  P : wr.heap[p]? = some ob
  pF : ¬ F p
section
variable {w wr w' : World} {g p : Nat} {F F' : Nat → Prop} {y y' : Wr} {ob : Obj}
theorem WrS.nx (h : WrS w wr g F y) (hb : Below wr.heap.size wr w') : WrS w w' g F y := ⟨h.W.below hb, Go.Proofs.Ytimkdpkhdbiniaa.nx h.bw hb⟩
theorem WrS.step (h : WrS w wr g F y) (hw : Wtr w' w.heap.size F' g y') (hc : Chg F wr w') : WrS w w' g F' y' := ⟨hw, h.W.bw h.bw (Nat.le_refl _) hc⟩
theorem WrO.nx (h : WrO w wr g F y p ob) (hb : Below wr.heap.size wr w') : WrO w w' g F y p ob := ⟨h.toWrS.nx hb, (hb.block p (Array.getElem?_eq_some_iff.1 h.P).1).trans h.P, h.pF⟩
theorem WrO.step (h : WrO w wr g F y p ob) (hw : Wtr w' w.heap.size F' g y') (hc : Chg F wr w') (hF : ∀ z, F' z → F z ∨ wr.heap.size ≤ z) : WrO w w' g F' y' p ob :=
  ⟨h.toWrS.step hw hc, hc.heap h.P h.pF, fun hp => (hF p hp).elim h.pF (fun hl => by have := (Array.getElem?_eq_some_iff.1 h.P).1; omega)⟩
theorem WrS.withO (h : WrS w wr g F y) (hb : Below wr.heap.size wr w') (hp : w'.heap[p]? = some ob) (hl : wr.heap.size ≤ p) : WrO w w' g F y p ob :=
  ⟨h.nx hb, hp, fun hf => by have := (h.W.F_lt p hf).2; omega⟩
end
def headC (m : Ms) : Array Value := #[.int .i64 m.id, .int .i64 (flagsN m), .int .i64 m.qs.length, .int .i64 m.an.length, .int .i64 m.au.length, .int .i64 (m.ex.length + bitN m.edns 1)]
theorem head_at {w : World} {p : Nat} {m : Ms} {T : TypeId} (h : w.heap[p]? = some (.cells (headC m) T (0, 0))) {j : Nat} (hj : j < 6) : ∃ n, (headN m)[j]? = some n ∧ w.cell? ⟨p, j, none⟩ = some (.int .i64 n) := by
  have h0 := fun k => cell_of_row w p k _ _ _ h
  match j, hj with
  | 0, _ => exact ⟨_, rfl, (h0 0).trans rfl⟩
  | 1, _ => exact ⟨_, rfl, (h0 1).trans rfl⟩
  | 2, _ => exact ⟨_, rfl, (h0 2).trans rfl⟩
  | 3, _ => exact ⟨_, rfl, (h0 3).trans rfl⟩
  | 4, _ => exact ⟨_, rfl, (h0 4).trans rfl⟩
  | 5, _ => exact ⟨_, rfl, (h0 5).trans rfl⟩
theorem FineQ.lt {q : Qu} (h : FineQ q) : q.name.length ≤ 1000000000 := by have h1 := sizeN_length q.name; have h2 := h.1.2; omega

set_option maxHeartbeats 16000000 in
theorem mRaw_true (s : MS) (m : Ms) (w : World) {S : Nat → Prop} (h : MIn S w s m) (hS : ∀ b, S b → b < w.heap.size) (hf : FineM m) (hb : bytesM m ≤ 200000) (he : m.edns = true) :
    Calls Try.prog 143 #[msV s m] w (RetP (fun v w' => OwnB w' w.heap.size v (msW m).b) w) := by
  obtain ⟨w1, hw1⟩ : ∃ w1, w1 = w.alloc (.cells (mCells s m) 31) := ⟨_, rfl⟩
  have hb1 : Below w.heap.size w w1 := by rw [hw1]; exact bl.alloc (Nat.le_refl _) _
  have HR1 : Hid (MRow w1 w.heap.size s m) := by show MRow _ _ _ _; rw [hw1]; exact MRow.made w s m
  have HI1 := Lib.hid (h.below hb1 hS)
  have HS1 : Hid (∀ b, S b → b < w1.heap.size) := fun b hb => Nat.lt_of_lt_of_le (hS b hb) hb1.size
  have HB1 := Lib.hid hb1
  have HF := Lib.hid hf
  have HB := Lib.hid hb
  have HE := Lib.hid he
  have htot := hf.tot
  unfold totM at htot
  have HTOT := Lib.hid htot
  have HFL := Lib.hid (mflags_any w.heap.size s m (h0 := hf.op0) (h1 := hf.op) (h2 := hf.rc0) (h3 := hf.rc))
  have HOPT : Hid ((secW m 3).opt m = msW m) := rfl
  have HHC : Hid (headC m = #[.int .i64 m.id, .int .i64 (flagsN m), .int .i64 m.qs.length, .int .i64 m.an.length, .int .i64 m.au.length, .int .i64 ((m.ex.length : Int) + 1)]) := by show _ = _; unfold headC bitN; rw [he]; rfl
  unfold msV
  unfold mCells at hw1 ⊢
  clear h hS hb1 hf hb he
  go_enter Try.func143, Try.ntmps143
  go_upto_region 1 with (fail)
  rw [← hw1]
  clear hw1
  generalize hq : w.heap.size = q at HR1 HFL ⊢
  have HQ := Lib.hid hq
  clear hq
  go_upto_region 2 with (first
    | (go_at_call 100; refine (wnew_any w1).mono ?_; rintro e w2 ⟨g, F2, rfl, hw2, hb2⟩; have HW2 : Hid (WrS w1 w2 g F2 Wr.nil) := (WrS.mk hw2 hb2); clear hw2 hb2)
    | fail)
  have HR2 := Lib.hid (HR1.out.below HW2.out.bw)
  have y0 : w2.cell? ⟨q, 0, none⟩ = some (.int .i64 m.id) ∧ w2.cell? ⟨q, 8, none⟩ = some (.slice s.Q m.qs.length s.qc) ∧ w2.cell? ⟨q, 9, none⟩ = some (.slice s.A m.an.length s.ac) ∧ w2.cell? ⟨q, 10, none⟩ = some (.slice s.U m.au.length s.uc) := by
    obtain ⟨z0, z1, z2, z3, z4, z5, z6, z7, z8, z9, z10, z11, z12, z13⟩ := HR2.out.cells
    exact ⟨z0, z8, z9, z10⟩
  have y1 := And.intro (below_cell bl.drew y0.1) (And.intro (below_cell bl.drew y0.2.1) (And.intro (below_cell bl.drew y0.2.2.1) (below_cell bl.drew y0.2.2.2)))
  have z11 : w2.cell? ⟨q, 11, none⟩ = some (.slice s.X m.ex.length s.xc) := (HR2.out.cell 11).trans rfl
  have z12 : w2.cell? ⟨q, 12, none⟩ = some (.bool true) := (HR2.out.cell 12).trans (by rw [← HE.out]; rfl)
  go_upto_region 5 with (fail)
  clear z11 z12 htot
  go_region_held3 (fun w' => w'.cell? ⟨q, 0, none⟩ = some (.int .i64 m.id) ∧ w'.cell? ⟨q, 8, none⟩ = some (.slice s.Q m.qs.length s.qc) ∧ w'.cell? ⟨q, 9, none⟩ = some (.slice s.A m.an.length s.ac) ∧ w'.cell? ⟨q, 10, none⟩ = some (.slice s.U m.au.length s.uc))
    (first
      | with_reducible exact y0
      | with_reducible exact y1
      | with_reducible exact y2
      | with_reducible exact y3
      | fail)
    (first
      | (go_at_call 180; refine (HFL.out w2.drew (HR2.out.below bl.drew)).mono ?_; rintro e w3 ⟨rfl, n3, hv3⟩; have hb3 : Below w2.drew.heap.size w2.drew w3 := (by rw [hv3]; exact dN bl n3); clear hv3; have y2 := And.intro (below_cell hb3 y1.1) (And.intro (below_cell hb3 y1.2.1) (And.intro (below_cell hb3 y1.2.2.1) (below_cell hb3 y1.2.2.2))); have ha3 : Below w3.heap.size w3 (w3.alloc (.cells #[.int .i64 m.id, .int .i64 (flagsN m), .int .i64 m.qs.length, .int .i64 m.an.length, .int .i64 m.au.length, .int .i64 ((m.ex.length : Int) + 1)] 3)) := (bl.alloc (Nat.le_refl _) _); have y3 := And.intro (below_cell ha3 y2.1) (And.intro (below_cell ha3 y2.2.1) (And.intro (below_cell ha3 y2.2.2.1) (below_cell ha3 y2.2.2.2))))
      | fail)
  clear y0 y1 y2 y3 ha3
  rw [← HHC.out]
  obtain ⟨w4, hw4⟩ : ∃ w4, w4 = w3.alloc (.cells (headC m) 3) := ⟨_, rfl⟩
  have HO4 : Hid (WrO w1 w4 g F2 Wr.nil w3.heap.size (.cells (headC m) 3 (0, 0))) := (HW2.out.nx (bl.drew.trans hb3)).withO (by rw [hw4]; exact bl.alloc (Nat.le_refl _) _) (by rw [hw4]; exact heap_alloc_new w3 _) (Nat.le_refl _)
  rw [← hw4]
  generalize w3.heap.size = p at HO4 ⊢
  clear hw4 hb3 HW2 HR2
  go_wp2_with fail
  go_loopw [36] (fun iv wr => ∃ j : Nat, iv = .int .i64 j ∧ j ≤ 6 ∧ Hid (∃ F, WrO w1 wr g F (Wr.nil.nums2 ((headN m).take j)) p (.cells (headC m) 3 (0, 0)))) (fun iv _ => 6 - (intOf iv).toNat)
  case atStart => exact ⟨0, rfl, by decide, _, HO4.out⟩
  case round =>
    obtain ⟨j, rfl, hj, HST⟩ := hrel
    by_cases hlt : j < 6
    · obtain ⟨F, hst⟩ := HST.out
      obtain ⟨n, hn, x0⟩ := head_at hst.P hlt
      have HO := Lib.hid hst
      have HTK := Lib.hid (nums2_take Wr.nil hn)
      have HBD := Lib.hid (head_bnd m j)
      clear hst hn HST
      generalize Wr.nil.nums2 ((headN m).take j) = y at HO HTK HBD
      go_wp2_with (first
        | (go_at_call 101; refine (wnum_any wr w1.heap.size g F y n 2 HO.out.W (by have := HBD.out.1; omega)).mono ?_; rintro e w5 ⟨rfl, F5, h5, hc5, hF5⟩)
        | fail)
      go_roundw
      case rel => exact ⟨j + 1, by go_num, by omega, F5, by rw [HTK.out]; exact HO.out.step h5 hc5 hF5⟩
      case measure => simp [intOf]; omega
    · obtain rfl : j = 6 := by omega
      rw [show ((6 : Nat) : Int) = 6 from rfl]
      rw [head_all] at HST

      clear hj hlt HO4
      obtain ⟨F0, hst⟩ := HST.out
      have H0 := Lib.hid hst.toWrS
      clear hst HST
      have z8 : wr.cell? ⟨q, 8, none⟩ = some (.slice s.Q m.qs.length s.qc) := ((HR1.out.below H0.out.bw).cell 8).trans rfl
      have hql : m.qs.length ≤ 512 := by have := HTOT.out; omega
      rename World => wa
      go_wp2_with fail
      clear z8
      go_loopw [47] (fun iv wr => ∃ k : Nat, iv = .int .i64 k ∧ k ≤ m.qs.length ∧ Hid (∃ F, WrS w1 wr g F ((Wr.nil.nums2 (headN m)).qus (m.qs.take k)))) (fun iv _ => m.qs.length - (intOf iv).toNat)
      case atStart => exact ⟨0, rfl, Nat.zero_le _, _, H0.out⟩
      case round =>
        obtain ⟨k, rfl, hk, HST⟩ := hrel
        clear H0
        by_cases hlt : k < m.qs.length
        · obtain ⟨x, hx⟩ : ∃ x, m.qs[k]? = some x := ⟨_, List.getElem?_eq_getElem hlt⟩
          obtain ⟨F, hst⟩ := HST.out
          have HFQ := Lib.hid (HF.out.qs x (List.mem_of_getElem? hx))
          have HTK := Lib.hid (qus_take (Wr.nil.nums2 (headN m)) hx)
          have HBD := Lib.hid (quW_bnd HF.out k)
          obtain ⟨b, off, t, hA, _, hd, hc⟩ := qu_at HI1.out.q hx
          have hAA := Lib.hid hA
          rw [hA]
          obtain ⟨d0, d1, d2⟩ := hc.below hst.bw
          obtain ⟨w3, hw3⟩ : ∃ w3, w3 = wr.alloc (.cells (qCells t x) 25) := ⟨_, rfl⟩
          have hb3 : Below wr.heap.size wr w3 := by rw [hw3]; exact bl.alloc (Nat.le_refl _) _
          have HO := Lib.hid (hst.withO hb3 (by rw [hw3]; exact QRow.made wr t x) (Nat.le_refl _))
          have HD : Hid (∀ w', Below w1.heap.size w1 w' → QIn S w' t x) := fun w' hw => hd.below hw HS1.out
          unfold qCells at hw3
          clear hx hA hd hc hst HST hb3
          generalize (Wr.nil.nums2 (headN m)).qus (m.qs.take k) = y at HO HTK HBD
          go_upto_region 13 with (fail)
          rw [← hw3]
          clear hw3 d0 d1 d2
          generalize wr.heap.size = p3 at HO ⊢
          obtain ⟨x0, _, _⟩ := QRow.cells HO.out.P
          go_upto_region 14 with (first
            | (go_at_call 103; refine (name_any w3 w1.heap.size g F y t.A _ t.c x.name true HO.out.W (HD.out w3 HO.out.bw).n (fun b hb => ⟨Nat.lt_of_lt_of_le (HS1.out b hb) HO.out.bw.size, fun hf => by have h1 := HS1.out b hb; have h2 := (HO.out.W.F_lt b hf).1; omega⟩) (FineQ.lt HFQ.out) (HD.out w3 HO.out.bw).cn.1 (HD.out w3 HO.out.bw).cn.2 (by have := HBD.out.1; omega) (by have := HBD.out.2; omega)).mono ?_; rw [nameS_sound HFQ.out.1]; rintro e w4 ⟨rfl, F4, h4, hc4, hF4⟩; have HO4 := Lib.hid (HO.out.step h4 hc4 hF4); clear h4 hc4 hF4)
            | fail)
          clear x0
          obtain ⟨_, x1, _⟩ := QRow.cells HO4.out.P
          have HB4 : Hid ((y.name x.name true).b.length ≤ 150000) := by show _ ≤ _; have h1 := Wr.name_le (x := y) x.name true; have h2 := HFQ.out.1.2; have h3 := HBD.out.1; omega
          generalize hy4 : y.name x.name true = y4 at HO4 HB4
          have HY4 := Lib.hid hy4
          clear hy4
          go_upto_region 15 with (first
            | (go_at_call 101; refine (wnum_any w4 w1.heap.size g F4 y4 x.type 2 HO4.out.W (by have := HB4.out; omega)).mono ?_; rintro e w5 ⟨rfl, F5, h5, hc5, hF5⟩; have HO5 := Lib.hid (HO4.out.step h5 hc5 hF5); clear h5 hc5 hF5)
            | fail)
          clear x1
          obtain ⟨_, _, x2⟩ := QRow.cells HO5.out.P
          have HB5 : Hid ((y4.raw (putB [] x.type 2)).b.length ≤ 150010) := by show _ ≤ _; have h1 := raw_len y4 (putB [] x.type 2); have h2 := putB_len x.type 2; have h3 := HB4.out; omega
          go_wp2_with (first
            | (go_at_call 101; refine (wnum_any w5 w1.heap.size g F5 (y4.raw (putB [] x.type 2)) x.cls 2 HO5.out.W (by have := HB5.out; omega)).mono ?_; rintro e w6 ⟨rfl, F6, h6, hc6, hF6⟩; have HO6 := Lib.hid (HO5.out.step h6 hc6 hF6); clear h6 hc6 hF6)
            | fail)
          go_roundw
          case rel => exact ⟨k + 1, by go_num, by omega, F6, by rw [HTK.out]; have h := HO6.out.toWrS; rw [← HY4.out] at h; exact h⟩
          case measure => simp [intOf]; omega
        · obtain rfl : k = m.qs.length := by omega
          rw [List.take_length] at HST
          have HS0 : Hid (∃ F, WrS w1 wr g F (secW m 0)) := HST.out
          clear HST hk hlt hql
          obtain ⟨F1, h1⟩ := HS0.out
          have H1 := Lib.hid h1
          clear h1 HS0
          rename World => wb
          go_wp2_with (first
            | (go_at_call 146; refine (sections_any q wb).mono ?_; rintro e w7 ⟨gs, rfl, hg7, hl7, hb7⟩; have HO7 : Hid (WrO w1 w7 g F1 (secW m 0) gs (.cells (secP q) 172 (0, 0))) := H1.out.withO hb7 hg7 hl7; clear hg7 hl7 hb7)
            | fail)
          go_loopw [66] (fun iv wr => ∃ j : Nat, iv = .int .i64 j ∧ j ≤ 3 ∧ Hid (∃ F, WrO w1 wr g F (secW m j) gs (.cells (secP q) 172 (0, 0)))) (fun iv _ => 3 - (intOf iv).toNat)
          case atStart => exact ⟨0, rfl, by decide, _, HO7.out⟩
          case round =>
            obtain ⟨j, rfl, hj, HST⟩ := hrel
            clear HO7 H1
            by_cases hlt : j < 3
            · obtain ⟨F, hst⟩ := HST.out
              have y0 := secP_cell hst.P hlt
              have y1 := (HR1.out.below hst.bw).sec hlt
              have HO := Lib.hid hst
              have HSB : Hid (∀ k, ((secW m j).rrs ((secL m j).take k)).b.length ≤ 8900000 ∧ ((secW m j).rrs ((secL m j).take k)).rests.length ≤ 600000) := sec_bnd HF.out HB.out hlt
              have HSC := Lib.hid (HI1.out.sec j)
              have HSF := Lib.hid (HF.out.sec j)
              have HTE : Hid (secW m (j + 1) = (secW m j).rrs (secL m j)) := rfl
              have hsl : (secL m j).length ≤ 512 := by have h := HTOT.out; match j, hlt with | 0, _ => show m.an.length ≤ 512; omega | 1, _ => show m.au.length ≤ 512; omega | 2, _ => show m.ex.length ≤ 512; omega
              clear hst HST
              generalize secW m j = y at HO HSB HTE
              generalize secL m j = l at y1 HSB HSC HSF HTE hsl
              rename World => wc
              have hj3 : decide ((j : Int) < 3) = true := decide_eq_true (by omega)
              go_wp2_with fail
              clear y0 y1
              go_loopw [74] (fun iv wr => ∃ k : Nat, iv = .int .i64 k ∧ k ≤ l.length ∧ Hid (∃ F, WrO w1 wr g F (y.rrs (l.take k)) gs (.cells (secP q) 172 (0, 0)))) (fun iv _ => l.length - (intOf iv).toNat)
              case atStart => exact ⟨0, rfl, Nat.zero_le _, _, HO.out⟩
              case round =>
                obtain ⟨k, rfl, hk, HST⟩ := hrel
                clear HO
                by_cases hlk : k < l.length
                · obtain ⟨r, hr⟩ : ∃ r, l[k]? = some r := ⟨_, List.getElem?_eq_getElem hlk⟩
                  obtain ⟨F, hst⟩ := HST.out
                  have HFR := Lib.hid (HSF.out r (List.mem_of_getElem? hr)).2
                  have HTK := Lib.hid (rrs_take y hr)
                  have HBD := Lib.hid (HSB.out k)
                  obtain ⟨b, off, t, hA, _, hd, hc⟩ := rr_at HSC.out hr
                  have hAA := Lib.hid hA
                  rw [hA]
                  obtain ⟨d0, d1, d2, d3, d4, d5, d6, d7, d8⟩ := hc.below hst.bw
                  obtain ⟨w3, hw3⟩ : ∃ w3, w3 = wr.alloc (.cells (rrCells t r) 84) := ⟨_, rfl⟩
                  have hb3 : Below wr.heap.size wr w3 := by rw [hw3]; exact bl.alloc (Nat.le_refl _) _
                  have HO := Lib.hid (hst.nx hb3)
                  have HRW : Hid (RRow w3 wr.heap.size t r) := by show RRow _ _ _ _; rw [hw3]; exact RRow.made wr t r
                  have HD : Hid (∀ w', Below w1.heap.size w1 w' → RIn S w' t r) := fun w' hw => hd.below hw HS1.out
                  unfold rrCells at hw3
                  clear hr hA hd hc hst HST hb3
                  generalize y.rrs (l.take k) = z at HO HTK HBD
                  go_upto_region 23 with (fail)
                  rw [← hw3]
                  clear hw3 d0 d1 d2 d3 d4 d5 d6 d7 d8
                  obtain ⟨x0, x1, x2, x3, x4, x5, x6, x7, x8⟩ := HRW.out.cells
                  generalize wr.heap.size = p3 at HRW x0 x1 x2 x3 x4 x5 x6 x7 x8 ⊢
                  go_wp2_with (first
                    | (go_at_call 181; refine (rrPut_any w3 w1.heap.size g F z t r S HFR.out HO.out.W (HD.out w3 HO.out.bw) (fun b hb => ⟨Nat.lt_of_lt_of_le (HS1.out b hb) HO.out.bw.size, fun hf => by have h1 := HS1.out b hb; have h2 := (HO.out.W.F_lt b hf).1; omega⟩) (by have := HBD.out.1; omega) (by have := HBD.out.2; omega)).mono ?_; rintro e w4 ⟨rfl, F4, h4, hc4, hF4⟩; have HO4 := Lib.hid (HO.out.step h4 hc4 hF4); clear h4 hc4 hF4)
                    | fail)
                  go_roundw
                  case rel => exact ⟨k + 1, by go_num, by omega, F4, by rw [HTK.out]; exact HO4.out⟩
                  case measure => simp [intOf]; omega
                · obtain rfl : k = l.length := by omega
                  rw [List.take_length] at HST
                  go_wp2
                  go_roundw
                  case rel => obtain ⟨F, h⟩ := HST.out; exact ⟨j + 1, by go_num, by omega, F, by rw [HTE.out]; exact h⟩
                  case measure => simp [intOf]; omega
            · obtain rfl : j = 3 := by omega
              obtain ⟨F, hst⟩ := HST.out
              have HO := Lib.hid hst.toWrS
              have HB3 := Lib.hid (sec_bnd3 HF.out HB.out)
              have HRW := Lib.hid (HR1.out.below hst.bw)
              clear hst HST hlt hj
              generalize secW m 3 = y at HO HB3 HOPT
              have z12 : wr.cell? ⟨q, 12, none⟩ = some (.bool true) := (HRW.out.cell 12).trans (by rw [← HE.out]; rfl)
              have z13 : wr.cell? ⟨q, 13, none⟩ = some (.int .i64 m.size) := (HRW.out.cell 13).trans rfl
              have hlit : RdB (wr.alloc (.cells #[.int .u8 0] 5)) (some ⟨wr.heap.size, 0, none⟩) 1 [0] := lit_rd wr [0] (Nat.le_of_ble_eq_true rfl)
              obtain ⟨w5, hw5⟩ : ∃ w5, w5 = wr.alloc (.cells #[.int .u8 0] 5) := ⟨_, rfl⟩
              have HO5 : Hid (WrS w1 w5 g F y) := HO.out.nx (by rw [hw5]; exact bl.alloc (Nat.le_refl _) _)
              rw [← hw5] at hlit
              have HLIT := Lib.hid hlit
              have HOPT2 : Hid ((((y.raw [0]).raw (putB [] 41 2)).raw (putB [] m.size 2)).raw (putB [] 0 6) = msW m) := by show _ = _; rw [← HOPT.out]; unfold Wr.opt; rw [if_pos HE.out]; rfl
              clear hlit HO HOPT
              obtain ⟨y1, hy1⟩ : ∃ y1, y1 = y.raw [0] := ⟨_, rfl⟩
              obtain ⟨y2, hy2⟩ : ∃ y2, y2 = y1.raw (putB [] 41 2) := ⟨_, rfl⟩
              obtain ⟨y3, hy3⟩ : ∃ y3, y3 = y2.raw (putB [] m.size 2) := ⟨_, rfl⟩
              rw [← hy1, ← hy2, ← hy3] at HOPT2
              have hl1 : y1.b.length ≤ 8900001 := by have h1 := HB3.out; rw [hy1, raw_len]; simp; omega
              have hl2 : y2.b.length ≤ 8900010 := by rw [hy2, raw_len]; have := putB_len 41 2; omega
              have hl3 : y3.b.length ≤ 8900020 := by rw [hy3, raw_len]; have := putB_len m.size 2; omega
              have hl4 : (y3.raw (putB [] 0 6)).b.length ≤ 8900030 := by rw [raw_len]; have := putB_len 0 6; omega
              rw [HOPT2.out] at hl4
              have HL := Lib.hid (And.intro hl1 (And.intro hl2 (And.intro hl3 hl4)))
              have HY1 := Lib.hid hy1
              have HY2 := Lib.hid hy2
              have HY3 := Lib.hid hy3
              clear hl1 hl2 hl3 hl4 hy1 hy2 hy3
              have HRWa : Hid (∀ w', Below w1.heap.size w1 w' → w'.cell? ⟨q, 13, none⟩ = some (.int .i64 m.size)) := fun w' hw => ((HR1.out.below hw).cell 13).trans rfl
              clear z13
              go_upto_region 28 with (first
                | (go_at_call 148; rw [← hw5]; refine (wraw_any w5 w1.heap.size g F y _ 1 1 [0] HO5.out.W HLIT.out (by have := HB3.out; omega)).mono ?_; rw [← HY1.out]; rintro e w6 ⟨rfl, F6, h6, hc6, hF6⟩; have HO6 := Lib.hid (HO5.out.step h6 hc6); clear h6 hc6 hF6)
                | fail)
              clear hw5
              go_upto_region 29 with (first
                | (go_at_call 101; refine (wnum_any w6 w1.heap.size g F6 y1 41 2 HO6.out.W (by have := HL.out.1; omega)).mono ?_; rw [← HY2.out]; rintro e w7 ⟨rfl, F7, h7, hc7, hF7⟩; have HO7 := Lib.hid (HO6.out.step h7 hc7); clear h7 hc7 hF7)
                | fail)
              have z13 := HRWa.out w7 HO7.out.bw
              go_upto_region 30 with (first
                | (go_at_call 101; refine (wnum_any w7 w1.heap.size g F7 y2 m.size 2 HO7.out.W (by have := HL.out.2.1; omega)).mono ?_; rw [← HY3.out]; rintro e w8 ⟨rfl, F8, h8, hc8, hF8⟩; have HO8 := Lib.hid (HO7.out.step h8 hc8); clear h8 hc8 hF8)
                | fail)
              clear z13
              go_upto_region 31 with (first
                | (go_at_call 101; refine (wnum_any w8 w1.heap.size g F8 y3 0 6 HO8.out.W (by have := HL.out.2.2.1; omega)).mono ?_; rw [HOPT2.out]; rintro e w9 ⟨rfl, F9, h9, hc9, hF9⟩; have HO9 := Lib.hid (HO8.out.step h9 hc9); clear h9 hc9 hF9)
                | fail)
              go_wp2_with (first
                | (go_at_call 104; refine (wbytes_any w9 w1.heap.size g F9 (msW m) HO9.out.W (by have := HL.out.2.2.2; omega)).mono ?_; rintro e w10 ⟨v10, rfl, ho10, hb10⟩)
                | fail)
              go_ret
              have hbw := nx HB1.out HO9.out.bw
              exact ⟨_, rfl, ho10.mono hbw.size, nx hbw hb10⟩
set_option maxHeartbeats 16000000 in
theorem mRaw_false (s : MS) (m : Ms) (w : World) {S : Nat → Prop} (h : MIn S w s m) (hS : ∀ b, S b → b < w.heap.size) (hf : FineM m) (hb : bytesM m ≤ 200000) (he : m.edns = false) :
    Calls Try.prog 143 #[msV s m] w (RetP (fun v w' => OwnB w' w.heap.size v (msW m).b) w) := by
  obtain ⟨w1, hw1⟩ : ∃ w1, w1 = w.alloc (.cells (mCells s m) 31) := ⟨_, rfl⟩
  have hb1 : Below w.heap.size w w1 := by rw [hw1]; exact bl.alloc (Nat.le_refl _) _
  have HR1 : Hid (MRow w1 w.heap.size s m) := by show MRow _ _ _ _; rw [hw1]; exact MRow.made w s m
  have HI1 := Lib.hid (h.below hb1 hS)
  have HS1 : Hid (∀ b, S b → b < w1.heap.size) := fun b hb => Nat.lt_of_lt_of_le (hS b hb) hb1.size
  have HB1 := Lib.hid hb1
  have HF := Lib.hid hf
  have HB := Lib.hid hb
  have HE := Lib.hid he
  have htot := hf.tot
  unfold totM at htot
  have HTOT := Lib.hid htot
  have HFL := Lib.hid (mflags_any w.heap.size s m (h0 := hf.op0) (h1 := hf.op) (h2 := hf.rc0) (h3 := hf.rc))
  have HOPT : Hid ((secW m 3).opt m = msW m) := rfl
  have HHC : Hid (headC m = #[.int .i64 m.id, .int .i64 (flagsN m), .int .i64 m.qs.length, .int .i64 m.an.length, .int .i64 m.au.length, .int .i64 ((m.ex.length : Int))]) := by show _ = _; unfold headC bitN; rw [he]; rfl
  unfold msV
  unfold mCells at hw1 ⊢
  clear h hS hb1 hf hb he
  go_enter Try.func143, Try.ntmps143
  go_upto_region 1 with (fail)
  rw [← hw1]
  clear hw1
  generalize hq : w.heap.size = q at HR1 HFL ⊢
  have HQ := Lib.hid hq
  clear hq
  go_upto_region 2 with (first
    | (go_at_call 100; refine (wnew_any w1).mono ?_; rintro e w2 ⟨g, F2, rfl, hw2, hb2⟩; have HW2 : Hid (WrS w1 w2 g F2 Wr.nil) := (WrS.mk hw2 hb2); clear hw2 hb2)
    | fail)
  have HR2 := Lib.hid (HR1.out.below HW2.out.bw)
  have y0 : w2.cell? ⟨q, 0, none⟩ = some (.int .i64 m.id) ∧ w2.cell? ⟨q, 8, none⟩ = some (.slice s.Q m.qs.length s.qc) ∧ w2.cell? ⟨q, 9, none⟩ = some (.slice s.A m.an.length s.ac) ∧ w2.cell? ⟨q, 10, none⟩ = some (.slice s.U m.au.length s.uc) := by
    obtain ⟨z0, z1, z2, z3, z4, z5, z6, z7, z8, z9, z10, z11, z12, z13⟩ := HR2.out.cells
    exact ⟨z0, z8, z9, z10⟩
  have y1 := And.intro (below_cell bl.drew y0.1) (And.intro (below_cell bl.drew y0.2.1) (And.intro (below_cell bl.drew y0.2.2.1) (below_cell bl.drew y0.2.2.2)))
  have z11 : w2.cell? ⟨q, 11, none⟩ = some (.slice s.X m.ex.length s.xc) := (HR2.out.cell 11).trans rfl
  have z12 : w2.cell? ⟨q, 12, none⟩ = some (.bool false) := (HR2.out.cell 12).trans (by rw [← HE.out]; rfl)
  go_upto_region 5 with (fail)
  clear z11 z12 htot
  go_region_held3 (fun w' => w'.cell? ⟨q, 0, none⟩ = some (.int .i64 m.id) ∧ w'.cell? ⟨q, 8, none⟩ = some (.slice s.Q m.qs.length s.qc) ∧ w'.cell? ⟨q, 9, none⟩ = some (.slice s.A m.an.length s.ac) ∧ w'.cell? ⟨q, 10, none⟩ = some (.slice s.U m.au.length s.uc))
    (first
      | with_reducible exact y0
      | with_reducible exact y1
      | with_reducible exact y2
      | with_reducible exact y3
      | fail)
    (first
      | (go_at_call 180; refine (HFL.out w2.drew (HR2.out.below bl.drew)).mono ?_; rintro e w3 ⟨rfl, n3, hv3⟩; have hb3 : Below w2.drew.heap.size w2.drew w3 := (by rw [hv3]; exact dN bl n3); clear hv3; have y2 := And.intro (below_cell hb3 y1.1) (And.intro (below_cell hb3 y1.2.1) (And.intro (below_cell hb3 y1.2.2.1) (below_cell hb3 y1.2.2.2))); have ha3 : Below w3.heap.size w3 (w3.alloc (.cells #[.int .i64 m.id, .int .i64 (flagsN m), .int .i64 m.qs.length, .int .i64 m.an.length, .int .i64 m.au.length, .int .i64 ((m.ex.length : Int))] 3)) := (bl.alloc (Nat.le_refl _) _); have y3 := And.intro (below_cell ha3 y2.1) (And.intro (below_cell ha3 y2.2.1) (And.intro (below_cell ha3 y2.2.2.1) (below_cell ha3 y2.2.2.2))))
      | fail)
  clear y0 y1 y2 y3 ha3
  rw [← HHC.out]
  obtain ⟨w4, hw4⟩ : ∃ w4, w4 = w3.alloc (.cells (headC m) 3) := ⟨_, rfl⟩
  have HO4 : Hid (WrO w1 w4 g F2 Wr.nil w3.heap.size (.cells (headC m) 3 (0, 0))) := (HW2.out.nx (bl.drew.trans hb3)).withO (by rw [hw4]; exact bl.alloc (Nat.le_refl _) _) (by rw [hw4]; exact heap_alloc_new w3 _) (Nat.le_refl _)
  rw [← hw4]
  generalize w3.heap.size = p at HO4 ⊢
  clear hw4 hb3 HW2 HR2
  go_wp2_with fail
  go_loopw [36] (fun iv wr => ∃ j : Nat, iv = .int .i64 j ∧ j ≤ 6 ∧ Hid (∃ F, WrO w1 wr g F (Wr.nil.nums2 ((headN m).take j)) p (.cells (headC m) 3 (0, 0)))) (fun iv _ => 6 - (intOf iv).toNat)
  case atStart => exact ⟨0, rfl, by decide, _, HO4.out⟩
  case round =>
    obtain ⟨j, rfl, hj, HST⟩ := hrel
    by_cases hlt : j < 6
    · obtain ⟨F, hst⟩ := HST.out
      obtain ⟨n, hn, x0⟩ := head_at hst.P hlt
      have HO := Lib.hid hst
      have HTK := Lib.hid (nums2_take Wr.nil hn)
      have HBD := Lib.hid (head_bnd m j)
      clear hst hn HST
      generalize Wr.nil.nums2 ((headN m).take j) = y at HO HTK HBD
      go_wp2_with (first
        | (go_at_call 101; refine (wnum_any wr w1.heap.size g F y n 2 HO.out.W (by have := HBD.out.1; omega)).mono ?_; rintro e w5 ⟨rfl, F5, h5, hc5, hF5⟩)
        | fail)
      go_roundw
      case rel => exact ⟨j + 1, by go_num, by omega, F5, by rw [HTK.out]; exact HO.out.step h5 hc5 hF5⟩
      case measure => simp [intOf]; omega
    · obtain rfl : j = 6 := by omega
      rw [show ((6 : Nat) : Int) = 6 from rfl]
      rw [head_all] at HST

      clear hj hlt HO4
      obtain ⟨F0, hst⟩ := HST.out
      have H0 := Lib.hid hst.toWrS
      clear hst HST
      have z8 : wr.cell? ⟨q, 8, none⟩ = some (.slice s.Q m.qs.length s.qc) := ((HR1.out.below H0.out.bw).cell 8).trans rfl
      have hql : m.qs.length ≤ 512 := by have := HTOT.out; omega
      rename World => wa
      go_wp2_with fail
      clear z8
      go_loopw [47] (fun iv wr => ∃ k : Nat, iv = .int .i64 k ∧ k ≤ m.qs.length ∧ Hid (∃ F, WrS w1 wr g F ((Wr.nil.nums2 (headN m)).qus (m.qs.take k)))) (fun iv _ => m.qs.length - (intOf iv).toNat)
      case atStart => exact ⟨0, rfl, Nat.zero_le _, _, H0.out⟩
      case round =>
        obtain ⟨k, rfl, hk, HST⟩ := hrel
        clear H0
        by_cases hlt : k < m.qs.length
        · obtain ⟨x, hx⟩ : ∃ x, m.qs[k]? = some x := ⟨_, List.getElem?_eq_getElem hlt⟩
          obtain ⟨F, hst⟩ := HST.out
          have HFQ := Lib.hid (HF.out.qs x (List.mem_of_getElem? hx))
          have HTK := Lib.hid (qus_take (Wr.nil.nums2 (headN m)) hx)
          have HBD := Lib.hid (quW_bnd HF.out k)
          obtain ⟨b, off, t, hA, _, hd, hc⟩ := qu_at HI1.out.q hx
          have hAA := Lib.hid hA
          rw [hA]
          obtain ⟨d0, d1, d2⟩ := hc.below hst.bw
          obtain ⟨w3, hw3⟩ : ∃ w3, w3 = wr.alloc (.cells (qCells t x) 25) := ⟨_, rfl⟩
          have hb3 : Below wr.heap.size wr w3 := by rw [hw3]; exact bl.alloc (Nat.le_refl _) _
          have HO := Lib.hid (hst.withO hb3 (by rw [hw3]; exact QRow.made wr t x) (Nat.le_refl _))
          have HD : Hid (∀ w', Below w1.heap.size w1 w' → QIn S w' t x) := fun w' hw => hd.below hw HS1.out
          unfold qCells at hw3
          clear hx hA hd hc hst HST hb3
          generalize (Wr.nil.nums2 (headN m)).qus (m.qs.take k) = y at HO HTK HBD
          go_upto_region 13 with (fail)
          rw [← hw3]
          clear hw3 d0 d1 d2
          generalize wr.heap.size = p3 at HO ⊢
          obtain ⟨x0, _, _⟩ := QRow.cells HO.out.P
          go_upto_region 14 with (first
            | (go_at_call 103; refine (name_any w3 w1.heap.size g F y t.A _ t.c x.name true HO.out.W (HD.out w3 HO.out.bw).n (fun b hb => ⟨Nat.lt_of_lt_of_le (HS1.out b hb) HO.out.bw.size, fun hf => by have h1 := HS1.out b hb; have h2 := (HO.out.W.F_lt b hf).1; omega⟩) (FineQ.lt HFQ.out) (HD.out w3 HO.out.bw).cn.1 (HD.out w3 HO.out.bw).cn.2 (by have := HBD.out.1; omega) (by have := HBD.out.2; omega)).mono ?_; rw [nameS_sound HFQ.out.1]; rintro e w4 ⟨rfl, F4, h4, hc4, hF4⟩; have HO4 := Lib.hid (HO.out.step h4 hc4 hF4); clear h4 hc4 hF4)
            | fail)
          clear x0
          obtain ⟨_, x1, _⟩ := QRow.cells HO4.out.P
          have HB4 : Hid ((y.name x.name true).b.length ≤ 150000) := by show _ ≤ _; have h1 := Wr.name_le (x := y) x.name true; have h2 := HFQ.out.1.2; have h3 := HBD.out.1; omega
          generalize hy4 : y.name x.name true = y4 at HO4 HB4
          have HY4 := Lib.hid hy4
          clear hy4
          go_upto_region 15 with (first
            | (go_at_call 101; refine (wnum_any w4 w1.heap.size g F4 y4 x.type 2 HO4.out.W (by have := HB4.out; omega)).mono ?_; rintro e w5 ⟨rfl, F5, h5, hc5, hF5⟩; have HO5 := Lib.hid (HO4.out.step h5 hc5 hF5); clear h5 hc5 hF5)
            | fail)
          clear x1
          obtain ⟨_, _, x2⟩ := QRow.cells HO5.out.P
          have HB5 : Hid ((y4.raw (putB [] x.type 2)).b.length ≤ 150010) := by show _ ≤ _; have h1 := raw_len y4 (putB [] x.type 2); have h2 := putB_len x.type 2; have h3 := HB4.out; omega
          go_wp2_with (first
            | (go_at_call 101; refine (wnum_any w5 w1.heap.size g F5 (y4.raw (putB [] x.type 2)) x.cls 2 HO5.out.W (by have := HB5.out; omega)).mono ?_; rintro e w6 ⟨rfl, F6, h6, hc6, hF6⟩; have HO6 := Lib.hid (HO5.out.step h6 hc6 hF6); clear h6 hc6 hF6)
            | fail)
          go_roundw
          case rel => exact ⟨k + 1, by go_num, by omega, F6, by rw [HTK.out]; have h := HO6.out.toWrS; rw [← HY4.out] at h; exact h⟩
          case measure => simp [intOf]; omega
        · obtain rfl : k = m.qs.length := by omega
          rw [List.take_length] at HST
          have HS0 : Hid (∃ F, WrS w1 wr g F (secW m 0)) := HST.out
          clear HST hk hlt hql
          obtain ⟨F1, h1⟩ := HS0.out
          have H1 := Lib.hid h1
          clear h1 HS0
          rename World => wb
          go_wp2_with (first
            | (go_at_call 146; refine (sections_any q wb).mono ?_; rintro e w7 ⟨gs, rfl, hg7, hl7, hb7⟩; have HO7 : Hid (WrO w1 w7 g F1 (secW m 0) gs (.cells (secP q) 172 (0, 0))) := H1.out.withO hb7 hg7 hl7; clear hg7 hl7 hb7)
            | fail)
          go_loopw [66] (fun iv wr => ∃ j : Nat, iv = .int .i64 j ∧ j ≤ 3 ∧ Hid (∃ F, WrO w1 wr g F (secW m j) gs (.cells (secP q) 172 (0, 0)))) (fun iv _ => 3 - (intOf iv).toNat)
          case atStart => exact ⟨0, rfl, by decide, _, HO7.out⟩
          case round =>
            obtain ⟨j, rfl, hj, HST⟩ := hrel
            clear HO7 H1
            by_cases hlt : j < 3
            · obtain ⟨F, hst⟩ := HST.out
              have y0 := secP_cell hst.P hlt
              have y1 := (HR1.out.below hst.bw).sec hlt
              have HO := Lib.hid hst
              have HSB : Hid (∀ k, ((secW m j).rrs ((secL m j).take k)).b.length ≤ 8900000 ∧ ((secW m j).rrs ((secL m j).take k)).rests.length ≤ 600000) := sec_bnd HF.out HB.out hlt
              have HSC := Lib.hid (HI1.out.sec j)
              have HSF := Lib.hid (HF.out.sec j)
              have HTE : Hid (secW m (j + 1) = (secW m j).rrs (secL m j)) := rfl
              have hsl : (secL m j).length ≤ 512 := by have h := HTOT.out; match j, hlt with | 0, _ => show m.an.length ≤ 512; omega | 1, _ => show m.au.length ≤ 512; omega | 2, _ => show m.ex.length ≤ 512; omega
              clear hst HST
              generalize secW m j = y at HO HSB HTE
              generalize secL m j = l at y1 HSB HSC HSF HTE hsl
              rename World => wc
              have hj3 : decide ((j : Int) < 3) = true := decide_eq_true (by omega)
              go_wp2_with fail
              clear y0 y1
              go_loopw [74] (fun iv wr => ∃ k : Nat, iv = .int .i64 k ∧ k ≤ l.length ∧ Hid (∃ F, WrO w1 wr g F (y.rrs (l.take k)) gs (.cells (secP q) 172 (0, 0)))) (fun iv _ => l.length - (intOf iv).toNat)
              case atStart => exact ⟨0, rfl, Nat.zero_le _, _, HO.out⟩
              case round =>
                obtain ⟨k, rfl, hk, HST⟩ := hrel
                clear HO
                by_cases hlk : k < l.length
                · obtain ⟨r, hr⟩ : ∃ r, l[k]? = some r := ⟨_, List.getElem?_eq_getElem hlk⟩
                  obtain ⟨F, hst⟩ := HST.out
                  have HFR := Lib.hid (HSF.out r (List.mem_of_getElem? hr)).2
                  have HTK := Lib.hid (rrs_take y hr)
                  have HBD := Lib.hid (HSB.out k)
                  obtain ⟨b, off, t, hA, _, hd, hc⟩ := rr_at HSC.out hr
                  have hAA := Lib.hid hA
                  rw [hA]
                  obtain ⟨d0, d1, d2, d3, d4, d5, d6, d7, d8⟩ := hc.below hst.bw
                  obtain ⟨w3, hw3⟩ : ∃ w3, w3 = wr.alloc (.cells (rrCells t r) 84) := ⟨_, rfl⟩
                  have hb3 : Below wr.heap.size wr w3 := by rw [hw3]; exact bl.alloc (Nat.le_refl _) _
                  have HO := Lib.hid (hst.nx hb3)
                  have HRW : Hid (RRow w3 wr.heap.size t r) := by show RRow _ _ _ _; rw [hw3]; exact RRow.made wr t r
                  have HD : Hid (∀ w', Below w1.heap.size w1 w' → RIn S w' t r) := fun w' hw => hd.below hw HS1.out
                  unfold rrCells at hw3
                  clear hr hA hd hc hst HST hb3
                  generalize y.rrs (l.take k) = z at HO HTK HBD
                  go_upto_region 23 with (fail)
                  rw [← hw3]
                  clear hw3 d0 d1 d2 d3 d4 d5 d6 d7 d8
                  obtain ⟨x0, x1, x2, x3, x4, x5, x6, x7, x8⟩ := HRW.out.cells
                  generalize wr.heap.size = p3 at HRW x0 x1 x2 x3 x4 x5 x6 x7 x8 ⊢
                  go_wp2_with (first
                    | (go_at_call 181; refine (rrPut_any w3 w1.heap.size g F z t r S HFR.out HO.out.W (HD.out w3 HO.out.bw) (fun b hb => ⟨Nat.lt_of_lt_of_le (HS1.out b hb) HO.out.bw.size, fun hf => by have h1 := HS1.out b hb; have h2 := (HO.out.W.F_lt b hf).1; omega⟩) (by have := HBD.out.1; omega) (by have := HBD.out.2; omega)).mono ?_; rintro e w4 ⟨rfl, F4, h4, hc4, hF4⟩; have HO4 := Lib.hid (HO.out.step h4 hc4 hF4); clear h4 hc4 hF4)
                    | fail)
                  go_roundw
                  case rel => exact ⟨k + 1, by go_num, by omega, F4, by rw [HTK.out]; exact HO4.out⟩
                  case measure => simp [intOf]; omega
                · obtain rfl : k = l.length := by omega
                  rw [List.take_length] at HST
                  go_wp2
                  go_roundw
                  case rel => obtain ⟨F, h⟩ := HST.out; exact ⟨j + 1, by go_num, by omega, F, by rw [HTE.out]; exact h⟩
                  case measure => simp [intOf]; omega
            · obtain rfl : j = 3 := by omega
              obtain ⟨F, hst⟩ := HST.out
              have HO := Lib.hid hst.toWrS
              have HB3 := Lib.hid (sec_bnd3 HF.out HB.out)
              have HRW := Lib.hid (HR1.out.below hst.bw)
              clear hst HST hlt hj
              generalize secW m 3 = y at HO HB3 HOPT
              have z12 : wr.cell? ⟨q, 12, none⟩ = some (.bool false) := (HRW.out.cell 12).trans (by rw [← HE.out]; rfl)
              have HOPT2 : Hid (y = msW m) := by show _ = _; rw [← HOPT.out]; unfold Wr.opt; rw [if_neg (by rw [HE.out]; decide)]
              go_wp2_with (first
                | (go_at_call 104; refine (wbytes_any wr w1.heap.size g F y HO.out.W (by have := HB3.out; omega)).mono ?_; rw [HOPT2.out]; rintro e w10 ⟨v10, rfl, ho10, hb10⟩)
                | fail)
              go_ret
              have hbw := nx HB1.out HO.out.bw
              exact ⟨_, rfl, ho10.mono hbw.size, nx hbw hb10⟩
theorem mRaw_any (s : MS) (m : Ms) (w : World) {S : Nat → Prop} (h : MIn S w s m) (hS : ∀ b, S b → b < w.heap.size) (hf : FineM m) (hb : bytesM m ≤ 200000) :
    Calls Try.prog 143 #[msV s m] w (RetP (fun v w' => OwnB w' w.heap.size v (msW m).b) w) := by
  cases he : m.edns with
  | true => exact mRaw_true s m w h hS hf hb he
  | false => exact mRaw_false s m w h hS hf hb he
end Go.Proofs.Ytimkdpkhdbiniaa

/- msg.Encode. -/
namespace Go.Proofs.Ytimkdpkhdbiniaa
open Go.RowKit
set_option maxRecDepth 100000

/-- A message's bytes, or the error. -/
noncomputable def encP (m : Ms) : List UInt8 × Int := if fineM m = true then (if (msW m).b.length ≤ 65535 then ((msW m).b, 0) else ([], 4)) else ([], 2)
theorem fineM_iff {m : Ms} : fineM m = true ↔ FineM m := by
  by_cases h : FineM m
  · exact ⟨fun _ => h, fineM_yes⟩
  · rw [fineM_no h]; exact ⟨fun h1 => (by cases h1), fun h2 => absurd h2 h⟩
theorem encP_bad {m : Ms} (h : fineM m = false) : encP m = ([], 2) := by unfold encP; rw [if_neg (by rw [h]; decide)]
theorem encP_large {m : Ms} (h : fineM m = true) (hl : 65535 < (msW m).b.length) : encP m = ([], 4) := by unfold encP; rw [if_pos h, if_neg (by omega)]
theorem encP_ok {m : Ms} (h : fineM m = true) (hl : (msW m).b.length ≤ 65535) : encP m = ((msW m).b, 0) := by unfold encP; rw [if_pos h, if_pos hl]
set_option maxHeartbeats 4000000 in
theorem mEncode_any (s : MS) (m : Ms) (w : World) {S : Nat → Prop} (h : MIn S w s m) (hS : ∀ b, S b → b < w.heap.size) (hL : LtM m) (hb : bytesM m ≤ 200000) :
    Calls Try.prog 87 #[msV s m] w (RetP (fun v w' => ∃ bv, v = .tuple #[bv, .int .i64 (encP m).2] ∧ OwnB w' w.heap.size bv (encP m).1) w) := by
  obtain ⟨w1, hw1⟩ : ∃ w1, w1 = w.alloc (.cells (mCells s m) 31) := ⟨_, rfl⟩
  have hb1 : Below w.heap.size w w1 := by rw [hw1]; exact bl.alloc (Nat.le_refl _) _
  have HR1 : Hid (MRow w1 w.heap.size s m) := by show MRow _ _ _ _; rw [hw1]; exact MRow.made w s m
  have hS1 : ∀ b, S b → b < w1.heap.size := fun b hb => Nat.lt_of_lt_of_le (hS b hb) hb1.size
  have HS := Lib.hid (mSound_any s m w1 (h.below hb1 hS) hS1 hL)
  have HI := Lib.hid (h.below hb1 hS)
  have HS1 : Hid (∀ b, S b → b < w1.heap.size) := hS1
  have HB := Lib.hid hb
  have HB1 := Lib.hid hb1
  obtain ⟨z0, z1, z2, z3, z4, z5, z6, z7, z8, z9, z10, z11, z12, z13⟩ := HR1.out.cells
  unfold msV mCells at HS
  unfold msV
  unfold mCells at hw1 ⊢
  clear h hS hb1 hL hb hS1
  cases hf : fineM m with
  | false =>
    rw [hf] at HS
    have HE := Lib.hid (encP_bad hf)
    clear hf
    go_enter Try.func87, Try.ntmps87
    go_upto_region 1 with (fail)
    rw [← hw1]
    clear hw1
    go_wp2_with (first
      | (go_at_call 119; refine HS.out.mono ?_; rintro e w2 ⟨v2, rfl, rfl, hb2⟩)
      | fail)
    go_ret2
    exact ⟨_, rfl, ⟨_, (by rw [HE.out]; rfl), by rw [HE.out]; exact OwnB.nil _ _⟩, nx HB1.out hb2⟩
  | true =>
    rw [hf] at HS
    have HFT := Lib.hid hf
    clear hf
    have HRAW : Hid (∀ w2, Below w1.heap.size w1 w2 → Calls Try.prog 143 #[.agg #[.int .i64 m.id, .bool m.resp, .int .i64 m.op, .bool m.aa, .bool m.tc, .bool m.rd, .bool m.ra, .int .i64 m.rcode, .slice s.Q m.qs.length s.qc, .slice s.A m.an.length s.ac, .slice s.U m.au.length s.uc, .slice s.X m.ex.length s.xc, .bool m.edns, .int .i64 m.size]] w2 (RetP (fun v w' => OwnB w' w2.heap.size v (msW m).b) w2)) :=
      fun w2 hw => mRaw_any s m w2 (HI.out.below hw HS1.out) (fun b hb => Nat.lt_of_lt_of_le (HS1.out b hb) hw.size) (fineM_iff.1 HFT.out) HB.out
    go_enter Try.func87, Try.ntmps87
    go_upto_region 1 with (fail)
    rw [← hw1]
    clear hw1
    go_upto_region 3 with (first
      | (go_at_call 119; refine HS.out.mono ?_; rintro e w2 ⟨v2, rfl, rfl, hb2⟩)
      | fail)
    have HB2 := Lib.hid hb2
    clear z0 z1 z2 z3 z4 z5 z6 z7 z8 z9 z10 z11 z12 z13 hb2
    obtain ⟨z0, z1, z2, z3, z4, z5, z6, z7, z8, z9, z10, z11, z12, z13⟩ := (HR1.out.below HB2.out).cells
    go_upto_region 4 with (first
      | (go_at_call 143; refine (HRAW.out w2 HB2.out).mono ?_; rintro e w3 ⟨v3, rfl, ho3, hb3⟩; obtain ⟨A3, c3, hv3, _, _, _⟩ := OwnB.form ho3; subst hv3; have HO3 := Lib.hid ho3; have HB3 := Lib.hid (nx HB1.out (nx HB2.out hb3)); clear ho3 hb3)
      | fail)
    have HBS : Hid (w.heap.size ≤ w2.heap.size) := (nx HB1.out HB2.out).size
    obtain ⟨n, hn⟩ : ∃ n, n = (msW m).b.length := ⟨_, rfl⟩
    have HN := Lib.hid hn
    rw [← hn] at HO3 ⊢
    clear hn
    by_cases hl : (65535 : Int) < (n : Int)
    · have HE := Lib.hid (encP_large HFT.out (by rw [← HN.out]; omega))
      go_wp2
      go_ret2
      exact ⟨_, rfl, ⟨_, (by rw [HE.out]; rfl), by rw [HE.out]; exact OwnB.nil _ _⟩, HB3.out⟩
    · have HE := Lib.hid (encP_ok HFT.out (by rw [← HN.out]; omega))
      go_wp2
      go_ret2
      exact ⟨_, rfl, ⟨_, (by rw [HE.out]; rfl), by rw [HE.out]; exact HO3.out.mono HBS.out⟩, HB3.out⟩
end Go.Proofs.Ytimkdpkhdbiniaa

/- bytes.Clone, bytes.Equal. -/
namespace Go.Proofs.Ytimkdpkhdbiniaa
open Go.RowKit

set_option maxHeartbeats 400000 in
theorem bclone_any (A : Option Addr) (m c : Nat) (bs : List UInt8) (w : World) (hb : RdB w A m bs) (hm : m ≤ 140737488355328) :
    Calls Try.prog 89 #[.slice A m c] w (RetP (fun v w' => OwnB w' w.heap.size v bs) w) := by
  have hlb := hb.len
  subst hlb
  rcases A with _ | ad
  · have hn : bs = [] := by
      rcases bs with _ | ⟨x, bs⟩
      · rfl
      · obtain ⟨b, off, e, _⟩ := hb.2 (by simp); cases e
    subst hn
    have he := fun W : World => Lib.run_eql_slice_nil (P := Try.prog) W 22 5 none ([] : List UInt8).length c 0 0 Try.underlying22
    simp only [List.length_nil, Option.isNone_none] at he
    go_enter Try.func89, Try.ntmps89
    go_wp2
    go_ret
    exact ⟨_, rfl, OwnB.nil _ _, bl⟩
  · have he := fun W : World => Lib.run_eql_slice_nil (P := Try.prog) W 22 5 (some ad) bs.length c 0 0 Try.underlying22
    simp only [Option.isNone_some] at he
    go_enter Try.func89, Try.ntmps89
    go_wp2_with ((with_reducible show wpList _ _ _ (⟨some 7, _, _, _, _, _⟩ :: _) _ _); refine wpL_cloneB rfl (.tmp 5) (.tmp 6) rfl rfl _ _ c bs rfl hb hm ?_; intro v2 w2 hown2 hb2)
    go_ret
    exact ⟨_, rfl, hown2, hb2⟩

set_option maxHeartbeats 400000 in
theorem bequal_any (A A' : Option Addr) (n c n' c' : Nat) (xs ys : List UInt8) (w : World) (hx : RdB w A n xs) (hy : RdB w A' n' ys) :
    Calls Try.prog 53 #[.slice A n c, .slice A' n' c'] w (Ret (.bool (decide (xs = ys))) w) := by
  have cx := conv_str (P := Try.prog) _ _ _ Try.underlying22 Try.underlying5 Try.underlying9 w A n c xs hx
  have cy := conv_str (P := Try.prog) _ _ _ Try.underlying22 Try.underlying5 Try.underlying9 w A' n' c' ys hy
  go_enter Try.func53, Try.ntmps53
  go_wp2
  go_ret
  exact ⟨ret_bool (by rw [bstr_toList, bstr_toList]; by_cases h : xs = ys <;> simp [h]), rfl⟩
end Go.Proofs.Ytimkdpkhdbiniaa

/- MsgShort: a message takes no more than its parts, each whole. No program in it. -/
namespace Go.Proofs.Ytimkdpkhdbiniaa
open Go.RowKit
set_option maxRecDepth 100000

theorem QIn.mono {S S' : Nat → Prop} {w : World} {s : QS} {x : Qu} (hS : ∀ b, S b → S' b) (h : QIn S w s x) : QIn S' w s x := ⟨h.n.mono hS hS, h.cn, h.it, h.ic⟩
theorem one_qu {S : Nat → Prop} {w : World} {s : QS} {q : Qu} (h : QIn S w s q) (hS : ∀ b, S b → b < w.heap.size) : RdE encQu (w.alloc (.cells (qCells s q) 25)) (some ⟨w.heap.size, 0, none⟩) 1 [q] := by
  have hb : Below w.heap.size w (w.alloc (.cells (qCells s q) 25)) := bl.alloc (Nat.le_refl _) _
  refine ⟨rfl, fun _ => ⟨w.heap.size, 0, rfl, by simp [ltS], fun i x hx => ?_⟩⟩
  match i, hx with
  | 0, hx =>
    injection hx with hx
    subst hx
    have h2 := (h.below hb hS).mono (S' := ltS (w.alloc (.cells (qCells s q) 25))) (fun b hb' => Nat.lt_of_lt_of_le (hS b hb') hb.size)
    refine ⟨(qCells s q).toList, ⟨s.A, s.c, rfl, h2.n, h2.cn, h2.it, h2.ic⟩, fun j u hu => ?_⟩
    have := new_cell w (qCells s q) 25 j
    rw [Nat.zero_mul, Nat.zero_add, Nat.zero_add]
    rw [this]
    simpa using hu
def textsN (ts : List (List UInt8)) : Nat := (ts.map fun t => 1 + t.length).sum
/-- What fits of a record that may be. -/
structure Fits (r : RR) : Prop where
  n : sizeN r.name ≤ 255
  b : r.data.bytes.length ≤ 65535
  h : sizeN r.data.host ≤ 255
  m : sizeN r.data.mail ≤ 255
  u : r.data.nums.length ≤ 5
  t : r.data.texts.length ≤ 64
  tx : textsN r.data.texts ≤ 16384
end Go.Proofs.Ytimkdpkhdbiniaa

/- scrub: questions that are sent: in memory; the law's own. -/
namespace Go.Proofs.Ytimkdpkhdbiniaa
open Go.RowKit
set_option maxRecDepth 100000

/-- A question that is sent. -/
structure Ou where
  addr : List UInt8
  port : Int
  id : Int
  q : Qu
structure OuS where
  A : Option Addr
  c : Nat
  q : QS
def ouCells (s : OuS) (o : Ou) : Array Value := #[.slice s.A o.addr.length s.c, .int .i64 o.port, .int .i64 o.id, .slice s.q.A o.q.name.length s.q.c, .int .i64 o.q.type, .int .i64 o.q.cls]
def ouV (s : OuS) (o : Ou) : Value := .agg (ouCells s o)
structure OIn (S : Nat → Prop) (w : World) (s : OuS) (o : Ou) : Prop where
  a : Els encB S S w s.A o.addr.length o.addr
  ca : o.addr.length ≤ s.c ∧ s.c ≤ maxLen
  ip : i64S o.port
  ii : i64S o.id
  q : QIn S w s.q o.q
section
variable {S S' F : Nat → Prop} {w w' : World} {s : OuS} {o : Ou}
theorem OIn.mono (hS : ∀ b, S b → S' b) (h : OIn S w s o) : OIn S' w s o := ⟨h.a.mono hS hS, h.ca, h.ip, h.ii, h.q.mono hS⟩
theorem OIn.keep (hS : ∀ b, S b → w'.heap[b]? = w.heap[b]?) (h : OIn S w s o) : OIn S w' s o := ⟨h.a.keep hS hS, h.ca, h.ip, h.ii, h.q.keep hS⟩
theorem OIn.below (h : OIn S w s o) (hb : Below w.heap.size w w') (hl : ∀ b, S b → b < w.heap.size) : OIn S w' s o := h.keep fun b hbS => hb.block b (hl b hbS)
end
def ORow (w : World) (q : Nat) (s : OuS) (o : Ou) : Prop := w.heap[q]? = some (.cells (ouCells s o) 27 (0, 0))
section
variable {w w' : World} {q : Nat} {s : OuS} {o : Ou}
theorem ORow.lt (h : ORow w q s o) : q < w.heap.size := (Array.getElem?_eq_some_iff.1 h).1
theorem ORow.below (h : ORow w q s o) (hb : Below w.heap.size w w') : ORow w' q s o := (hb.block q h.lt).trans h
theorem ORow.cell (h : ORow w q s o) (j : Nat) : w.cell? ⟨q, j, none⟩ = (ouCells s o)[j]? := cell_of_row _ _ _ _ _ _ h
theorem ORow.free (h : ORow w q s o) (j : Nat) : w.frozen? ⟨q, j, none⟩ = false := frozen_of_row _ _ _ _ _ h
theorem ORow.put (h : ORow w q s o) (j : Nat) (v : Value) (s' : OuS) (o' : Ou) (e : (ouCells s o).setIfInBounds j v = ouCells s' o') : ORow (w.setCell ⟨q, j, none⟩ v) q s' o' := by
  unfold ORow
  rw [← e]
  exact heap_setCell_same _ _ _ _ _ _ h
theorem ORow.made (w : World) (s : OuS) (o : Ou) : ORow (w.alloc (.cells (ouCells s o) 27)) w.heap.size s o := heap_alloc_new w _
theorem ORow.cells (h : ORow w q s o) : w.cell? ⟨q, 0, none⟩ = some (.slice s.A o.addr.length s.c) ∧ w.cell? ⟨q, 1, none⟩ = some (.int .i64 o.port) ∧ w.cell? ⟨q, 2, none⟩ = some (.int .i64 o.id) ∧ w.cell? ⟨q, 3, none⟩ = some (.slice s.q.A o.q.name.length s.q.c) ∧ w.cell? ⟨q, 4, none⟩ = some (.int .i64 o.q.type) ∧ w.cell? ⟨q, 5, none⟩ = some (.int .i64 o.q.cls) :=
  ⟨(h.cell 0).trans rfl, (h.cell 1).trans rfl, (h.cell 2).trans rfl, (h.cell 3).trans rfl, (h.cell 4).trans rfl, (h.cell 5).trans rfl⟩
end
def Ou.zero : Ou := ⟨[], 0, 0, ⟨[], 0, 0⟩⟩
def OuS.nil : OuS := ⟨none, 0, ⟨none, 0⟩⟩
def put6 (w : World) (q : Nat) (v0 v1 v2 v3 v4 v5 : Value) : World := (((((w.setCell ⟨q, 0, none⟩ v0).setCell ⟨q, 1, none⟩ v1).setCell ⟨q, 2, none⟩ v2).setCell ⟨q, 3, none⟩ v3).setCell ⟨q, 4, none⟩ v4).setCell ⟨q, 5, none⟩ v5
theorem set6 {w : World} {q : Nat} {t : TypeId} {a0 a1 a2 a3 a4 a5 : Value} (h : w.heap[q]? = some (.cells #[a0, a1, a2, a3, a4, a5] t (0, 0))) (v0 v1 v2 v3 v4 v5 : Value) : (put6 w q v0 v1 v2 v3 v4 v5).heap[q]? = some (.cells #[v0, v1, v2, v3, v4, v5] t (0, 0)) :=
  heap_setCell_same _ _ 5 _ _ _ (heap_setCell_same _ _ 4 _ _ _ (heap_setCell_same _ _ 3 _ _ _ (heap_setCell_same _ _ 2 _ _ _ (heap_setCell_same _ _ 1 _ _ _ (heap_setCell_same _ _ 0 _ _ _ h)))))
theorem chg6 (w : World) (q : Nat) (v0 v1 v2 v3 v4 v5 : Value) : Chg (fun k => k = q) w (put6 w q v0 v1 v2 v3 v4 v5) := by
  unfold put6
  have k : ∀ {u : World} (j : Nat) (v : Value), Chg (fun k => k = q) w u → Chg (fun k => k = q) w (u.setCell ⟨q, j, none⟩ v) := fun j v h => h.setCell (p := ⟨q, j, none⟩) (Or.inl rfl) v
  exact k 5 _ (k 4 _ (k 3 _ (k 2 _ (k 1 _ (k 0 _ (Chg.refl _ w))))))
theorem ORow.fill {w : World} {q : Nat} {s : OuS} {o : Ou} (h : ORow w q s o) (s' : OuS) (o' : Ou) : ORow (put6 w q (.slice s'.A o'.addr.length s'.c) (.int .i64 o'.port) (.int .i64 o'.id) (.slice s'.q.A o'.q.name.length s'.q.c) (.int .i64 o'.q.type) (.int .i64 o'.q.cls)) q s' o' := set6 h _ _ _ _ _ _

set_option maxHeartbeats 4000000 in
theorem own18_any (s : OuS) (o : Ou) (w : World) {S : Nat → Prop} (h : OIn S w s o) (hS : ∀ b, S b → b < w.heap.size) (hn : o.q.name.length ≤ 200) (ha : o.addr.length ≤ 100) :
    Calls Try.prog 17 #[ouV s o] w (RetP (fun v w' => ∃ s', v = ouV s' o ∧ OIn (geS w.heap.size w') w' s' o) w) := by
  obtain ⟨w1, hw1⟩ : ∃ w1, w1 = w.alloc (.cells (ouCells s o) 27) := ⟨_, rfl⟩
  obtain ⟨w2, hw2⟩ : ∃ w2, w2 = w1.alloc (.cells (ouCells OuS.nil Ou.zero) 27) := ⟨_, rfl⟩
  have hb1 : Below w.heap.size w w1 := by rw [hw1]; exact bl.alloc (Nat.le_refl _) _
  have hb2 : Below w1.heap.size w1 w2 := by rw [hw2]; exact bl.alloc (Nat.le_refl _) _
  have hz1 : w1.heap.size = w.heap.size + 1 := by rw [hw1]; simp
  have hz2 : w2.heap.size = w.heap.size + 2 := by rw [hw2]; simp; omega
  have hR1 : ORow w2 w.heap.size s o := by have h : ORow w1 w.heap.size s o := by rw [hw1]; exact ORow.made w s o
                                           exact h.below hb2
  have hR2 : ORow w2 (w.heap.size + 1) OuS.nil Ou.zero := by rw [hw2, ← hz1]; exact ORow.made w1 _ _
  have HR1 := Lib.hid hR1
  have HR2 := Lib.hid hR2
  have HI2 := Lib.hid ((h.below hb1 hS).below hb2 (fun b hb => Nat.lt_of_lt_of_le (hS b hb) hb1.size))
  have HS : Hid (∀ b, S b → b < w.heap.size) := hS
  have HBW : Hid (Below w.heap.size w w2) := nx hb1 hb2
  have HZ2 := Lib.hid hz2
  unfold ouV
  unfold ouCells at hw1 hw2 ⊢
  simp only [OuS.nil, Ou.zero, List.length_nil] at hw2
  clear h hS hb1 hb2 hz1 hz2 hR1 hR2
  go_enter Try.func17, Try.ntmps17
  go_upto_region 1 with (fail)
  rw [← hw1, ← hw2]
  clear hw1 hw2
  generalize hq0 : w.heap.size = q at HR1 HR2 HS ⊢
  have HQ0 := Lib.hid hq0
  clear hq0
  obtain ⟨x0, x1, x2, x3, x4, x5⟩ := HR1.out.cells
  have hbx : Below w2.heap.size w2 (w2.alloc (.cells #[] 5)) := bl.alloc (Nat.le_refl _) _
  have xa0 := below_cell hbx x0
  go_upto_region 2 with (first
    | ((with_reducible show wpList _ _ _ (⟨some 6, _, _, _, _, _⟩ :: _) _ _); go_must (refine wpL_cloneB rfl (.tmp 3) (.tmp 5) rfl rfl s.A _ s.c o.addr rfl (els_bytes HI2.out.a) (by omega) ?_; intro v3 w3 hown3 hb3; obtain ⟨A3, c3, rfl, _, hl3, hm3⟩ := OwnB.form hown3; have hR3 := HR1.out.below hb3; have e0 := hR3.cells.1; have f0 := hR3.free 0))
    | fail)
  obtain ⟨w4, hw4⟩ : ∃ w4, w4 = w3.setCell ⟨q, 0, none⟩ (.slice A3 o.addr.length c3) := ⟨_, rfl⟩
  have hc4 : Chg (fun z => z = q) w3 w4 := by rw [hw4]; exact chg_g1 w3 q 0 _
  have HR4 : Hid (ORow w4 q ⟨A3, c3, s.q⟩ o) := by show ORow _ _ _ _; rw [hw4]; exact hR3.put 0 _ _ _ rfl
  have hqz : q + 2 = w2.heap.size := by rw [HZ2.out, HQ0.out]
  have HA4 : Hid (Els encB (geS w2.heap.size w4) (geS w2.heap.size w4) w4 A3 o.addr.length o.addr) := els_ge (ownB_els hown3 rfl).1 hc4 (fun z h1 _ e => by omega)
  have HCA : Hid (o.addr.length ≤ c3 ∧ c3 ≤ maxLen) := ⟨hl3, hm3⟩
  have HB4 : Hid (Below w2.heap.size w2 w3) := hb3
  have HC4 := Lib.hid hc4
  have HP4 : Hid (ORow w4 (q + 1) OuS.nil Ou.zero) := hc4.heap (HR2.out.below hb3) (by omega)
  have HI4 : Hid (OIn S w4 s o) := (HI2.out.below hb3 (fun b hb => by have := HS.out b hb; omega)).keep (fun b hb => hc4.block b (by have h1 := HS.out b hb; have h2 := hb3.size; omega) (by have h1 := HS.out b hb; omega))
  have HZ4 : Hid (w2.heap.size ≤ w4.heap.size) := Nat.le_trans hb3.size hc4.size
  have HBW4 : Hid (Below w.heap.size w w4) := (HBW.out.trans (hb3.mono HBW.out.size)).trans (hc4.below (fun z hz => by rw [hz, ← HQ0.out]; omega) (by rw [HQ0.out]; have := hb3.size; omega))
  rw [← hw4]
  clear hw4 hc4 hown3 hl3 hm3 hR3 e0 f0 xa0 hbx x0 x1 x2 x3 x4 x5 hb3
  obtain ⟨x0, x1, x2, x3, x4, x5⟩ := HR4.out.cells
  have hbx : Below w4.heap.size w4 (w4.alloc (.cells #[] 9)) := bl.alloc (Nat.le_refl _) _
  have xa3 := below_cell hbx x3
  go_upto_region 3 with (first
    | ((with_reducible show wpList _ _ _ (⟨some 12, _, _, _, _, _⟩ :: _) _ _); go_must (refine wpL_cloneS rfl (.tmp 8) (.tmp 11) rfl rfl s.q.A _ s.q.c o.q.name rfl HI4.out.q.n (by omega) ?_; intro v5 w5 hown5 hb5; obtain ⟨A5, c5, rfl, _, hl5, hm5⟩ := OwnE.form hown5; have hR5 := HR4.out.below hb5; have e3 := hR5.cells.2.2.2.1; have f3 := hR5.free 3))
    | fail)
  obtain ⟨w6, hw6⟩ : ∃ w6, w6 = w5.setCell ⟨q, 3, none⟩ (.slice A5 o.q.name.length c5) := ⟨_, rfl⟩
  have hc6 : Chg (fun z => z = q) w5 w6 := by rw [hw6]; exact chg_g1 w5 q 3 _
  have hR6 : ORow w6 q ⟨A3, c3, ⟨A5, c5⟩⟩ o := by rw [hw6]; exact hR5.put 3 _ _ _ rfl
  have hz4 := HZ4.out
  have hN6 : Els encS (geS w2.heap.size w6) (geS w2.heap.size w6) w6 A5 o.q.name.length o.q.name := els_ge (els_le (ownE_els hown5 rfl).1 hz4) hc6 (fun z h1 _ e => by omega)
  have hA6 : Els encB (geS w2.heap.size w6) (geS w2.heap.size w6) w6 A3 o.addr.length o.addr := els_ge (els_geB HA4.out hb5) hc6 (fun z h1 _ e => by omega)
  have hP6 : ORow w6 (q + 1) OuS.nil Ou.zero := hc6.heap (HP4.out.below hb5) (by omega)
  have hs5 := hb5.size
  have HZ6 : Hid (w2.heap.size ≤ w6.heap.size) := Nat.le_trans (Nat.le_trans hz4 hs5) hc6.size
  have HBW6 : Hid (Below w.heap.size w w6) := (nx HBW4.out hb5).trans (hc6.below (fun z hz => by rw [hz, ← HQ0.out]; omega) (by rw [HQ0.out]; omega))
  have HN6 := Lib.hid (And.intro hN6 (And.intro hl5 hm5))
  have HA6 := Lib.hid hA6
  have HP6 := Lib.hid hP6
  rw [← hw6]
  clear hw6 hc6 hown5 hl5 hm5 hR5 e3 f3 xa3 hbx x0 x1 x2 x3 x4 x5 hb5 hN6 hA6 hP6 hs5 hz4
  obtain ⟨z0, z1, z2, z3, z4, z5⟩ := hR6.cells
  obtain ⟨p0, p1, p2, p3, p4, p5⟩ := HP6.out.cells
  simp only [OuS.nil, Ou.zero, List.length_nil] at p0 p1 p2 p3 p4 p5
  have f0 := HP6.out.free 0
  have f1 := HP6.out.free 1
  have f2 := HP6.out.free 2
  have f3 := HP6.out.free 3
  have f4 := HP6.out.free 4
  have f5 := HP6.out.free 5
  go_wp2
  obtain ⟨ym, hym⟩ : ∃ y, y = put6 w6 (q + 1) (.slice A3 o.addr.length c3) (.int .i64 o.port) (.int .i64 o.id) (.slice A5 o.q.name.length c5) (.int .i64 o.q.type) (.int .i64 o.q.cls) := ⟨_, rfl⟩
  have hRm : ORow ym (q + 1) ⟨A3, c3, ⟨A5, c5⟩⟩ o := by rw [hym]; exact HP6.out.fill ⟨A3, c3, ⟨A5, c5⟩⟩ o
  have hcm : Chg (fun z => z = q + 1) w6 ym := by rw [hym]; exact chg6 _ _ _ _ _ _ _ _
  unfold put6 at hym
  rw [← hym]
  clear hym z0 z1 z2 z3 z4 z5 p0 p1 p2 p3 p4 p5 f0 f1 f2 f3 f4 f5
  obtain ⟨z0, z1, z2, z3, z4, z5⟩ := hRm.cells
  have hz6 := HZ6.out
  have hq0 := HQ0.out
  have hm : ∀ b, geS w2.heap.size ym b → geS q ym b := fun b hb => ⟨by have h1 := hb.1; omega, hb.2⟩
  refine bodyPost_ret (v := ouV ⟨A3, c3, ⟨A5, c5⟩⟩ o) ?_ rfl ⟨_, rfl, ⟨_, rfl, ?_⟩, HBW6.out.trans (hcm.below (fun z hz => by omega) (by omega))⟩
  · simp [results, Try.results17, go_sem, z0, z1, z2, z3, z4, z5]
    rfl
  · rw [HQ0.out]
    exact ⟨(els_ge HA6.out hcm (fun z h1 _ e => by omega)).mono hm hm, HCA.out, HI4.out.ip, HI4.out.ii, ⟨(els_ge HN6.out.1 hcm (fun z h1 _ e => by omega)).mono hm hm, HN6.out.2, HI4.out.q.it, HI4.out.q.ic⟩⟩
end Go.Proofs.Ytimkdpkhdbiniaa

/- A question, and one that is sent, that came in by value. -/
namespace Go.Proofs.Ytimkdpkhdbiniaa
open Go.ChangeShapes Go.WideShapes Go.ChangeAt Go.RowKit
set_option maxRecDepth 100000

theorem open_ou {H : Type} {enc : TypeId × Value → H} {W : World} {base b0 : Nat} {sp : Nat → Bool} {hd : Bool} {r : Reach} {v : Value} {d : DataW H} {p : List MemPlace}
    (hv : Value.okWide Try.prog W r b0 27 v) (h : DataW.Trod enc Try.prog W base sp hd 27 v d p) : ∃ s x, v = ouV s x ∧ OIn (ltS W) W s x := by
  obtain ⟨cs, rfl, hsz⟩ := okWide_struct Try.underlying27 hv
  rw [show Try.prog.cellsOf 27 = 6 by kernel_rfl] at hsz
  obtain ⟨l⟩ := cs
  obtain ⟨c0, c1, c2, c3, c4, c5, rfl⟩ := len6 (l := l) (by simpa using hsz)
  obtain ⟨fuel, hf⟩ := h
  have hf' : DataW.trod enc Try.prog W base sp hd fuel 27 [c0, c1, c2, c3, c4, c5] = some (d, p) := by simpa [Value.cells] using hf
  obtain ⟨xs, n, hx, hc, hl, hfd, hw⟩ := trod_fields Try.underlying27 hf'
  obtain ⟨y0, e0, h0⟩ := hfd 0 _ rfl
  obtain ⟨y1, e1, h1⟩ := hfd 1 _ rfl
  obtain ⟨y2, e2, h2⟩ := hfd 2 _ rfl
  obtain ⟨y3, e3, h3⟩ := hfd 3 _ rfl
  have g0 : DataW.trod enc Try.prog W base sp hd n 22 (([c0, c1, c2, c3, c4, c5].drop 0).take (Try.prog.cellsOf 22)) = some y0 := h0
  have g1 : DataW.trod enc Try.prog W base sp hd n 3 (([c0, c1, c2, c3, c4, c5].drop 1).take (Try.prog.cellsOf 3)) = some y1 := h1
  have g2 : DataW.trod enc Try.prog W base sp hd n 3 (([c0, c1, c2, c3, c4, c5].drop 2).take (Try.prog.cellsOf 3)) = some y2 := h2
  have g3 : DataW.trod enc Try.prog W base sp hd n 25 (([c0, c1, c2, c3, c4, c5].drop 3).take (Try.prog.cellsOf 25)) = some y3 := h3
  rw [show Try.prog.cellsOf 3 = 1 by kernel_rfl] at g1 g2
  rw [show Try.prog.cellsOf 25 = 3 by kernel_rfl] at g3
  rw [show Try.prog.cellsOf 22 = 1 by kernel_rfl] at g0
  obtain ⟨a0, ⟨A0, n0, k0, r0, q0, l0, m0⟩, f0, w0⟩ := opens_sl (t := 22) Try.underlying22 (by kernel_rfl) (opens_u8 Try.underlying5) H enc W base sp hd n _ _ g0
  obtain ⟨a1, ⟨r1, b1⟩, f1, w1⟩ := opens_int Try.underlying3 H enc W base sp hd n _ _ g1
  obtain ⟨a2, ⟨r2, b2⟩, f2, w2⟩ := opens_int Try.underlying3 H enc W base sp hd n _ _ g2
  obtain ⟨a3, ⟨A3, k3, r3, q3, c3q, b3, d3⟩, f3, w3⟩ := opens_Qu H enc W base sp hd n _ _ g3
  simp at r0 r1 r2 r3
  obtain ⟨r3, r4, r5⟩ := r3
  have e0 := q0.1
  subst r0 r1 r2 r3 r4 r5 e0
  exact ⟨⟨A0, k0, ⟨A3, k3⟩⟩, ⟨a0, a1, a2, a3⟩, rfl, ⟨q0, ⟨l0, m0⟩, b1, b2, ⟨q3, c3q, b3, d3⟩⟩⟩
end Go.Proofs.Ytimkdpkhdbiniaa
