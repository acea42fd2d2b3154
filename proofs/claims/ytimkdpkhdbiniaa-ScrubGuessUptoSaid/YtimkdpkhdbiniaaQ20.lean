/- Parts of a proof, joined: Law18G. -/
import Derived.StillTailTactics
import Derived.Test.YtimkdpkhdbiniaaQ10
import Derived.Test.YtimkdpkhdbiniaaQ16
import Derived.Test.YtimkdpkhdbiniaaQ19
/- ScrubGuess: the law's walk. -/
namespace Go.Proofs.Ytimkdpkhdbiniaa
open Go.RowKit
set_option maxRecDepth 100000
set_option linter.unusedVariables false

theorem ownB_blt18 {w : World} {B : Nat} {A : Option Addr} {n c : Nat} {bs : List UInt8} (h : OwnB w B (.slice A n c) bs) : ∀ b off, A = some ⟨b, off, none⟩ → b < w.heap.size := fun b off e => (ownB_ends h b off e).2
theorem encP_zero18 {m : Ms} (h : (encP m).2 = 0) : FineM m ∧ decV (encP m).1 = (m, 0) ∧ (encP m).1.length ≤ 65535 := by
  cases hf : fineM m with
  | false => rw [encP_bad hf] at h; cases h
  | true =>
    by_cases hb : (msW m).b.length ≤ 65535
    · rw [encP_ok hf hb]
      exact ⟨fineM_iff.1 hf, decV_ok (decode_back (fineM_iff.1 hf) hb), hb⟩
    · rw [encP_large hf (by omega)] at h; cases h
theorem dec_12 {b : List UInt8} {m : Ms} (h : decV b = (m, 0)) : 12 ≤ b.length := by
  by_cases hl : 12 ≤ b.length
  · exact hl
  · exfalso
    have h1 : decP b = .error 3 := by unfold decP; rw [if_neg (by omega), if_pos (by omega)]
    rw [decV_err h1] at h
    injection h with _ h2
    cases h2
/-- The guessed message. -/
def gueM (o : Ou) (m : Ms) (id : Int) : Ms := { m with id := id, resp := true, op := 0, tc := false, rcode := 0, qs := [o.q] }
def gueS (s : MS) (g : Nat) : MS := { s with Q := some ⟨g, 0, none⟩, qc := 1 }
theorem gue_big {o : Ou} {m : Ms} {id : Int} (h : m.an.length + m.au.length + m.ex.length ≤ 60) (hf : FineM (gueM o m id)) : BigOk (gueM o m id) := by
  have hb : ∀ l : List RR, (∀ r ∈ l, FineK r) → bytesL l ≤ 65535 * l.length := by
    intro l
    induction l with
    | nil => intro _; exact Nat.le_refl _
    | cons r l ih =>
      intro hl
      have h1 := ih (fun x hx => hl x (List.mem_cons_of_mem _ hx))
      have h2 := (hl r (List.mem_cons_self ..)).2.small.2.2.2.2.2
      have h3 : bytesL (r :: l) = r.data.bytes.length + bytesL l := by rw [show r :: l = [r] ++ l from rfl, bytesL_append]; rfl
      rw [h3, List.length_cons]
      omega
  have h1 := hb m.an hf.an
  have h2 := hb m.au hf.au
  have h3 := hb m.ex hf.ex
  unfold BigOk
  show bytesL m.an + bytesL m.au + bytesL m.ex + 16660 * (1 + m.an.length + m.au.length + m.ex.length) ≤ 8740000
  omega
theorem gue_lt {o : Ou} {m : Ms} {id : Int} (hn : o.q.name.length ≤ 200) (h : m.an.length + m.au.length + m.ex.length ≤ 60) (hr : ∀ r ∈ m.an ++ m.au ++ m.ex, Lt9 r ∧ r.data.bytes.length ≤ 1000000000) : LtM (gueM o m id) := by
  refine ⟨by show 1 ≤ _; omega, fun j => ?_, fun x hx => by rw [show x = o.q from List.mem_singleton.1 hx]; omega, fun j x hx => hr x ?_⟩
  · match j with
    | 0 => show m.an.length ≤ _; omega
    | 1 => show m.au.length ≤ _; omega
    | n + 2 => show m.ex.length ≤ _; omega
  · match j, hx with
    | 0, hx => exact List.mem_append_left _ (List.mem_append_left _ hx)
    | 1, hx => exact List.mem_append_left _ (List.mem_append_right _ hx)
    | n + 2, hx => exact List.mem_append_right _ hx

/-- A message that was accepted, or none, in a block of its own. -/
structure AccSt (W wc : World) (g : Nat) (c : Array Value) : Prop where
  ge : W.heap.size ≤ g
  R : wc.heap[g]? = some (.cells c 31 (0, 0))
  bw : Below W.heap.size W wc
theorem AccSt.after {W w : World} (hb : Below W.heap.size W w) (c : Array Value) : AccSt W (w.alloc (.cells c 31)) w.heap.size c := ⟨hb.size, heap_alloc_new _ _, nx hb (bl.alloc (Nat.le_refl _) _)⟩
theorem AccSt.ahead {W w : World} {g : Nat} {c : Array Value} (h : AccSt W w g c) {a0 a1 a2 a3 a4 a5 a6 a7 a8 a9 a10 a11 a12 a13 : Value} (e : c = #[a0, a1, a2, a3, a4, a5, a6, a7, a8, a9, a10, a11, a12, a13]) (v0 v1 v2 v3 v4 v5 v6 v7 v8 v9 v10 v11 v12 v13 : Value) :
    AccSt W (put14 w g v0 v1 v2 v3 v4 v5 v6 v7 v8 v9 v10 v11 v12 v13) g #[v0, v1, v2, v3, v4, v5, v6, v7, v8, v9, v10, v11, v12, v13] := by
  subst e
  exact ⟨h.ge, set14 h.R v0 v1 v2 v3 v4 v5 v6 v7 v8 v9 v10 v11 v12 v13, h.bw.trans ((chg14 w g v0 v1 v2 v3 v4 v5 v6 v7 v8 v9 v10 v11 v12 v13).below (fun x hx => by have := h.ge; omega) h.bw.size)⟩
theorem AccSt.below {W w w' : World} {g : Nat} {c : Array Value} (h : AccSt W w g c) (hb : Below w.heap.size w w') : AccSt W w' g c := ⟨h.ge, (hb.block g (Array.getElem?_eq_some_iff.1 h.R).1).trans h.R, nx h.bw hb⟩
theorem AccSt.cell {W w : World} {g : Nat} {c : Array Value} (h : AccSt W w g c) (j : Nat) : w.cell? ⟨g, j, none⟩ = c[j]? := cell_of_row _ _ _ _ _ _ h.R
theorem AccSt.free {W w : World} {g : Nat} {c : Array Value} (h : AccSt W w g c) (j : Nat) : w.frozen? ⟨g, j, none⟩ = false := frozen_of_row _ _ _ _ _ h.R

set_option maxHeartbeats 16000000 in
theorem scrubGuess_port (s : OuS) (o : Ou) (t : MS) (m : Ms) (p d : Nat) (w : World) (h : OIn (ltS w) w s o) (hm : MIn (ltS w) w t m) (hp : p < 65536) (hd : d < 65536) (hq : m.qs.length ≤ 1048576) (hb3 : m.an.length ≤ 1048576 ∧ m.au.length ≤ 1048576 ∧ m.ex.length ≤ 1048576) (hport : ¬ (p : Int) = o.port) (hn : o.q.name.length ≤ 200) (ha : o.addr.length = 4) (hs : m.an.length + m.au.length + m.ex.length ≤ 60) (hr : ∀ r ∈ m.an ++ m.au ++ m.ex, Lt9 r ∧ r.data.bytes.length ≤ 1000000000) :
    Calls Try.prog 3 #[ouV s o, msV t m, .int .u16 (p : Int), .int .u16 (d : Int)] w (LawT w) := by
  have HPD : Hid (p < 65536 ∧ d < 65536) := ⟨hp, hd⟩
  obtain ⟨w1, hw1⟩ : ∃ w1, w1 = w.alloc (.cells (ouCells s o) 27) := ⟨_, rfl⟩
  obtain ⟨w2, hw2⟩ : ∃ w2, w2 = w1.alloc (.cells (mCells t m) 31) := ⟨_, rfl⟩
  have hb1 : Below w.heap.size w w1 := by rw [hw1]; exact bl.alloc (Nat.le_refl _) _
  have hb2 : Below w1.heap.size w1 w2 := by rw [hw2]; exact bl.alloc (Nat.le_refl _) _
  have hz1 : w1.heap.size = w.heap.size + 1 := by rw [hw1]; simp
  have hz2 : w2.heap.size = w.heap.size + 2 := by rw [hw2]; simp; omega
  have HR1 : Hid (ORow w2 w.heap.size s o) := by
    have h : ORow w1 w.heap.size s o := by rw [hw1]; exact ORow.made w s o
    exact h.below hb2
  have HM1 : Hid (MRow w2 (w.heap.size + 1) t m) := by show MRow _ _ _ _; rw [hw2, ← hz1]; exact MRow.made w1 t m
  have HB2 : Hid (Below w.heap.size w w2) := nx hb1 hb2
  have HZ2 := Lib.hid hz2
  have HIW : Hid (∀ w', Below w.heap.size w w' → OIn (ltS w) w' s o) := fun w' hw => h.below hw (fun b hb => hb)
  have HMW : Hid (∀ w', Below w.heap.size w w' → MIn (ltS w) w' t m) := fun w' hw => hm.below hw (fun b hb => hb)
  have HPORT0 := Lib.hid hport
  clear hport
  have HN : Hid (o.q.name.length ≤ 200 ∧ o.addr.length = 4) := ⟨hn, ha⟩
  have HLT : Hid (LtM (gueM o m (d : Int))) := gue_lt hn hs hr
  have HBG : Hid (FineM (gueM o m (d : Int)) → BigOk (gueM o m (d : Int))) := gue_big hs
  have hn' : ¬ (200 : Int) < (o.q.name.length : Int) := by omega
  have ha' : ((o.addr.length : Int) != 4) = false := by rw [ha]; rfl
  have hs' : ¬ (60 : Int) < (m.an.length : Int) + (m.au.length : Int) + (m.ex.length : Int) := by omega
  have hs1 : (m.an.length : Int) + (m.au.length : Int) + (m.ex.length : Int) ≤ 60 := by omega
  have hs2 : (m.an.length : Int) + (m.au.length : Int) ≤ 60 := by omega
  unfold ouV msV
  unfold ouCells at hw1 ⊢
  unfold mCells at hw2 ⊢
  clear h hm hb1 hb2 hz1 hz2 hn ha hs hr hq hb3
  go_enter Try.func3, Try.ntmps3
  go_upto_region 1 with (fail)
  rw [← hw1, ← hw2]
  clear hw1 hw2
  generalize hqe : w.heap.size = q at HR1 HM1 HZ2 ⊢
  have HQE := Lib.hid hqe
  clear hqe
  go_upto_region 3 with (first
    | (go_at_call 14; refine (answers18_any w2).mono ?_; rintro e w3 ⟨rfl, hb3⟩; have HB3 := Lib.hid hb3; obtain ⟨x0, x1, x2, x3, x4, x5⟩ := (HR1.out.below hb3).cells; obtain ⟨z0, z1, z2, z3, z4, z5, z6, z7, z8, z9, z10, z11, z12, z13⟩ := (HM1.out.below hb3).cells; clear hb3)
    | fail)
  clear hn' ha' hs' hs1 hs2
  have f0 : w3.frozen? ⟨q + 1, 0, none⟩ = false := MRow.free (HM1.out.below HB3.out) 0
  have f1 : w3.frozen? ⟨q + 1, 1, none⟩ = false := MRow.free (HM1.out.below HB3.out) 1
  have f2 : w3.frozen? ⟨q + 1, 2, none⟩ = false := MRow.free (HM1.out.below HB3.out) 2
  have f4 : w3.frozen? ⟨q + 1, 4, none⟩ = false := MRow.free (HM1.out.below HB3.out) 4
  have f7 : w3.frozen? ⟨q + 1, 7, none⟩ = false := MRow.free (HM1.out.below HB3.out) 7
  go_upto_region 5 with (fail)
  obtain ⟨w4, hw4⟩ : ∃ u, u = ((((w3.setCell ⟨q + 1, 1, none⟩ (.bool true)).setCell ⟨q + 1, 2, none⟩ (.int .i64 0)).setCell ⟨q + 1, 4, none⟩ (.bool false)).setCell ⟨q + 1, 7, none⟩ (.int .i64 0)).setCell ⟨q + 1, 0, none⟩ (.int .i64 (d : Int)) := ⟨_, rfl⟩
  have hM4 : MRow w4 (q + 1) t { m with resp := true, op := 0, tc := false, rcode := 0, id := (d : Int) } := by
    rw [hw4]
    exact MRow.put (MRow.put (MRow.put (MRow.put (MRow.put (HM1.out.below HB3.out) 1 (.bool true) t { m with resp := true } rfl) 2 (.int .i64 0) t { m with resp := true, op := 0 } rfl) 4 (.bool false) t { m with resp := true, op := 0, tc := false } rfl) 7 (.int .i64 0) t { m with resp := true, op := 0, tc := false, rcode := 0 } rfl) 0 (.int .i64 (d : Int)) t _ rfl
  have hk4 : ∀ {u : World} (j : Nat) (v : Value), Chg (fun k => k = q + 1) w3 u → Chg (fun k => k = q + 1) w3 (u.setCell ⟨q + 1, j, none⟩ v) := fun j v h => h.setCell (p := ⟨q + 1, j, none⟩) (Or.inl rfl) v
  have hC4 : Chg (fun k => k = q + 1) w3 w4 := by rw [hw4]; exact hk4 0 _ (hk4 7 _ (hk4 4 _ (hk4 2 _ (hk4 1 _ (Chg.refl _ w3)))))
  have HM4 := Lib.hid hM4
  have HO4 : Hid (ORow w4 q s o) := hC4.heap (HR1.out.below HB3.out) (by omega)
  have HB4 : Hid (Below w.heap.size w w4) := (nx HB2.out HB3.out).trans (hC4.below (fun x hx => by have := HQE.out; omega) (by have := (nx HB2.out HB3.out).size; exact this))
  rw [← hw4]
  clear hw4 hk4 hC4 hM4 f0 f1 f2 f4 f7 x0 x1 x2 x3 x4 x5 z0 z1 z2 z3 z4 z5 z6 z7 z8 z9 z10 z11 z12 z13
  obtain ⟨x0, x1, x2, x3, x4, x5⟩ := HO4.out.cells
  have HM5 : Hid (MRow (w4.alloc (.cells #[.slice s.q.A o.q.name.length s.q.c, .int .i64 o.q.type, .int .i64 o.q.cls] 25)) (q + 1) t { m with resp := true, op := 0, tc := false, rcode := 0, id := (d : Int) }) := HM4.out.below (bl.alloc (Nat.le_refl _) _)
  have c8 : (w4.alloc (.cells #[.slice s.q.A o.q.name.length s.q.c, .int .i64 o.q.type, .int .i64 o.q.cls] 25)).cell? ⟨q + 1, 8, none⟩ = some (.slice t.Q m.qs.length t.qc) := (HM5.out.cell 8).trans rfl
  have f8 : (w4.alloc (.cells #[.slice s.q.A o.q.name.length s.q.c, .int .i64 o.q.type, .int .i64 o.q.cls] 25)).frozen? ⟨q + 1, 8, none⟩ = false := HM5.out.free 8
  have c8' : w4.cell? ⟨q + 1, 8, none⟩ = some (.slice t.Q m.qs.length t.qc) := (HM4.out.cell 8).trans rfl
  have f8' : w4.frozen? ⟨q + 1, 8, none⟩ = false := HM4.out.free 8
  have hlt4 : q + 1 < w4.heap.size := HM4.out.lt
  go_upto_region 6 with (fail)
  obtain ⟨u4, hu4⟩ : ∃ u, u = w4.setCell ⟨q + 1, 8, none⟩ (.slice (some ⟨w4.heap.size, 0, none⟩) 1 1) := ⟨_, rfl⟩
  have hMu : MRow u4 (q + 1) (gueS t w4.heap.size) (gueM o m (d : Int)) := by rw [hu4]; exact MRow.put HM4.out 8 _ _ _ rfl
  have hCu : Chg (fun k => k = q + 1) w4 u4 := by rw [hu4]; exact chg_g1 _ _ _ _
  have hzu : u4.heap.size = w4.heap.size := by rw [hu4]; simp
  have hOu : ORow u4 q s o := hCu.heap HO4.out (by omega)
  have hBu : Below w.heap.size w u4 := HB4.out.trans (hCu.below (fun x hx => by have := HQE.out; omega) (by have := HB4.out.size; exact this))
  obtain ⟨w5, hw5⟩ : ∃ u, u = u4.alloc (.cells (qCells s.q o.q) 25) := ⟨_, rfl⟩
  have hb5 : Below u4.heap.size u4 w5 := by rw [hw5]; exact bl.alloc (Nat.le_refl _) _
  have hI5 : MIn (ltS w5) w5 (gueS t w4.heap.size) (gueM o m (d : Int)) := by
    have h1 := one_qu (HIW.out u4 hBu).q (fun b hb => Nat.lt_of_lt_of_le hb hBu.size)
    rw [← hw5, hzu] at h1
    have h2 : MIn (ltS w5) w5 t m := ((HMW.out u4 hBu).below hb5 (fun b hb => Nat.lt_of_lt_of_le hb hBu.size)).mono (fun b hb => Nat.lt_of_lt_of_le (Nat.lt_of_lt_of_le hb hBu.size) hb5.size)
    have z : i64S 0 := ⟨by omega, by omega⟩
    exact ⟨h1, h2.a, h2.u, h2.x, ⟨Nat.le_refl _, show (1 : Nat) ≤ maxLen by decide⟩, h2.ca, h2.cu, h2.cx, ⟨by show (-9223372036854775808 : Int) ≤ (d : Int); omega, by show (d : Int) ≤ 9223372036854775807; omega⟩, z, z, h2.is⟩
  have HM5 : Hid (MRow w5 (q + 1) (gueS t w4.heap.size) (gueM o m (d : Int))) := hMu.below hb5
  have HO5 : Hid (ORow w5 q s o) := hOu.below hb5
  have HB5 : Hid (Below w.heap.size w w5) := nx hBu hb5
  have henc := rEncode_big (gueS t w4.heap.size) (gueM o m (d : Int)) w5 hI5 (fun b hb => hb) HLT.out HBG.out
  have HEZ := Lib.hid (@encP_zero18 (gueM o m (d : Int)))
  obtain ⟨B, hB⟩ : ∃ B, B = (encP (gueM o m (d : Int))).1 := ⟨_, rfl⟩
  obtain ⟨er, her⟩ : ∃ er, er = (encP (gueM o m (d : Int))).2 := ⟨_, rfl⟩
  rw [← hB, ← her] at henc HEZ
  have HENC : Hid (Calls Try.prog 15 #[.agg #[.int .i64 (d : Int), .bool true, .int .i64 0, .bool m.aa, .bool false, .bool m.rd, .bool m.ra, .int .i64 0, .slice (some ⟨w4.heap.size, 0, none⟩) 1 1, .slice t.A m.an.length t.ac, .slice t.U m.au.length t.uc, .slice t.X m.ex.length t.xc, .bool m.edns, .int .i64 m.size]] w5 (RetP (fun v w' => ∃ bv, v = .tuple #[bv, .int .i64 er] ∧ RdSl w' bv B) w5)) := henc
  unfold qCells at hw5
  rw [← hu4, ← hw5]
  clear hu4 hw5 hB her henc hI5 hb5 hBu hOu hzu hCu hMu c8 f8 c8' f8' x0 x1 x2 x3 x4 x5 hlt4
  generalize w4.heap.size = g4 at HM5 HENC ⊢
  obtain ⟨x0, x1, x2, x3, x4, x5⟩ := HO5.out.cells
  obtain ⟨m0, m1, m2, m3, m4, m5, m6, m7, m8, m9, m10, m11, m12, m13⟩ := HM5.out.cells
  simp only [gueM, gueS, List.length_singleton] at m0 m1 m2 m3 m4 m5 m6 m7 m8 m9 m10 m11 m12 m13
  clear HM4
  go_upto_region 7 with (first
    | (go_at_call 15; refine HENC.out.mono ?_; rintro e w7 ⟨v7, rfl, ⟨bv7, rfl, ho7⟩, hb7⟩; have HRS := Lib.hid ho7; obtain ⟨A6, c6, hv6, -, -, -⟩ := ho7; subst hv6; have HB57 := Lib.hid hb7; clear hb7)
    | fail)
  clear x0 x1 x2 x3 x4 x5 m0 m1 m2 m3 m4 m5 m6 m7 m8 m9 m10 m11 m12 m13 HM5
  have HB7 := Lib.hid (nx HB5.out HB57.out)
  by_cases he : er = 0
  rotate_left
  · have heb : (er != 0) = true := by simp [he]
    go_wp2
    go_ret
    exact ⟨rfl, HB7.out⟩
  · subst he
    obtain ⟨hfine, hdec, hBl⟩ := HEZ.out rfl
    obtain ⟨n, hn⟩ : ∃ n, n = B.length := ⟨_, rfl⟩
    have HRB : Hid (RdB w7 A6 n B ∧ n ≤ c6 ∧ c6 ≤ maxLen ∧ n ≤ 65535 ∧ n = B.length) := by
      obtain ⟨A', c', hv, h1, h2, h3⟩ := HRS.out
      injection hv with e1 e2 e3
      subst e1 e3
      rw [← hn] at h1 h2 hBl
      exact ⟨h1, h2, h3, hBl, hn⟩
    rw [← hn] at HRS ⊢
    have HDEC := Lib.hid hdec
    clear hdec hBl hn hfine
    have HO7 : Hid (ORow w7 q s o) := HO5.out.below HB57.out
    have HE0 := Lib.hid (own_empty w7)
    have HBA : Hid (Below w7.heap.size w7 (w7.alloc (.cells #[] 5))) := bl.alloc (Nat.le_refl _) _
    have HRA : Hid (RdB (w7.alloc (.cells #[] 5)) s.A o.addr.length o.addr) := els_bytes (So := ltS w) (Si := ltS w) (HIW.out _ (nx HB7.out HBA.out)).a
    obtain ⟨x0, x1, x2, x3, x4, x5⟩ := (HO7.out.below HBA.out).cells
    have h48 : o.addr.length ≤ 140737488355328 := by have := HN.out.2; omega
    have hal : 0 < ([] ++ o.addr : List UInt8).length := by have := HN.out.2; simp; omega
    have HAL := Lib.hid hal
    clear hal
    go_upto_region 10 with (first
      | ((with_reducible show wpList _ _ _ (⟨some 68, _, _, _, _, _⟩ :: _) _ _); refine wpL_appB rfl (.tmp 65) (.tmp 67) rfl w7.heap.size (.slice (some ⟨w7.heap.size, 0, none⟩) 0 0) [] rfl HE0.out s.A o.addr.length s.c o.addr rfl HRA.out (by simp; omega) HBA.out.size ?_; intro v8 w8 hown8 hg8 _; have HB78 := Lib.hid (HBA.out.grown hg8 HBA.out.size (fun j hj => (World.ownsRow.lt HE0.out j hj).1)); obtain ⟨ga, ca, hv8, hga1, hga2, hl8, hm8, -⟩ := OwnB.flat hown8 HAL.out; rw [List.nil_append] at hv8 hl8 hown8; subst hv8; have HOA := Lib.hid hown8; have HCA : Hid (o.addr.length ≤ ca ∧ ca ≤ maxLen ∧ w7.heap.size ≤ ga ∧ ga < w8.heap.size) := (⟨hl8, hm8, hga1, hga2⟩); clear hown8 hg8 hl8 hm8 hga1 hga2)
      | fail)
    clear x0 x1 x2 x3 x4 x5 h48
    have hport := HPORT0.out
    obtain ⟨w9, hw9⟩ : ∃ u, u = w8.alloc (.cells #[.slice (some ⟨ga, 0, none⟩) o.addr.length ca, .int .i64 (p : Int), .slice A6 n c6] 38) := ⟨_, rfl⟩
    have hb9 : Below w8.heap.size w8 w9 := by rw [hw9]; exact bl.alloc (Nat.le_refl _) _
    have HDR : Hid (w9.heap[w8.heap.size]? = some (.cells #[.slice (some ⟨ga, 0, none⟩) o.addr.length ca, .int .i64 (p : Int), .slice A6 n c6] 38 (0, 0))) := by show _ = _; rw [hw9]; exact heap_alloc_new w8 _
    have HB89 := Lib.hid hb9
    have HB9 : Hid (Below w.heap.size w w9) := nx (nx HB7.out HB78.out) hb9
    have HGD : Hid (ga < w8.heap.size) := HCA.out.2.2.2
    rw [← hw9]
    clear hw9 hb9
    generalize w8.heap.size = dg at HDR HGD ⊢
    have hd9 : ∀ w', Below w9.heap.size w9 w' → (w'.cell? ⟨q, 0, none⟩ = some (.slice s.A o.addr.length s.c) ∧ w'.cell? ⟨q, 1, none⟩ = some (.int .i64 o.port) ∧ w'.cell? ⟨q, 2, none⟩ = some (.int .i64 o.id) ∧ w'.cell? ⟨q, 3, none⟩ = some (.slice s.q.A o.q.name.length s.q.c) ∧ w'.cell? ⟨q, 4, none⟩ = some (.int .i64 o.q.type) ∧ w'.cell? ⟨q, 5, none⟩ = some (.int .i64 o.q.cls) ∧ w'.cell? ⟨dg, 0, none⟩ = some (.slice (some ⟨ga, 0, none⟩) o.addr.length ca) ∧ w'.cell? ⟨dg, 1, none⟩ = some (.int .i64 (p : Int)) ∧ w'.cell? ⟨dg, 2, none⟩ = some (.slice A6 n c6)) := fun w' hw => by
      have g := (hw.block dg (Array.getElem?_eq_some_iff.1 HDR.out).1).trans HDR.out
      obtain ⟨z0, z1, z2, z3, z4, z5⟩ := ((HO7.out.below (nx HB78.out HB89.out)).below hw).cells
      exact ⟨z0, z1, z2, z3, z4, z5, (cell_of_row _ _ _ _ _ _ g).trans rfl, (cell_of_row _ _ _ _ _ _ g).trans rfl, (cell_of_row _ _ _ _ _ _ g).trans rfl⟩
    have HDDw9 := Lib.hid hd9
    clear hd9
    have HOIw9 : Hid (∀ w', Below w9.heap.size w9 w' → Calls Try.prog 17 #[.agg #[.slice s.A o.addr.length s.c, .int .i64 o.port, .int .i64 o.id, .slice s.q.A o.q.name.length s.q.c, .int .i64 o.q.type, .int .i64 o.q.cls]] w' (RetP (fun v w'' => ∃ s', v = ouV s' o ∧ OIn (geS w'.heap.size w'') w'' s' o) w')) := fun w' hw => own18_any s o w' (HIW.out w' (nx HB9.out hw)) (fun b hb => Nat.lt_of_lt_of_le hb (nx HB9.out hw).size) HN.out.1 (by have := HN.out.2; omega)
    have HBT7 : Hid (∀ b off, A6 = some ⟨b, off, none⟩ → b < w7.heap.size) := fun b off e => by
      have hl := dec_12 HDEC.out
      obtain ⟨b', off', e', hr⟩ := HRB.out.1.2 (by rw [List.length_map]; omega)
      rw [e] at e'
      injection e' with e'
      injection e' with e1 e2
      subst e1 e2
      have hc := hr 0 (bV (B[0]'(by omega))) (by rw [List.getElem?_map, List.getElem?_eq_getElem (by omega)]; rfl)
      exact World.block_lt_of_cell? w7 _ hc
    have HBTT : Hid (∀ b off, A6 = some ⟨b, off, none⟩ → b < w8.heap.size) := fun b off e => Nat.lt_of_lt_of_le (HBT7.out b off e) HB78.out.size
    have HPN : Hid ((p : Int) ≠ o.port) := hport
    have tp : (o.port == (p : Int)) = false := by simp; exact fun e => hport e.symm
    have HACw9 : Hid (∀ (w7 : World) (s7 : OuS) (S : Nat → Prop), Below w9.heap.size w9 w7 → OIn S w7 s7 o → (∀ b, S b → b < w7.heap.size) → Calls Try.prog 16 #[.agg #[.slice s7.A o.addr.length s7.c, .int .i64 o.port, .int .i64 o.id, .slice s7.q.A o.q.name.length s7.q.c, .int .i64 o.q.type, .int .i64 o.q.cls], .agg #[.slice (some ⟨ga, 0, none⟩) o.addr.length ca, .int .i64 (p : Int), .slice A6 n c6]] w7 (RetP (fun v _ => ∃ sm : MS, v = .tuple #[.agg #[.int .i64 0, .bool false, .int .i64 0, .bool false, .bool false, .bool false, .bool false, .int .i64 0, .slice none 0 0, .slice none 0 0, .slice none 0 0, .slice none 0 0, .bool false, .int .i64 0], .bool false]) w7)) := fun w7 s7 S hb hi hs => by
      refine Calls.mono (accept_port s7 o (some ⟨ga, 0, none⟩) o.addr.length ca o.addr (p : Int) A6 n c6 B w7 hi hs (((OwnB.rd HOA.out).1.below HB89.out).below hb) ((HRB.out.1.below (nx HB78.out HB89.out)).below hb) (fun b off e => Nat.lt_of_lt_of_le (HBTT.out b off e) (nx HB89.out hb).size) ⟨HRB.out.2.1, Nat.le_trans HRB.out.2.2.1 (by unfold maxLen; omega)⟩ (Nat.le_trans HRB.out.2.2.2.1 (by omega)) HN.out.2 rfl HPN.out) ?_
      rintro e w8 ⟨v8, rfl, rfl, hb8⟩
      exact ⟨_, rfl, ⟨MS.nil, rfl⟩, hb8⟩
    clear hport
    go_upto_region 10 with (fail)
    go_cut [12, 13] (fun pv bv wc => ∃ (g : Nat) (sm : MS), pv = .pointer (some ⟨g, 0, none⟩) ∧ bv = .bool false ∧ Hid (AccSt w9 wc g #[.int .i64 0, .bool false, .int .i64 0, .bool false, .bool false, .bool false, .bool false, .int .i64 0, .slice none 0 0, .slice none 0 0, .slice none 0 0, .slice none 0 0, .bool false, .int .i64 0]))
    case first =>
      have HZ0 : Hid (AccSt w9 (w9.alloc (.cells #[.int .i64 0, .bool false, .int .i64 0, .bool false, .bool false, .bool false, .bool false, .int .i64 0, .slice none 0 0, .slice none 0 0, .slice none 0 0, .slice none 0 0, .bool false, .int .i64 0] 31)) w9.heap.size #[.int .i64 0, .bool false, .int .i64 0, .bool false, .bool false, .bool false, .bool false, .int .i64 0, .slice none 0 0, .slice none 0 0, .slice none 0 0, .slice none 0 0, .bool false, .int .i64 0]) := AccSt.after bl _
      have HZ1 : Hid (AccSt w9 (w9.alloc (.cells #[.int .i64 0, .bool false, .int .i64 0, .bool false, .bool false, .bool false, .bool false, .int .i64 0, .slice none 0 0, .slice none 0 0, .slice none 0 0, .slice none 0 0, .bool false, .int .i64 0] 31)).drew w9.heap.size #[.int .i64 0, .bool false, .int .i64 0, .bool false, .bool false, .bool false, .bool false, .int .i64 0, .slice none 0 0, .slice none 0 0, .slice none 0 0, .slice none 0 0, .bool false, .int .i64 0]) := AccSt.below HZ0.out bl.drew
      have q1 := HDDw9.out w9 bl
      have q2 := HDDw9.out w9.drew bl.drew
      have q3 := HDDw9.out (w9.alloc (.cells #[.int .i64 0, .bool false, .int .i64 0, .bool false, .bool false, .bool false, .bool false, .int .i64 0, .slice none 0 0, .slice none 0 0, .slice none 0 0, .slice none 0 0, .bool false, .int .i64 0] 31)) HZ0.out.bw
      have q4 := HDDw9.out (w9.alloc (.cells #[.int .i64 0, .bool false, .int .i64 0, .bool false, .bool false, .bool false, .bool false, .int .i64 0, .slice none 0 0, .slice none 0 0, .slice none 0 0, .slice none 0 0, .bool false, .int .i64 0] 31)).drew HZ1.out.bw
      go_region_held3 (fun w' => w'.cell? ⟨q, 0, none⟩ = some (.slice s.A o.addr.length s.c) ∧ w'.cell? ⟨q, 1, none⟩ = some (.int .i64 o.port) ∧ w'.cell? ⟨q, 2, none⟩ = some (.int .i64 o.id) ∧ w'.cell? ⟨q, 3, none⟩ = some (.slice s.q.A o.q.name.length s.q.c) ∧ w'.cell? ⟨q, 4, none⟩ = some (.int .i64 o.q.type) ∧ w'.cell? ⟨q, 5, none⟩ = some (.int .i64 o.q.cls) ∧ w'.cell? ⟨dg, 0, none⟩ = some (.slice (some ⟨ga, 0, none⟩) o.addr.length ca) ∧ w'.cell? ⟨dg, 1, none⟩ = some (.int .i64 (p : Int)) ∧ w'.cell? ⟨dg, 2, none⟩ = some (.slice A6 n c6))
        (first
          | with_reducible exact q1
          | with_reducible exact q2
          | with_reducible exact q3
          | with_reducible exact q4
          | with_reducible exact q5
          | with_reducible exact q6
          | with_reducible exact q7
          | with_reducible exact q8
          | with_reducible exact q9
          | with_reducible exact q10
          | fail)
        (first
          | (go_at_call 16; (with_reducible refine (HACw9.out (w7.alloc (.cells #[.int .i64 0, .bool false, .int .i64 0, .bool false, .bool false, .bool false, .bool false, .int .i64 0, .slice none 0 0, .slice none 0 0, .slice none 0 0, .slice none 0 0, .bool false, .int .i64 0] 31)) s7 _ HZ5.out.bw HI5.out HS5.out).mono ?_); rintro e w8 ⟨v8, rfl, ⟨sm, rfl⟩, hb8⟩; have HZ3 := Lib.hid (AccSt.below HZ5.out hb8); have q8 := HDDw9.out w8 HZ3.out.bw; have m0 : w8.cell? ⟨w7.heap.size, 0, none⟩ = some (.int .i64 0) := (AccSt.cell HZ3.out 0).trans rfl; have m1 : w8.cell? ⟨w7.heap.size, 1, none⟩ = some (.bool false) := (AccSt.cell HZ3.out 1).trans rfl; have m2 : w8.cell? ⟨w7.heap.size, 2, none⟩ = some (.int .i64 0) := (AccSt.cell HZ3.out 2).trans rfl; have m3 : w8.cell? ⟨w7.heap.size, 3, none⟩ = some (.bool false) := (AccSt.cell HZ3.out 3).trans rfl; have m4 : w8.cell? ⟨w7.heap.size, 4, none⟩ = some (.bool false) := (AccSt.cell HZ3.out 4).trans rfl; have m5 : w8.cell? ⟨w7.heap.size, 5, none⟩ = some (.bool false) := (AccSt.cell HZ3.out 5).trans rfl; have m6 : w8.cell? ⟨w7.heap.size, 6, none⟩ = some (.bool false) := (AccSt.cell HZ3.out 6).trans rfl; have m7 : w8.cell? ⟨w7.heap.size, 7, none⟩ = some (.int .i64 0) := (AccSt.cell HZ3.out 7).trans rfl; have m8 : w8.cell? ⟨w7.heap.size, 8, none⟩ = some (.slice none 0 0) := (AccSt.cell HZ3.out 8).trans rfl; have m9 : w8.cell? ⟨w7.heap.size, 9, none⟩ = some (.slice none 0 0) := (AccSt.cell HZ3.out 9).trans rfl; have m10 : w8.cell? ⟨w7.heap.size, 10, none⟩ = some (.slice none 0 0) := (AccSt.cell HZ3.out 10).trans rfl; have m11 : w8.cell? ⟨w7.heap.size, 11, none⟩ = some (.slice none 0 0) := (AccSt.cell HZ3.out 11).trans rfl; have m12 : w8.cell? ⟨w7.heap.size, 12, none⟩ = some (.bool false) := (AccSt.cell HZ3.out 12).trans rfl; have m13 : w8.cell? ⟨w7.heap.size, 13, none⟩ = some (.int .i64 0) := (AccSt.cell HZ3.out 13).trans rfl; have fz := AccSt.free HZ3.out; have HF := Lib.hid (AccSt.ahead HZ3.out rfl (.int .i64 0) (.bool false) (.int .i64 0) (.bool false) (.bool false) (.bool false) (.bool false) (.int .i64 0) (.slice none 0 0) (.slice none 0 0) (.slice none 0 0) (.slice none 0 0) (.bool false) (.int .i64 0)); have q9 := HDDw9.out _ HF.out.bw; unfold put14 at HF q9)
          | (go_at_call 16; (with_reducible refine (HACw9.out w7 s7 _ HB7.out HI7.out HS7.out).mono ?_); rintro e w8 ⟨v8, rfl, ⟨sm, rfl⟩, hb8⟩; have HB8 := Lib.hid (nx HB7.out hb8); have q8 := HDDw9.out w8 HB8.out; have HF := Lib.hid (AccSt.after HB8.out #[.int .i64 0, .bool false, .int .i64 0, .bool false, .bool false, .bool false, .bool false, .int .i64 0, .slice none 0 0, .slice none 0 0, .slice none 0 0, .slice none 0 0, .bool false, .int .i64 0]); have q9 := HDDw9.out _ HF.out.bw; have HY := Lib.hid (AccSt.after HB8.out #[.int .i64 0, .bool false, .int .i64 0, .bool false, .bool false, .bool false, .bool false, .int .i64 0, .slice none 0 0, .slice none 0 0, .slice none 0 0, .slice none 0 0, .bool false, .int .i64 0]); have q10 := HDDw9.out _ HY.out.bw)
          | (go_at_call 16; (with_reducible refine (HACw9.out w6a s7 _ HZ2.out.bw HI7.out HS7.out).mono ?_); rintro e w8 ⟨v8, rfl, ⟨sm, rfl⟩, hb8⟩; have HZ3 := Lib.hid (AccSt.below HZ2.out hb8); have q8 := HDDw9.out w8 HZ3.out.bw; have m0 : w8.cell? ⟨w9.heap.size, 0, none⟩ = some (.int .i64 0) := (AccSt.cell HZ3.out 0).trans rfl; have m1 : w8.cell? ⟨w9.heap.size, 1, none⟩ = some (.bool false) := (AccSt.cell HZ3.out 1).trans rfl; have m2 : w8.cell? ⟨w9.heap.size, 2, none⟩ = some (.int .i64 0) := (AccSt.cell HZ3.out 2).trans rfl; have m3 : w8.cell? ⟨w9.heap.size, 3, none⟩ = some (.bool false) := (AccSt.cell HZ3.out 3).trans rfl; have m4 : w8.cell? ⟨w9.heap.size, 4, none⟩ = some (.bool false) := (AccSt.cell HZ3.out 4).trans rfl; have m5 : w8.cell? ⟨w9.heap.size, 5, none⟩ = some (.bool false) := (AccSt.cell HZ3.out 5).trans rfl; have m6 : w8.cell? ⟨w9.heap.size, 6, none⟩ = some (.bool false) := (AccSt.cell HZ3.out 6).trans rfl; have m7 : w8.cell? ⟨w9.heap.size, 7, none⟩ = some (.int .i64 0) := (AccSt.cell HZ3.out 7).trans rfl; have m8 : w8.cell? ⟨w9.heap.size, 8, none⟩ = some (.slice none 0 0) := (AccSt.cell HZ3.out 8).trans rfl; have m9 : w8.cell? ⟨w9.heap.size, 9, none⟩ = some (.slice none 0 0) := (AccSt.cell HZ3.out 9).trans rfl; have m10 : w8.cell? ⟨w9.heap.size, 10, none⟩ = some (.slice none 0 0) := (AccSt.cell HZ3.out 10).trans rfl; have m11 : w8.cell? ⟨w9.heap.size, 11, none⟩ = some (.slice none 0 0) := (AccSt.cell HZ3.out 11).trans rfl; have m12 : w8.cell? ⟨w9.heap.size, 12, none⟩ = some (.bool false) := (AccSt.cell HZ3.out 12).trans rfl; have m13 : w8.cell? ⟨w9.heap.size, 13, none⟩ = some (.int .i64 0) := (AccSt.cell HZ3.out 13).trans rfl; have fz := AccSt.free HZ3.out; have HF := Lib.hid (AccSt.ahead HZ3.out rfl (.int .i64 0) (.bool false) (.int .i64 0) (.bool false) (.bool false) (.bool false) (.bool false) (.int .i64 0) (.slice none 0 0) (.slice none 0 0) (.slice none 0 0) (.slice none 0 0) (.bool false) (.int .i64 0)); have q9 := HDDw9.out _ HF.out.bw; unfold put14 at HF q9)
          | (go_at_call 17; (with_reducible refine (HOIw9.out w9.drew bl.drew).mono ?_); rintro e w7 ⟨v7, rfl, ⟨s7, rfl, hi7⟩, hb7⟩; unfold ouV ouCells; have HI7 := Lib.hid hi7; have HS7 : Hid (∀ b, geS w9.drew.heap.size w7 b → b < w7.heap.size) := (fun b hb => hb.2); have HB7 : Hid (Below w9.heap.size w9 w7) := bl.drew.trans hb7; have q5 := HDDw9.out w7 HB7.out; have HZ5 : Hid (AccSt w9 (w7.alloc (.cells #[.int .i64 0, .bool false, .int .i64 0, .bool false, .bool false, .bool false, .bool false, .int .i64 0, .slice none 0 0, .slice none 0 0, .slice none 0 0, .slice none 0 0, .bool false, .int .i64 0] 31)) w7.heap.size #[.int .i64 0, .bool false, .int .i64 0, .bool false, .bool false, .bool false, .bool false, .int .i64 0, .slice none 0 0, .slice none 0 0, .slice none 0 0, .slice none 0 0, .bool false, .int .i64 0]) := AccSt.after HB7.out _; have HI5 := Lib.hid (hi7.below (bl.alloc (Nat.le_refl _) (.cells #[.int .i64 0, .bool false, .int .i64 0, .bool false, .bool false, .bool false, .bool false, .int .i64 0, .slice none 0 0, .slice none 0 0, .slice none 0 0, .slice none 0 0, .bool false, .int .i64 0] 31)) (fun b hb => hb.2)); have HS5 : Hid (∀ b, geS w9.drew.heap.size w7 b → b < (w7.alloc (.cells #[.int .i64 0, .bool false, .int .i64 0, .bool false, .bool false, .bool false, .bool false, .int .i64 0, .slice none 0 0, .slice none 0 0, .slice none 0 0, .slice none 0 0, .bool false, .int .i64 0] 31)).heap.size) := (fun b hb => Nat.lt_of_lt_of_le hb.2 (bl.alloc (Nat.le_refl _) (.cells #[.int .i64 0, .bool false, .int .i64 0, .bool false, .bool false, .bool false, .bool false, .int .i64 0, .slice none 0 0, .slice none 0 0, .slice none 0 0, .slice none 0 0, .bool false, .int .i64 0] 31)).size); have q6 := HDDw9.out _ HZ5.out.bw)
          | (go_at_call 17; (with_reducible refine (HOIw9.out (w9.alloc (.cells #[.int .i64 0, .bool false, .int .i64 0, .bool false, .bool false, .bool false, .bool false, .int .i64 0, .slice none 0 0, .slice none 0 0, .slice none 0 0, .slice none 0 0, .bool false, .int .i64 0] 31)).drew HZ1.out.bw).mono ?_); rintro e w6a ⟨v7, rfl, ⟨s7, rfl, hi7⟩, hb7⟩; unfold ouV ouCells; have HI7 := Lib.hid hi7; have HS7 : Hid (∀ b, geS (w9.alloc (.cells #[.int .i64 0, .bool false, .int .i64 0, .bool false, .bool false, .bool false, .bool false, .int .i64 0, .slice none 0 0, .slice none 0 0, .slice none 0 0, .slice none 0 0, .bool false, .int .i64 0] 31)).drew.heap.size w6a b → b < w6a.heap.size) := (fun b hb => hb.2); have HZ2 := Lib.hid (AccSt.below HZ1.out hb7); have q5 := HDDw9.out w6a HZ2.out.bw)
          | fail)
      all_goals
        go_wp2
        go_meet
        case rel => exact ⟨_, sm, rfl, rfl, HF⟩
    case rest =>
      obtain ⟨gm, sm, rfl, rfl, HAS⟩ := hcut
      obtain ⟨x0, x1, x2, x3, x4, x5, x6, x7, x8⟩ := HDDw9.out wc HAS.out.bw
      have HOW : Hid (OwnB wc w7.heap.size (.slice (some ⟨ga, 0, none⟩) o.addr.length ca) o.addr) := (HOA.out.below HB89.out).below HAS.out.bw
      have h3n : 3 < o.addr.length := by have := HN.out.2; omega
      have h3i : (3 : Int) < (o.addr.length : Int) := by omega
      obtain ⟨kb, hkb⟩ : ∃ k, k = (o.addr[3]'h3n).toNat := ⟨_, rfl⟩
      have x9 : wc.cell? ⟨ga, 3, none⟩ = some (.int .u8 (kb : Int)) := by rw [hkb]; exact OwnB.cell HOW.out (k := 3) h3n
      have f9 := OwnB.free HOW.out 3
      have HKB := Lib.hid hkb
      have hkl : kb < 256 := by rw [hkb]; exact UInt8.toNat_lt _
      clear hkb
      go_upto_region 12 with (fail)
      go_still_tail 8, (by kernel_rfl)
      change wpList _ _ _ _ _ wc.drew
      go_upto_region 13 with (fail)
      obtain ⟨wD, hwD⟩ : ∃ u, u = (wc.setCell ⟨ga, 3, none⟩ (.int .u8 (((kb : Int) + 1) % 256))).drew := ⟨_, rfl⟩
      obtain ⟨y, hy⟩ : ∃ y : UInt8, y = o.addr[3]'h3n + 1 := ⟨_, rfl⟩
      have hyv : ((kb : Int) + 1) % 256 = ((y.toNat : Nat) : Int) := by
        rw [hy, UInt8.toNat_add, ← HKB.out]
        show _ = (((kb + 1) % 256 : Nat) : Int)
        omega
      have hne : o.addr.set 3 y ≠ o.addr := fun e => by
        have h1 : (o.addr.set 3 y)[3]? = some y := by rw [List.getElem?_set_self h3n]
        rw [e, List.getElem?_eq_getElem h3n] at h1
        injection h1 with h1
        rw [← h1, ← HKB.out] at hyv
        omega
      have hcD : Chg (fun k => k = ga) wc wD := by rw [hwD]; exact ((Chg.refl (fun k => k = ga) wc).setCell (p := ⟨ga, 3, none⟩) (Or.inl rfl) _).drew
      have HOD : Hid (OwnB wD w7.heap.size (.slice (some ⟨ga, 0, none⟩) o.addr.length ca) (o.addr.set 3 y)) := by
        show OwnB _ _ _ _
        rw [hwD, hyv]
        exact (OwnB.set HOW.out 3 y).drew
      have hs7 := HB7.out.size
      have hs9c := (nx HB9.out HAS.out.bw).size
      have hga := HCA.out.2.2.1
      have HBD : Hid (Below w.heap.size w wD) := (nx HB9.out HAS.out.bw).trans (hcD.below (fun x hx => by omega) hs9c)
      have hq7 := HO7.out.lt
      have HRD : Hid (ORow wD q s o) := hcD.heap (((HO7.out.below (nx HB78.out HB89.out))).below HAS.out.bw) (by omega)
      have HDW : Hid (wD.heap[dg]? = some (.cells #[.slice (some ⟨ga, 0, none⟩) o.addr.length ca, .int .i64 (p : Int), .slice A6 n c6] 38 (0, 0))) := hcD.heap ((HAS.out.bw.block dg (Array.getElem?_eq_some_iff.1 HDR.out).1).trans HDR.out) (by have := HGD.out; omega)
      have HBD6 : Hid (RdB wD A6 n B) := RdB.chgP ((HRB.out.1.below (nx HB78.out HB89.out)).below HAS.out.bw) hcD (fun b off e => by have := HBT7.out b off e; omega)
      have HBW : Hid (∀ b off, A6 = some ⟨b, off, none⟩ → b < wD.heap.size) := fun b off e => Nat.lt_of_lt_of_le (Nat.lt_of_lt_of_le (HBT7.out b off e) (nx HB78.out (nx HB89.out HAS.out.bw)).size) hcD.size
      have HNE : Hid (o.addr.set 3 y ≠ o.addr) := hne
      have HGL : Hid (∀ b off, (some ⟨ga, 0, none⟩ : Option Addr) = some ⟨b, off, none⟩ → b < wD.heap.size) := ownB_blt18 HOD.out
      have hyl : (o.addr.set 3 y).length = o.addr.length := List.length_set
      rw [← hwD]
      clear hwD hcD hs7 hs9c hga hq7 hne hyv hy HKB hkl x9 f9 h3i x0 x1 x2 x3 x4 x5 x6 x7 x8 HDDw9 HOIw9 HACw9
      have HDDwD : Hid (∀ w', Below wD.heap.size wD w' → (w'.cell? ⟨q, 0, none⟩ = some (.slice s.A o.addr.length s.c) ∧ w'.cell? ⟨q, 1, none⟩ = some (.int .i64 o.port) ∧ w'.cell? ⟨q, 2, none⟩ = some (.int .i64 o.id) ∧ w'.cell? ⟨q, 3, none⟩ = some (.slice s.q.A o.q.name.length s.q.c) ∧ w'.cell? ⟨q, 4, none⟩ = some (.int .i64 o.q.type) ∧ w'.cell? ⟨q, 5, none⟩ = some (.int .i64 o.q.cls) ∧ w'.cell? ⟨dg, 0, none⟩ = some (.slice (some ⟨ga, 0, none⟩) o.addr.length ca) ∧ w'.cell? ⟨dg, 1, none⟩ = some (.int .i64 (p : Int)) ∧ w'.cell? ⟨dg, 2, none⟩ = some (.slice A6 n c6))) := fun w' hw => by
        have g := (hw.block dg (Array.getElem?_eq_some_iff.1 HDW.out).1).trans HDW.out
        obtain ⟨z0, z1, z2, z3, z4, z5⟩ := (HRD.out.below hw).cells
        exact ⟨z0, z1, z2, z3, z4, z5, (cell_of_row _ _ _ _ _ _ g).trans rfl, (cell_of_row _ _ _ _ _ _ g).trans rfl, (cell_of_row _ _ _ _ _ _ g).trans rfl⟩
      have HOIwD : Hid (∀ w', Below wD.heap.size wD w' → Calls Try.prog 17 #[.agg #[.slice s.A o.addr.length s.c, .int .i64 o.port, .int .i64 o.id, .slice s.q.A o.q.name.length s.q.c, .int .i64 o.q.type, .int .i64 o.q.cls]] w' (RetP (fun v w'' => ∃ s', v = ouV s' o ∧ OIn (geS w'.heap.size w'') w'' s' o) w')) := fun w' hw => own18_any s o w' (HIW.out w' (nx HBD.out hw)) (fun b hb => Nat.lt_of_lt_of_le hb (nx HBD.out hw).size) HN.out.1 (by have := HN.out.2; omega)
      have HACwD : Hid (∀ (w7 : World) (s7 : OuS) (S : Nat → Prop), Below wD.heap.size wD w7 → OIn S w7 s7 o → (∀ b, S b → b < w7.heap.size) → Calls Try.prog 16 #[.agg #[.slice s7.A o.addr.length s7.c, .int .i64 o.port, .int .i64 o.id, .slice s7.q.A o.q.name.length s7.q.c, .int .i64 o.q.type, .int .i64 o.q.cls], .agg #[.slice (some ⟨ga, 0, none⟩) o.addr.length ca, .int .i64 (p : Int), .slice A6 n c6]] w7 (RetP (fun v _ => ∃ sm : MS, v = .tuple #[.agg #[.int .i64 0, .bool false, .int .i64 0, .bool false, .bool false, .bool false, .bool false, .int .i64 0, .slice none 0 0, .slice none 0 0, .slice none 0 0, .slice none 0 0, .bool false, .int .i64 0], .bool false]) w7)) := fun w7 s7 S hb hi hs => by
        refine Calls.mono (accept_addr s7 o (some ⟨ga, 0, none⟩) o.addr.length ca (o.addr.set 3 y) (p : Int) A6 n c6 B w7 hi hs (by have h := (OwnB.rd HOD.out).1.below hb; exact h) (HBD6.out.below hb) (fun b off e => Nat.lt_of_lt_of_le (HBW.out b off e) hb.size) ⟨HRB.out.2.1, Nat.le_trans HRB.out.2.2.1 (by unfold maxLen; omega)⟩ (Nat.le_trans HRB.out.2.2.2.1 (by omega)) HN.out.2 HNE.out) ?_
        rintro e w8 ⟨v8, rfl, rfl, hb8⟩
        exact ⟨_, rfl, ⟨MS.nil, rfl⟩, hb8⟩
      go_upto_region 13 with (fail)
      go_cut [15, 16] (fun pv bv wc => ∃ (g : Nat) (sm : MS), pv = .pointer (some ⟨g, 0, none⟩) ∧ bv = .bool false ∧ Hid (AccSt wD wc g #[.int .i64 0, .bool false, .int .i64 0, .bool false, .bool false, .bool false, .bool false, .int .i64 0, .slice none 0 0, .slice none 0 0, .slice none 0 0, .slice none 0 0, .bool false, .int .i64 0]))
      case first =>
        have HZ0 : Hid (AccSt wD (wD.alloc (.cells #[.int .i64 0, .bool false, .int .i64 0, .bool false, .bool false, .bool false, .bool false, .int .i64 0, .slice none 0 0, .slice none 0 0, .slice none 0 0, .slice none 0 0, .bool false, .int .i64 0] 31)) wD.heap.size #[.int .i64 0, .bool false, .int .i64 0, .bool false, .bool false, .bool false, .bool false, .int .i64 0, .slice none 0 0, .slice none 0 0, .slice none 0 0, .slice none 0 0, .bool false, .int .i64 0]) := AccSt.after bl _
        have HZ1 : Hid (AccSt wD (wD.alloc (.cells #[.int .i64 0, .bool false, .int .i64 0, .bool false, .bool false, .bool false, .bool false, .int .i64 0, .slice none 0 0, .slice none 0 0, .slice none 0 0, .slice none 0 0, .bool false, .int .i64 0] 31)).drew wD.heap.size #[.int .i64 0, .bool false, .int .i64 0, .bool false, .bool false, .bool false, .bool false, .int .i64 0, .slice none 0 0, .slice none 0 0, .slice none 0 0, .slice none 0 0, .bool false, .int .i64 0]) := AccSt.below HZ0.out bl.drew
        have q1 := HDDwD.out wD bl
        have q2 := HDDwD.out wD.drew bl.drew
        have q3 := HDDwD.out (wD.alloc (.cells #[.int .i64 0, .bool false, .int .i64 0, .bool false, .bool false, .bool false, .bool false, .int .i64 0, .slice none 0 0, .slice none 0 0, .slice none 0 0, .slice none 0 0, .bool false, .int .i64 0] 31)) HZ0.out.bw
        have q4 := HDDwD.out (wD.alloc (.cells #[.int .i64 0, .bool false, .int .i64 0, .bool false, .bool false, .bool false, .bool false, .int .i64 0, .slice none 0 0, .slice none 0 0, .slice none 0 0, .slice none 0 0, .bool false, .int .i64 0] 31)).drew HZ1.out.bw
        go_region_held3 (fun w' => w'.cell? ⟨q, 0, none⟩ = some (.slice s.A o.addr.length s.c) ∧ w'.cell? ⟨q, 1, none⟩ = some (.int .i64 o.port) ∧ w'.cell? ⟨q, 2, none⟩ = some (.int .i64 o.id) ∧ w'.cell? ⟨q, 3, none⟩ = some (.slice s.q.A o.q.name.length s.q.c) ∧ w'.cell? ⟨q, 4, none⟩ = some (.int .i64 o.q.type) ∧ w'.cell? ⟨q, 5, none⟩ = some (.int .i64 o.q.cls) ∧ w'.cell? ⟨dg, 0, none⟩ = some (.slice (some ⟨ga, 0, none⟩) o.addr.length ca) ∧ w'.cell? ⟨dg, 1, none⟩ = some (.int .i64 (p : Int)) ∧ w'.cell? ⟨dg, 2, none⟩ = some (.slice A6 n c6))
          (first
            | with_reducible exact q1
            | with_reducible exact q2
            | with_reducible exact q3
            | with_reducible exact q4
            | with_reducible exact q5
            | with_reducible exact q6
            | with_reducible exact q7
            | with_reducible exact q8
            | with_reducible exact q9
            | with_reducible exact q10
            | fail)
          (first
            | (go_at_call 16; (with_reducible refine (HACwD.out (w7.alloc (.cells #[.int .i64 0, .bool false, .int .i64 0, .bool false, .bool false, .bool false, .bool false, .int .i64 0, .slice none 0 0, .slice none 0 0, .slice none 0 0, .slice none 0 0, .bool false, .int .i64 0] 31)) s7 _ HZ5.out.bw HI5.out HS5.out).mono ?_); rintro e w8 ⟨v8, rfl, ⟨sm, rfl⟩, hb8⟩; have HZ3 := Lib.hid (AccSt.below HZ5.out hb8); have q8 := HDDwD.out w8 HZ3.out.bw; have m0 : w8.cell? ⟨w7.heap.size, 0, none⟩ = some (.int .i64 0) := (AccSt.cell HZ3.out 0).trans rfl; have m1 : w8.cell? ⟨w7.heap.size, 1, none⟩ = some (.bool false) := (AccSt.cell HZ3.out 1).trans rfl; have m2 : w8.cell? ⟨w7.heap.size, 2, none⟩ = some (.int .i64 0) := (AccSt.cell HZ3.out 2).trans rfl; have m3 : w8.cell? ⟨w7.heap.size, 3, none⟩ = some (.bool false) := (AccSt.cell HZ3.out 3).trans rfl; have m4 : w8.cell? ⟨w7.heap.size, 4, none⟩ = some (.bool false) := (AccSt.cell HZ3.out 4).trans rfl; have m5 : w8.cell? ⟨w7.heap.size, 5, none⟩ = some (.bool false) := (AccSt.cell HZ3.out 5).trans rfl; have m6 : w8.cell? ⟨w7.heap.size, 6, none⟩ = some (.bool false) := (AccSt.cell HZ3.out 6).trans rfl; have m7 : w8.cell? ⟨w7.heap.size, 7, none⟩ = some (.int .i64 0) := (AccSt.cell HZ3.out 7).trans rfl; have m8 : w8.cell? ⟨w7.heap.size, 8, none⟩ = some (.slice none 0 0) := (AccSt.cell HZ3.out 8).trans rfl; have m9 : w8.cell? ⟨w7.heap.size, 9, none⟩ = some (.slice none 0 0) := (AccSt.cell HZ3.out 9).trans rfl; have m10 : w8.cell? ⟨w7.heap.size, 10, none⟩ = some (.slice none 0 0) := (AccSt.cell HZ3.out 10).trans rfl; have m11 : w8.cell? ⟨w7.heap.size, 11, none⟩ = some (.slice none 0 0) := (AccSt.cell HZ3.out 11).trans rfl; have m12 : w8.cell? ⟨w7.heap.size, 12, none⟩ = some (.bool false) := (AccSt.cell HZ3.out 12).trans rfl; have m13 : w8.cell? ⟨w7.heap.size, 13, none⟩ = some (.int .i64 0) := (AccSt.cell HZ3.out 13).trans rfl; have fz := AccSt.free HZ3.out; have HF := Lib.hid (AccSt.ahead HZ3.out rfl (.int .i64 0) (.bool false) (.int .i64 0) (.bool false) (.bool false) (.bool false) (.bool false) (.int .i64 0) (.slice none 0 0) (.slice none 0 0) (.slice none 0 0) (.slice none 0 0) (.bool false) (.int .i64 0)); have q9 := HDDwD.out _ HF.out.bw; unfold put14 at HF q9)
            | (go_at_call 16; (with_reducible refine (HACwD.out w7 s7 _ HB7.out HI7.out HS7.out).mono ?_); rintro e w8 ⟨v8, rfl, ⟨sm, rfl⟩, hb8⟩; have HB8 := Lib.hid (nx HB7.out hb8); have q8 := HDDwD.out w8 HB8.out; have HF := Lib.hid (AccSt.after HB8.out #[.int .i64 0, .bool false, .int .i64 0, .bool false, .bool false, .bool false, .bool false, .int .i64 0, .slice none 0 0, .slice none 0 0, .slice none 0 0, .slice none 0 0, .bool false, .int .i64 0]); have q9 := HDDwD.out _ HF.out.bw; have HY := Lib.hid (AccSt.after HB8.out #[.int .i64 0, .bool false, .int .i64 0, .bool false, .bool false, .bool false, .bool false, .int .i64 0, .slice none 0 0, .slice none 0 0, .slice none 0 0, .slice none 0 0, .bool false, .int .i64 0]); have q10 := HDDwD.out _ HY.out.bw)
            | (go_at_call 16; (with_reducible refine (HACwD.out w6a s7 _ HZ2.out.bw HI7.out HS7.out).mono ?_); rintro e w8 ⟨v8, rfl, ⟨sm, rfl⟩, hb8⟩; have HZ3 := Lib.hid (AccSt.below HZ2.out hb8); have q8 := HDDwD.out w8 HZ3.out.bw; have m0 : w8.cell? ⟨wD.heap.size, 0, none⟩ = some (.int .i64 0) := (AccSt.cell HZ3.out 0).trans rfl; have m1 : w8.cell? ⟨wD.heap.size, 1, none⟩ = some (.bool false) := (AccSt.cell HZ3.out 1).trans rfl; have m2 : w8.cell? ⟨wD.heap.size, 2, none⟩ = some (.int .i64 0) := (AccSt.cell HZ3.out 2).trans rfl; have m3 : w8.cell? ⟨wD.heap.size, 3, none⟩ = some (.bool false) := (AccSt.cell HZ3.out 3).trans rfl; have m4 : w8.cell? ⟨wD.heap.size, 4, none⟩ = some (.bool false) := (AccSt.cell HZ3.out 4).trans rfl; have m5 : w8.cell? ⟨wD.heap.size, 5, none⟩ = some (.bool false) := (AccSt.cell HZ3.out 5).trans rfl; have m6 : w8.cell? ⟨wD.heap.size, 6, none⟩ = some (.bool false) := (AccSt.cell HZ3.out 6).trans rfl; have m7 : w8.cell? ⟨wD.heap.size, 7, none⟩ = some (.int .i64 0) := (AccSt.cell HZ3.out 7).trans rfl; have m8 : w8.cell? ⟨wD.heap.size, 8, none⟩ = some (.slice none 0 0) := (AccSt.cell HZ3.out 8).trans rfl; have m9 : w8.cell? ⟨wD.heap.size, 9, none⟩ = some (.slice none 0 0) := (AccSt.cell HZ3.out 9).trans rfl; have m10 : w8.cell? ⟨wD.heap.size, 10, none⟩ = some (.slice none 0 0) := (AccSt.cell HZ3.out 10).trans rfl; have m11 : w8.cell? ⟨wD.heap.size, 11, none⟩ = some (.slice none 0 0) := (AccSt.cell HZ3.out 11).trans rfl; have m12 : w8.cell? ⟨wD.heap.size, 12, none⟩ = some (.bool false) := (AccSt.cell HZ3.out 12).trans rfl; have m13 : w8.cell? ⟨wD.heap.size, 13, none⟩ = some (.int .i64 0) := (AccSt.cell HZ3.out 13).trans rfl; have fz := AccSt.free HZ3.out; have HF := Lib.hid (AccSt.ahead HZ3.out rfl (.int .i64 0) (.bool false) (.int .i64 0) (.bool false) (.bool false) (.bool false) (.bool false) (.int .i64 0) (.slice none 0 0) (.slice none 0 0) (.slice none 0 0) (.slice none 0 0) (.bool false) (.int .i64 0)); have q9 := HDDwD.out _ HF.out.bw; unfold put14 at HF q9)
            | (go_at_call 17; (with_reducible refine (HOIwD.out wD.drew bl.drew).mono ?_); rintro e w7 ⟨v7, rfl, ⟨s7, rfl, hi7⟩, hb7⟩; unfold ouV ouCells; have HI7 := Lib.hid hi7; have HS7 : Hid (∀ b, geS wD.drew.heap.size w7 b → b < w7.heap.size) := (fun b hb => hb.2); have HB7 : Hid (Below wD.heap.size wD w7) := bl.drew.trans hb7; have q5 := HDDwD.out w7 HB7.out; have HZ5 : Hid (AccSt wD (w7.alloc (.cells #[.int .i64 0, .bool false, .int .i64 0, .bool false, .bool false, .bool false, .bool false, .int .i64 0, .slice none 0 0, .slice none 0 0, .slice none 0 0, .slice none 0 0, .bool false, .int .i64 0] 31)) w7.heap.size #[.int .i64 0, .bool false, .int .i64 0, .bool false, .bool false, .bool false, .bool false, .int .i64 0, .slice none 0 0, .slice none 0 0, .slice none 0 0, .slice none 0 0, .bool false, .int .i64 0]) := AccSt.after HB7.out _; have HI5 := Lib.hid (hi7.below (bl.alloc (Nat.le_refl _) (.cells #[.int .i64 0, .bool false, .int .i64 0, .bool false, .bool false, .bool false, .bool false, .int .i64 0, .slice none 0 0, .slice none 0 0, .slice none 0 0, .slice none 0 0, .bool false, .int .i64 0] 31)) (fun b hb => hb.2)); have HS5 : Hid (∀ b, geS wD.drew.heap.size w7 b → b < (w7.alloc (.cells #[.int .i64 0, .bool false, .int .i64 0, .bool false, .bool false, .bool false, .bool false, .int .i64 0, .slice none 0 0, .slice none 0 0, .slice none 0 0, .slice none 0 0, .bool false, .int .i64 0] 31)).heap.size) := (fun b hb => Nat.lt_of_lt_of_le hb.2 (bl.alloc (Nat.le_refl _) (.cells #[.int .i64 0, .bool false, .int .i64 0, .bool false, .bool false, .bool false, .bool false, .int .i64 0, .slice none 0 0, .slice none 0 0, .slice none 0 0, .slice none 0 0, .bool false, .int .i64 0] 31)).size); have q6 := HDDwD.out _ HZ5.out.bw)
            | (go_at_call 17; (with_reducible refine (HOIwD.out (wD.alloc (.cells #[.int .i64 0, .bool false, .int .i64 0, .bool false, .bool false, .bool false, .bool false, .int .i64 0, .slice none 0 0, .slice none 0 0, .slice none 0 0, .slice none 0 0, .bool false, .int .i64 0] 31)).drew HZ1.out.bw).mono ?_); rintro e w6a ⟨v7, rfl, ⟨s7, rfl, hi7⟩, hb7⟩; unfold ouV ouCells; have HI7 := Lib.hid hi7; have HS7 : Hid (∀ b, geS (wD.alloc (.cells #[.int .i64 0, .bool false, .int .i64 0, .bool false, .bool false, .bool false, .bool false, .int .i64 0, .slice none 0 0, .slice none 0 0, .slice none 0 0, .slice none 0 0, .bool false, .int .i64 0] 31)).drew.heap.size w6a b → b < w6a.heap.size) := (fun b hb => hb.2); have HZ2 := Lib.hid (AccSt.below HZ1.out hb7); have q5 := HDDwD.out w6a HZ2.out.bw)
            | fail)
        all_goals
          go_wp2
          go_meet
          case rel => exact ⟨_, sm, rfl, rfl, HF⟩
      case rest =>
        obtain ⟨gz, sz, rfl, rfl, HZS⟩ := hcut
        go_wp2
        go_ret
        exact ⟨rfl, nx HBD.out HZS.out.bw⟩

set_option maxHeartbeats 16000000 in
theorem scrubGuess_id (s : OuS) (o : Ou) (t : MS) (m : Ms) (p d : Nat) (w : World) (h : OIn (ltS w) w s o) (hm : MIn (ltS w) w t m) (hp : p < 65536) (hd : d < 65536) (hq : m.qs.length ≤ 1048576) (hb3 : m.an.length ≤ 1048576 ∧ m.au.length ≤ 1048576 ∧ m.ex.length ≤ 1048576) (hport : (p : Int) = o.port) (hid : ¬ (d : Int) = o.id) (hn : o.q.name.length ≤ 200) (ha : o.addr.length = 4) (hs : m.an.length + m.au.length + m.ex.length ≤ 60) (hr : ∀ r ∈ m.an ++ m.au ++ m.ex, Lt9 r ∧ r.data.bytes.length ≤ 1000000000) :
    Calls Try.prog 3 #[ouV s o, msV t m, .int .u16 (p : Int), .int .u16 (d : Int)] w (LawT w) := by
  have HPD : Hid (p < 65536 ∧ d < 65536) := ⟨hp, hd⟩
  obtain ⟨w1, hw1⟩ : ∃ w1, w1 = w.alloc (.cells (ouCells s o) 27) := ⟨_, rfl⟩
  obtain ⟨w2, hw2⟩ : ∃ w2, w2 = w1.alloc (.cells (mCells t m) 31) := ⟨_, rfl⟩
  have hb1 : Below w.heap.size w w1 := by rw [hw1]; exact bl.alloc (Nat.le_refl _) _
  have hb2 : Below w1.heap.size w1 w2 := by rw [hw2]; exact bl.alloc (Nat.le_refl _) _
  have hz1 : w1.heap.size = w.heap.size + 1 := by rw [hw1]; simp
  have hz2 : w2.heap.size = w.heap.size + 2 := by rw [hw2]; simp; omega
  have HR1 : Hid (ORow w2 w.heap.size s o) := by
    have h : ORow w1 w.heap.size s o := by rw [hw1]; exact ORow.made w s o
    exact h.below hb2
  have HM1 : Hid (MRow w2 (w.heap.size + 1) t m) := by show MRow _ _ _ _; rw [hw2, ← hz1]; exact MRow.made w1 t m
  have HB2 : Hid (Below w.heap.size w w2) := nx hb1 hb2
  have HZ2 := Lib.hid hz2
  have HIW : Hid (∀ w', Below w.heap.size w w' → OIn (ltS w) w' s o) := fun w' hw => h.below hw (fun b hb => hb)
  have HMW : Hid (∀ w', Below w.heap.size w w' → MIn (ltS w) w' t m) := fun w' hw => hm.below hw (fun b hb => hb)
  have HPORT0 := Lib.hid hport
  have HID0 := Lib.hid hid
  clear hport hid
  have HN : Hid (o.q.name.length ≤ 200 ∧ o.addr.length = 4) := ⟨hn, ha⟩
  have HLT : Hid (LtM (gueM o m (d : Int))) := gue_lt hn hs hr
  have HBG : Hid (FineM (gueM o m (d : Int)) → BigOk (gueM o m (d : Int))) := gue_big hs
  have hn' : ¬ (200 : Int) < (o.q.name.length : Int) := by omega
  have ha' : ((o.addr.length : Int) != 4) = false := by rw [ha]; rfl
  have hs' : ¬ (60 : Int) < (m.an.length : Int) + (m.au.length : Int) + (m.ex.length : Int) := by omega
  have hs1 : (m.an.length : Int) + (m.au.length : Int) + (m.ex.length : Int) ≤ 60 := by omega
  have hs2 : (m.an.length : Int) + (m.au.length : Int) ≤ 60 := by omega
  unfold ouV msV
  unfold ouCells at hw1 ⊢
  unfold mCells at hw2 ⊢
  clear h hm hb1 hb2 hz1 hz2 hn ha hs hr hq hb3
  go_enter Try.func3, Try.ntmps3
  go_upto_region 1 with (fail)
  rw [← hw1, ← hw2]
  clear hw1 hw2
  generalize hqe : w.heap.size = q at HR1 HM1 HZ2 ⊢
  have HQE := Lib.hid hqe
  clear hqe
  go_upto_region 3 with (first
    | (go_at_call 14; refine (answers18_any w2).mono ?_; rintro e w3 ⟨rfl, hb3⟩; have HB3 := Lib.hid hb3; obtain ⟨x0, x1, x2, x3, x4, x5⟩ := (HR1.out.below hb3).cells; obtain ⟨z0, z1, z2, z3, z4, z5, z6, z7, z8, z9, z10, z11, z12, z13⟩ := (HM1.out.below hb3).cells; clear hb3)
    | fail)
  clear hn' ha' hs' hs1 hs2
  have f0 : w3.frozen? ⟨q + 1, 0, none⟩ = false := MRow.free (HM1.out.below HB3.out) 0
  have f1 : w3.frozen? ⟨q + 1, 1, none⟩ = false := MRow.free (HM1.out.below HB3.out) 1
  have f2 : w3.frozen? ⟨q + 1, 2, none⟩ = false := MRow.free (HM1.out.below HB3.out) 2
  have f4 : w3.frozen? ⟨q + 1, 4, none⟩ = false := MRow.free (HM1.out.below HB3.out) 4
  have f7 : w3.frozen? ⟨q + 1, 7, none⟩ = false := MRow.free (HM1.out.below HB3.out) 7
  go_upto_region 5 with (fail)
  obtain ⟨w4, hw4⟩ : ∃ u, u = ((((w3.setCell ⟨q + 1, 1, none⟩ (.bool true)).setCell ⟨q + 1, 2, none⟩ (.int .i64 0)).setCell ⟨q + 1, 4, none⟩ (.bool false)).setCell ⟨q + 1, 7, none⟩ (.int .i64 0)).setCell ⟨q + 1, 0, none⟩ (.int .i64 (d : Int)) := ⟨_, rfl⟩
  have hM4 : MRow w4 (q + 1) t { m with resp := true, op := 0, tc := false, rcode := 0, id := (d : Int) } := by
    rw [hw4]
    exact MRow.put (MRow.put (MRow.put (MRow.put (MRow.put (HM1.out.below HB3.out) 1 (.bool true) t { m with resp := true } rfl) 2 (.int .i64 0) t { m with resp := true, op := 0 } rfl) 4 (.bool false) t { m with resp := true, op := 0, tc := false } rfl) 7 (.int .i64 0) t { m with resp := true, op := 0, tc := false, rcode := 0 } rfl) 0 (.int .i64 (d : Int)) t _ rfl
  have hk4 : ∀ {u : World} (j : Nat) (v : Value), Chg (fun k => k = q + 1) w3 u → Chg (fun k => k = q + 1) w3 (u.setCell ⟨q + 1, j, none⟩ v) := fun j v h => h.setCell (p := ⟨q + 1, j, none⟩) (Or.inl rfl) v
  have hC4 : Chg (fun k => k = q + 1) w3 w4 := by rw [hw4]; exact hk4 0 _ (hk4 7 _ (hk4 4 _ (hk4 2 _ (hk4 1 _ (Chg.refl _ w3)))))
  have HM4 := Lib.hid hM4
  have HO4 : Hid (ORow w4 q s o) := hC4.heap (HR1.out.below HB3.out) (by omega)
  have HB4 : Hid (Below w.heap.size w w4) := (nx HB2.out HB3.out).trans (hC4.below (fun x hx => by have := HQE.out; omega) (by have := (nx HB2.out HB3.out).size; exact this))
  rw [← hw4]
  clear hw4 hk4 hC4 hM4 f0 f1 f2 f4 f7 x0 x1 x2 x3 x4 x5 z0 z1 z2 z3 z4 z5 z6 z7 z8 z9 z10 z11 z12 z13
  obtain ⟨x0, x1, x2, x3, x4, x5⟩ := HO4.out.cells
  have HM5 : Hid (MRow (w4.alloc (.cells #[.slice s.q.A o.q.name.length s.q.c, .int .i64 o.q.type, .int .i64 o.q.cls] 25)) (q + 1) t { m with resp := true, op := 0, tc := false, rcode := 0, id := (d : Int) }) := HM4.out.below (bl.alloc (Nat.le_refl _) _)
  have c8 : (w4.alloc (.cells #[.slice s.q.A o.q.name.length s.q.c, .int .i64 o.q.type, .int .i64 o.q.cls] 25)).cell? ⟨q + 1, 8, none⟩ = some (.slice t.Q m.qs.length t.qc) := (HM5.out.cell 8).trans rfl
  have f8 : (w4.alloc (.cells #[.slice s.q.A o.q.name.length s.q.c, .int .i64 o.q.type, .int .i64 o.q.cls] 25)).frozen? ⟨q + 1, 8, none⟩ = false := HM5.out.free 8
  have c8' : w4.cell? ⟨q + 1, 8, none⟩ = some (.slice t.Q m.qs.length t.qc) := (HM4.out.cell 8).trans rfl
  have f8' : w4.frozen? ⟨q + 1, 8, none⟩ = false := HM4.out.free 8
  have hlt4 : q + 1 < w4.heap.size := HM4.out.lt
  go_upto_region 6 with (fail)
  obtain ⟨u4, hu4⟩ : ∃ u, u = w4.setCell ⟨q + 1, 8, none⟩ (.slice (some ⟨w4.heap.size, 0, none⟩) 1 1) := ⟨_, rfl⟩
  have hMu : MRow u4 (q + 1) (gueS t w4.heap.size) (gueM o m (d : Int)) := by rw [hu4]; exact MRow.put HM4.out 8 _ _ _ rfl
  have hCu : Chg (fun k => k = q + 1) w4 u4 := by rw [hu4]; exact chg_g1 _ _ _ _
  have hzu : u4.heap.size = w4.heap.size := by rw [hu4]; simp
  have hOu : ORow u4 q s o := hCu.heap HO4.out (by omega)
  have hBu : Below w.heap.size w u4 := HB4.out.trans (hCu.below (fun x hx => by have := HQE.out; omega) (by have := HB4.out.size; exact this))
  obtain ⟨w5, hw5⟩ : ∃ u, u = u4.alloc (.cells (qCells s.q o.q) 25) := ⟨_, rfl⟩
  have hb5 : Below u4.heap.size u4 w5 := by rw [hw5]; exact bl.alloc (Nat.le_refl _) _
  have hI5 : MIn (ltS w5) w5 (gueS t w4.heap.size) (gueM o m (d : Int)) := by
    have h1 := one_qu (HIW.out u4 hBu).q (fun b hb => Nat.lt_of_lt_of_le hb hBu.size)
    rw [← hw5, hzu] at h1
    have h2 : MIn (ltS w5) w5 t m := ((HMW.out u4 hBu).below hb5 (fun b hb => Nat.lt_of_lt_of_le hb hBu.size)).mono (fun b hb => Nat.lt_of_lt_of_le (Nat.lt_of_lt_of_le hb hBu.size) hb5.size)
    have z : i64S 0 := ⟨by omega, by omega⟩
    exact ⟨h1, h2.a, h2.u, h2.x, ⟨Nat.le_refl _, show (1 : Nat) ≤ maxLen by decide⟩, h2.ca, h2.cu, h2.cx, ⟨by show (-9223372036854775808 : Int) ≤ (d : Int); omega, by show (d : Int) ≤ 9223372036854775807; omega⟩, z, z, h2.is⟩
  have HM5 : Hid (MRow w5 (q + 1) (gueS t w4.heap.size) (gueM o m (d : Int))) := hMu.below hb5
  have HO5 : Hid (ORow w5 q s o) := hOu.below hb5
  have HB5 : Hid (Below w.heap.size w w5) := nx hBu hb5
  have henc := rEncode_big (gueS t w4.heap.size) (gueM o m (d : Int)) w5 hI5 (fun b hb => hb) HLT.out HBG.out
  have HEZ := Lib.hid (@encP_zero18 (gueM o m (d : Int)))
  obtain ⟨B, hB⟩ : ∃ B, B = (encP (gueM o m (d : Int))).1 := ⟨_, rfl⟩
  obtain ⟨er, her⟩ : ∃ er, er = (encP (gueM o m (d : Int))).2 := ⟨_, rfl⟩
  rw [← hB, ← her] at henc HEZ
  have HENC : Hid (Calls Try.prog 15 #[.agg #[.int .i64 (d : Int), .bool true, .int .i64 0, .bool m.aa, .bool false, .bool m.rd, .bool m.ra, .int .i64 0, .slice (some ⟨w4.heap.size, 0, none⟩) 1 1, .slice t.A m.an.length t.ac, .slice t.U m.au.length t.uc, .slice t.X m.ex.length t.xc, .bool m.edns, .int .i64 m.size]] w5 (RetP (fun v w' => ∃ bv, v = .tuple #[bv, .int .i64 er] ∧ RdSl w' bv B) w5)) := henc
  unfold qCells at hw5
  rw [← hu4, ← hw5]
  clear hu4 hw5 hB her henc hI5 hb5 hBu hOu hzu hCu hMu c8 f8 c8' f8' x0 x1 x2 x3 x4 x5 hlt4
  generalize w4.heap.size = g4 at HM5 HENC ⊢
  obtain ⟨x0, x1, x2, x3, x4, x5⟩ := HO5.out.cells
  obtain ⟨m0, m1, m2, m3, m4, m5, m6, m7, m8, m9, m10, m11, m12, m13⟩ := HM5.out.cells
  simp only [gueM, gueS, List.length_singleton] at m0 m1 m2 m3 m4 m5 m6 m7 m8 m9 m10 m11 m12 m13
  clear HM4
  go_upto_region 7 with (first
    | (go_at_call 15; refine HENC.out.mono ?_; rintro e w7 ⟨v7, rfl, ⟨bv7, rfl, ho7⟩, hb7⟩; have HRS := Lib.hid ho7; obtain ⟨A6, c6, hv6, -, -, -⟩ := ho7; subst hv6; have HB57 := Lib.hid hb7; clear hb7)
    | fail)
  clear x0 x1 x2 x3 x4 x5 m0 m1 m2 m3 m4 m5 m6 m7 m8 m9 m10 m11 m12 m13 HM5
  have HB7 := Lib.hid (nx HB5.out HB57.out)
  by_cases he : er = 0
  rotate_left
  · have heb : (er != 0) = true := by simp [he]
    go_wp2
    go_ret
    exact ⟨rfl, HB7.out⟩
  · subst he
    obtain ⟨hfine, hdec, hBl⟩ := HEZ.out rfl
    obtain ⟨n, hn⟩ : ∃ n, n = B.length := ⟨_, rfl⟩
    have HRB : Hid (RdB w7 A6 n B ∧ n ≤ c6 ∧ c6 ≤ maxLen ∧ n ≤ 65535 ∧ n = B.length) := by
      obtain ⟨A', c', hv, h1, h2, h3⟩ := HRS.out
      injection hv with e1 e2 e3
      subst e1 e3
      rw [← hn] at h1 h2 hBl
      exact ⟨h1, h2, h3, hBl, hn⟩
    rw [← hn] at HRS ⊢
    have HDEC := Lib.hid hdec
    clear hdec hBl hn hfine
    have HO7 : Hid (ORow w7 q s o) := HO5.out.below HB57.out
    have HE0 := Lib.hid (own_empty w7)
    have HBA : Hid (Below w7.heap.size w7 (w7.alloc (.cells #[] 5))) := bl.alloc (Nat.le_refl _) _
    have HRA : Hid (RdB (w7.alloc (.cells #[] 5)) s.A o.addr.length o.addr) := els_bytes (So := ltS w) (Si := ltS w) (HIW.out _ (nx HB7.out HBA.out)).a
    obtain ⟨x0, x1, x2, x3, x4, x5⟩ := (HO7.out.below HBA.out).cells
    have h48 : o.addr.length ≤ 140737488355328 := by have := HN.out.2; omega
    have hal : 0 < ([] ++ o.addr : List UInt8).length := by have := HN.out.2; simp; omega
    have HAL := Lib.hid hal
    clear hal
    go_upto_region 10 with (first
      | ((with_reducible show wpList _ _ _ (⟨some 68, _, _, _, _, _⟩ :: _) _ _); refine wpL_appB rfl (.tmp 65) (.tmp 67) rfl w7.heap.size (.slice (some ⟨w7.heap.size, 0, none⟩) 0 0) [] rfl HE0.out s.A o.addr.length s.c o.addr rfl HRA.out (by simp; omega) HBA.out.size ?_; intro v8 w8 hown8 hg8 _; have HB78 := Lib.hid (HBA.out.grown hg8 HBA.out.size (fun j hj => (World.ownsRow.lt HE0.out j hj).1)); obtain ⟨ga, ca, hv8, hga1, hga2, hl8, hm8, -⟩ := OwnB.flat hown8 HAL.out; rw [List.nil_append] at hv8 hl8 hown8; subst hv8; have HOA := Lib.hid hown8; have HCA : Hid (o.addr.length ≤ ca ∧ ca ≤ maxLen ∧ w7.heap.size ≤ ga ∧ ga < w8.heap.size) := (⟨hl8, hm8, hga1, hga2⟩); clear hown8 hg8 hl8 hm8 hga1 hga2)
      | fail)
    clear x0 x1 x2 x3 x4 x5 h48
    have hport := HPORT0.out
    have hid := HID0.out
    obtain ⟨w9, hw9⟩ : ∃ u, u = w8.alloc (.cells #[.slice (some ⟨ga, 0, none⟩) o.addr.length ca, .int .i64 (p : Int), .slice A6 n c6] 38) := ⟨_, rfl⟩
    have hb9 : Below w8.heap.size w8 w9 := by rw [hw9]; exact bl.alloc (Nat.le_refl _) _
    have HDR : Hid (w9.heap[w8.heap.size]? = some (.cells #[.slice (some ⟨ga, 0, none⟩) o.addr.length ca, .int .i64 (p : Int), .slice A6 n c6] 38 (0, 0))) := by show _ = _; rw [hw9]; exact heap_alloc_new w8 _
    have HB89 := Lib.hid hb9
    have HB9 : Hid (Below w.heap.size w w9) := nx (nx HB7.out HB78.out) hb9
    have HGD : Hid (ga < w8.heap.size) := HCA.out.2.2.2
    rw [← hw9]
    clear hw9 hb9
    generalize w8.heap.size = dg at HDR HGD ⊢
    have hd9 : ∀ w', Below w9.heap.size w9 w' → (w'.cell? ⟨q, 0, none⟩ = some (.slice s.A o.addr.length s.c) ∧ w'.cell? ⟨q, 1, none⟩ = some (.int .i64 o.port) ∧ w'.cell? ⟨q, 2, none⟩ = some (.int .i64 o.id) ∧ w'.cell? ⟨q, 3, none⟩ = some (.slice s.q.A o.q.name.length s.q.c) ∧ w'.cell? ⟨q, 4, none⟩ = some (.int .i64 o.q.type) ∧ w'.cell? ⟨q, 5, none⟩ = some (.int .i64 o.q.cls) ∧ w'.cell? ⟨dg, 0, none⟩ = some (.slice (some ⟨ga, 0, none⟩) o.addr.length ca) ∧ w'.cell? ⟨dg, 1, none⟩ = some (.int .i64 (p : Int)) ∧ w'.cell? ⟨dg, 2, none⟩ = some (.slice A6 n c6)) := fun w' hw => by
      have g := (hw.block dg (Array.getElem?_eq_some_iff.1 HDR.out).1).trans HDR.out
      obtain ⟨z0, z1, z2, z3, z4, z5⟩ := ((HO7.out.below (nx HB78.out HB89.out)).below hw).cells
      exact ⟨z0, z1, z2, z3, z4, z5, (cell_of_row _ _ _ _ _ _ g).trans rfl, (cell_of_row _ _ _ _ _ _ g).trans rfl, (cell_of_row _ _ _ _ _ _ g).trans rfl⟩
    have HDDw9 := Lib.hid hd9
    clear hd9
    have HOIw9 : Hid (∀ w', Below w9.heap.size w9 w' → Calls Try.prog 17 #[.agg #[.slice s.A o.addr.length s.c, .int .i64 o.port, .int .i64 o.id, .slice s.q.A o.q.name.length s.q.c, .int .i64 o.q.type, .int .i64 o.q.cls]] w' (RetP (fun v w'' => ∃ s', v = ouV s' o ∧ OIn (geS w'.heap.size w'') w'' s' o) w')) := fun w' hw => own18_any s o w' (HIW.out w' (nx HB9.out hw)) (fun b hb => Nat.lt_of_lt_of_le hb (nx HB9.out hw).size) HN.out.1 (by have := HN.out.2; omega)
    have HBT7 : Hid (∀ b off, A6 = some ⟨b, off, none⟩ → b < w7.heap.size) := fun b off e => by
      have hl := dec_12 HDEC.out
      obtain ⟨b', off', e', hr⟩ := HRB.out.1.2 (by rw [List.length_map]; omega)
      rw [e] at e'
      injection e' with e'
      injection e' with e1 e2
      subst e1 e2
      have hc := hr 0 (bV (B[0]'(by omega))) (by rw [List.getElem?_map, List.getElem?_eq_getElem (by omega)]; rfl)
      exact World.block_lt_of_cell? w7 _ hc
    have HBTT : Hid (∀ b off, A6 = some ⟨b, off, none⟩ → b < w8.heap.size) := fun b off e => Nat.lt_of_lt_of_le (HBT7.out b off e) HB78.out.size
    have HPE : Hid ((p : Int) = o.port) := hport
    have HID : Hid ((d : Int) ≠ o.id) := hid
    have tp : (o.port == (p : Int)) = true := by simp [hport]
    have ti : (o.id == (d : Int)) = false := by simp; exact fun e => hid e.symm
    clear hid
    have HACw9 : Hid (∀ (w7 : World) (s7 : OuS) (S : Nat → Prop), Below w9.heap.size w9 w7 → OIn S w7 s7 o → (∀ b, S b → b < w7.heap.size) → Calls Try.prog 16 #[.agg #[.slice s7.A o.addr.length s7.c, .int .i64 o.port, .int .i64 o.id, .slice s7.q.A o.q.name.length s7.q.c, .int .i64 o.q.type, .int .i64 o.q.cls], .agg #[.slice (some ⟨ga, 0, none⟩) o.addr.length ca, .int .i64 (p : Int), .slice A6 n c6]] w7 (RetP (fun v _ => ∃ sm : MS, v = .tuple #[.agg #[.int .i64 0, .bool false, .int .i64 0, .bool false, .bool false, .bool false, .bool false, .int .i64 0, .slice none 0 0, .slice none 0 0, .slice none 0 0, .slice none 0 0, .bool false, .int .i64 0], .bool false]) w7)) := fun w7 s7 S hb hi hs => by
      rw [HPE.out]
      refine Calls.mono (accept_id s7 o (some ⟨ga, 0, none⟩) o.addr.length ca o.addr 0 A6 n c6 B w7 hi hs (((OwnB.rd HOA.out).1.below HB89.out).below hb) ((HRB.out.1.below (nx HB78.out HB89.out)).below hb) (fun b off e => Nat.lt_of_lt_of_le (HBTT.out b off e) (nx HB89.out hb).size) ⟨HRB.out.2.1, Nat.le_trans HRB.out.2.2.1 (by unfold maxLen; omega)⟩ (Nat.le_trans HRB.out.2.2.2.1 (by omega)) HN.out.2 rfl (gueM o m (d : Int)) HDEC.out rfl rfl rfl HID.out) ?_
      rintro e w8 ⟨v8, rfl, rfl, hb8⟩
      exact ⟨_, rfl, ⟨MS.nil, rfl⟩, hb8⟩
    clear hport
    go_upto_region 10 with (fail)
    go_cut [12, 13] (fun pv bv wc => ∃ (g : Nat) (sm : MS), pv = .pointer (some ⟨g, 0, none⟩) ∧ bv = .bool false ∧ Hid (AccSt w9 wc g #[.int .i64 0, .bool false, .int .i64 0, .bool false, .bool false, .bool false, .bool false, .int .i64 0, .slice none 0 0, .slice none 0 0, .slice none 0 0, .slice none 0 0, .bool false, .int .i64 0]))
    case first =>
      have HZ0 : Hid (AccSt w9 (w9.alloc (.cells #[.int .i64 0, .bool false, .int .i64 0, .bool false, .bool false, .bool false, .bool false, .int .i64 0, .slice none 0 0, .slice none 0 0, .slice none 0 0, .slice none 0 0, .bool false, .int .i64 0] 31)) w9.heap.size #[.int .i64 0, .bool false, .int .i64 0, .bool false, .bool false, .bool false, .bool false, .int .i64 0, .slice none 0 0, .slice none 0 0, .slice none 0 0, .slice none 0 0, .bool false, .int .i64 0]) := AccSt.after bl _
      have HZ1 : Hid (AccSt w9 (w9.alloc (.cells #[.int .i64 0, .bool false, .int .i64 0, .bool false, .bool false, .bool false, .bool false, .int .i64 0, .slice none 0 0, .slice none 0 0, .slice none 0 0, .slice none 0 0, .bool false, .int .i64 0] 31)).drew w9.heap.size #[.int .i64 0, .bool false, .int .i64 0, .bool false, .bool false, .bool false, .bool false, .int .i64 0, .slice none 0 0, .slice none 0 0, .slice none 0 0, .slice none 0 0, .bool false, .int .i64 0]) := AccSt.below HZ0.out bl.drew
      have q1 := HDDw9.out w9 bl
      have q2 := HDDw9.out w9.drew bl.drew
      have q3 := HDDw9.out (w9.alloc (.cells #[.int .i64 0, .bool false, .int .i64 0, .bool false, .bool false, .bool false, .bool false, .int .i64 0, .slice none 0 0, .slice none 0 0, .slice none 0 0, .slice none 0 0, .bool false, .int .i64 0] 31)) HZ0.out.bw
      have q4 := HDDw9.out (w9.alloc (.cells #[.int .i64 0, .bool false, .int .i64 0, .bool false, .bool false, .bool false, .bool false, .int .i64 0, .slice none 0 0, .slice none 0 0, .slice none 0 0, .slice none 0 0, .bool false, .int .i64 0] 31)).drew HZ1.out.bw
      go_region_held3 (fun w' => w'.cell? ⟨q, 0, none⟩ = some (.slice s.A o.addr.length s.c) ∧ w'.cell? ⟨q, 1, none⟩ = some (.int .i64 o.port) ∧ w'.cell? ⟨q, 2, none⟩ = some (.int .i64 o.id) ∧ w'.cell? ⟨q, 3, none⟩ = some (.slice s.q.A o.q.name.length s.q.c) ∧ w'.cell? ⟨q, 4, none⟩ = some (.int .i64 o.q.type) ∧ w'.cell? ⟨q, 5, none⟩ = some (.int .i64 o.q.cls) ∧ w'.cell? ⟨dg, 0, none⟩ = some (.slice (some ⟨ga, 0, none⟩) o.addr.length ca) ∧ w'.cell? ⟨dg, 1, none⟩ = some (.int .i64 (p : Int)) ∧ w'.cell? ⟨dg, 2, none⟩ = some (.slice A6 n c6))
        (first
          | with_reducible exact q1
          | with_reducible exact q2
          | with_reducible exact q3
          | with_reducible exact q4
          | with_reducible exact q5
          | with_reducible exact q6
          | with_reducible exact q7
          | with_reducible exact q8
          | with_reducible exact q9
          | with_reducible exact q10
          | fail)
        (first
          | (go_at_call 16; (with_reducible refine (HACw9.out (w7.alloc (.cells #[.int .i64 0, .bool false, .int .i64 0, .bool false, .bool false, .bool false, .bool false, .int .i64 0, .slice none 0 0, .slice none 0 0, .slice none 0 0, .slice none 0 0, .bool false, .int .i64 0] 31)) s7 _ HZ5.out.bw HI5.out HS5.out).mono ?_); rintro e w8 ⟨v8, rfl, ⟨sm, rfl⟩, hb8⟩; have HZ3 := Lib.hid (AccSt.below HZ5.out hb8); have q8 := HDDw9.out w8 HZ3.out.bw; have m0 : w8.cell? ⟨w7.heap.size, 0, none⟩ = some (.int .i64 0) := (AccSt.cell HZ3.out 0).trans rfl; have m1 : w8.cell? ⟨w7.heap.size, 1, none⟩ = some (.bool false) := (AccSt.cell HZ3.out 1).trans rfl; have m2 : w8.cell? ⟨w7.heap.size, 2, none⟩ = some (.int .i64 0) := (AccSt.cell HZ3.out 2).trans rfl; have m3 : w8.cell? ⟨w7.heap.size, 3, none⟩ = some (.bool false) := (AccSt.cell HZ3.out 3).trans rfl; have m4 : w8.cell? ⟨w7.heap.size, 4, none⟩ = some (.bool false) := (AccSt.cell HZ3.out 4).trans rfl; have m5 : w8.cell? ⟨w7.heap.size, 5, none⟩ = some (.bool false) := (AccSt.cell HZ3.out 5).trans rfl; have m6 : w8.cell? ⟨w7.heap.size, 6, none⟩ = some (.bool false) := (AccSt.cell HZ3.out 6).trans rfl; have m7 : w8.cell? ⟨w7.heap.size, 7, none⟩ = some (.int .i64 0) := (AccSt.cell HZ3.out 7).trans rfl; have m8 : w8.cell? ⟨w7.heap.size, 8, none⟩ = some (.slice none 0 0) := (AccSt.cell HZ3.out 8).trans rfl; have m9 : w8.cell? ⟨w7.heap.size, 9, none⟩ = some (.slice none 0 0) := (AccSt.cell HZ3.out 9).trans rfl; have m10 : w8.cell? ⟨w7.heap.size, 10, none⟩ = some (.slice none 0 0) := (AccSt.cell HZ3.out 10).trans rfl; have m11 : w8.cell? ⟨w7.heap.size, 11, none⟩ = some (.slice none 0 0) := (AccSt.cell HZ3.out 11).trans rfl; have m12 : w8.cell? ⟨w7.heap.size, 12, none⟩ = some (.bool false) := (AccSt.cell HZ3.out 12).trans rfl; have m13 : w8.cell? ⟨w7.heap.size, 13, none⟩ = some (.int .i64 0) := (AccSt.cell HZ3.out 13).trans rfl; have fz := AccSt.free HZ3.out; have HF := Lib.hid (AccSt.ahead HZ3.out rfl (.int .i64 0) (.bool false) (.int .i64 0) (.bool false) (.bool false) (.bool false) (.bool false) (.int .i64 0) (.slice none 0 0) (.slice none 0 0) (.slice none 0 0) (.slice none 0 0) (.bool false) (.int .i64 0)); have q9 := HDDw9.out _ HF.out.bw; unfold put14 at HF q9)
          | (go_at_call 16; (with_reducible refine (HACw9.out w7 s7 _ HB7.out HI7.out HS7.out).mono ?_); rintro e w8 ⟨v8, rfl, ⟨sm, rfl⟩, hb8⟩; have HB8 := Lib.hid (nx HB7.out hb8); have q8 := HDDw9.out w8 HB8.out; have HF := Lib.hid (AccSt.after HB8.out #[.int .i64 0, .bool false, .int .i64 0, .bool false, .bool false, .bool false, .bool false, .int .i64 0, .slice none 0 0, .slice none 0 0, .slice none 0 0, .slice none 0 0, .bool false, .int .i64 0]); have q9 := HDDw9.out _ HF.out.bw; have HY := Lib.hid (AccSt.after HB8.out #[.int .i64 0, .bool false, .int .i64 0, .bool false, .bool false, .bool false, .bool false, .int .i64 0, .slice none 0 0, .slice none 0 0, .slice none 0 0, .slice none 0 0, .bool false, .int .i64 0]); have q10 := HDDw9.out _ HY.out.bw)
          | (go_at_call 16; (with_reducible refine (HACw9.out w6a s7 _ HZ2.out.bw HI7.out HS7.out).mono ?_); rintro e w8 ⟨v8, rfl, ⟨sm, rfl⟩, hb8⟩; have HZ3 := Lib.hid (AccSt.below HZ2.out hb8); have q8 := HDDw9.out w8 HZ3.out.bw; have m0 : w8.cell? ⟨w9.heap.size, 0, none⟩ = some (.int .i64 0) := (AccSt.cell HZ3.out 0).trans rfl; have m1 : w8.cell? ⟨w9.heap.size, 1, none⟩ = some (.bool false) := (AccSt.cell HZ3.out 1).trans rfl; have m2 : w8.cell? ⟨w9.heap.size, 2, none⟩ = some (.int .i64 0) := (AccSt.cell HZ3.out 2).trans rfl; have m3 : w8.cell? ⟨w9.heap.size, 3, none⟩ = some (.bool false) := (AccSt.cell HZ3.out 3).trans rfl; have m4 : w8.cell? ⟨w9.heap.size, 4, none⟩ = some (.bool false) := (AccSt.cell HZ3.out 4).trans rfl; have m5 : w8.cell? ⟨w9.heap.size, 5, none⟩ = some (.bool false) := (AccSt.cell HZ3.out 5).trans rfl; have m6 : w8.cell? ⟨w9.heap.size, 6, none⟩ = some (.bool false) := (AccSt.cell HZ3.out 6).trans rfl; have m7 : w8.cell? ⟨w9.heap.size, 7, none⟩ = some (.int .i64 0) := (AccSt.cell HZ3.out 7).trans rfl; have m8 : w8.cell? ⟨w9.heap.size, 8, none⟩ = some (.slice none 0 0) := (AccSt.cell HZ3.out 8).trans rfl; have m9 : w8.cell? ⟨w9.heap.size, 9, none⟩ = some (.slice none 0 0) := (AccSt.cell HZ3.out 9).trans rfl; have m10 : w8.cell? ⟨w9.heap.size, 10, none⟩ = some (.slice none 0 0) := (AccSt.cell HZ3.out 10).trans rfl; have m11 : w8.cell? ⟨w9.heap.size, 11, none⟩ = some (.slice none 0 0) := (AccSt.cell HZ3.out 11).trans rfl; have m12 : w8.cell? ⟨w9.heap.size, 12, none⟩ = some (.bool false) := (AccSt.cell HZ3.out 12).trans rfl; have m13 : w8.cell? ⟨w9.heap.size, 13, none⟩ = some (.int .i64 0) := (AccSt.cell HZ3.out 13).trans rfl; have fz := AccSt.free HZ3.out; have HF := Lib.hid (AccSt.ahead HZ3.out rfl (.int .i64 0) (.bool false) (.int .i64 0) (.bool false) (.bool false) (.bool false) (.bool false) (.int .i64 0) (.slice none 0 0) (.slice none 0 0) (.slice none 0 0) (.slice none 0 0) (.bool false) (.int .i64 0)); have q9 := HDDw9.out _ HF.out.bw; unfold put14 at HF q9)
          | (go_at_call 17; (with_reducible refine (HOIw9.out w9.drew bl.drew).mono ?_); rintro e w7 ⟨v7, rfl, ⟨s7, rfl, hi7⟩, hb7⟩; unfold ouV ouCells; have HI7 := Lib.hid hi7; have HS7 : Hid (∀ b, geS w9.drew.heap.size w7 b → b < w7.heap.size) := (fun b hb => hb.2); have HB7 : Hid (Below w9.heap.size w9 w7) := bl.drew.trans hb7; have q5 := HDDw9.out w7 HB7.out; have HZ5 : Hid (AccSt w9 (w7.alloc (.cells #[.int .i64 0, .bool false, .int .i64 0, .bool false, .bool false, .bool false, .bool false, .int .i64 0, .slice none 0 0, .slice none 0 0, .slice none 0 0, .slice none 0 0, .bool false, .int .i64 0] 31)) w7.heap.size #[.int .i64 0, .bool false, .int .i64 0, .bool false, .bool false, .bool false, .bool false, .int .i64 0, .slice none 0 0, .slice none 0 0, .slice none 0 0, .slice none 0 0, .bool false, .int .i64 0]) := AccSt.after HB7.out _; have HI5 := Lib.hid (hi7.below (bl.alloc (Nat.le_refl _) (.cells #[.int .i64 0, .bool false, .int .i64 0, .bool false, .bool false, .bool false, .bool false, .int .i64 0, .slice none 0 0, .slice none 0 0, .slice none 0 0, .slice none 0 0, .bool false, .int .i64 0] 31)) (fun b hb => hb.2)); have HS5 : Hid (∀ b, geS w9.drew.heap.size w7 b → b < (w7.alloc (.cells #[.int .i64 0, .bool false, .int .i64 0, .bool false, .bool false, .bool false, .bool false, .int .i64 0, .slice none 0 0, .slice none 0 0, .slice none 0 0, .slice none 0 0, .bool false, .int .i64 0] 31)).heap.size) := (fun b hb => Nat.lt_of_lt_of_le hb.2 (bl.alloc (Nat.le_refl _) (.cells #[.int .i64 0, .bool false, .int .i64 0, .bool false, .bool false, .bool false, .bool false, .int .i64 0, .slice none 0 0, .slice none 0 0, .slice none 0 0, .slice none 0 0, .bool false, .int .i64 0] 31)).size); have q6 := HDDw9.out _ HZ5.out.bw)
          | (go_at_call 17; (with_reducible refine (HOIw9.out (w9.alloc (.cells #[.int .i64 0, .bool false, .int .i64 0, .bool false, .bool false, .bool false, .bool false, .int .i64 0, .slice none 0 0, .slice none 0 0, .slice none 0 0, .slice none 0 0, .bool false, .int .i64 0] 31)).drew HZ1.out.bw).mono ?_); rintro e w6a ⟨v7, rfl, ⟨s7, rfl, hi7⟩, hb7⟩; unfold ouV ouCells; have HI7 := Lib.hid hi7; have HS7 : Hid (∀ b, geS (w9.alloc (.cells #[.int .i64 0, .bool false, .int .i64 0, .bool false, .bool false, .bool false, .bool false, .int .i64 0, .slice none 0 0, .slice none 0 0, .slice none 0 0, .slice none 0 0, .bool false, .int .i64 0] 31)).drew.heap.size w6a b → b < w6a.heap.size) := (fun b hb => hb.2); have HZ2 := Lib.hid (AccSt.below HZ1.out hb7); have q5 := HDDw9.out w6a HZ2.out.bw)
          | fail)
      all_goals
        go_wp2
        go_meet
        case rel => exact ⟨_, sm, rfl, rfl, HF⟩
    case rest =>
      obtain ⟨gm, sm, rfl, rfl, HAS⟩ := hcut
      obtain ⟨x0, x1, x2, x3, x4, x5, x6, x7, x8⟩ := HDDw9.out wc HAS.out.bw
      have HOW : Hid (OwnB wc w7.heap.size (.slice (some ⟨ga, 0, none⟩) o.addr.length ca) o.addr) := (HOA.out.below HB89.out).below HAS.out.bw
      have h3n : 3 < o.addr.length := by have := HN.out.2; omega
      have h3i : (3 : Int) < (o.addr.length : Int) := by omega
      obtain ⟨kb, hkb⟩ : ∃ k, k = (o.addr[3]'h3n).toNat := ⟨_, rfl⟩
      have x9 : wc.cell? ⟨ga, 3, none⟩ = some (.int .u8 (kb : Int)) := by rw [hkb]; exact OwnB.cell HOW.out (k := 3) h3n
      have f9 := OwnB.free HOW.out 3
      have HKB := Lib.hid hkb
      have hkl : kb < 256 := by rw [hkb]; exact UInt8.toNat_lt _
      clear hkb
      go_upto_region 12 with (fail)
      go_still_tail 8, (by kernel_rfl)
      change wpList _ _ _ _ _ wc.drew
      go_upto_region 13 with (fail)
      obtain ⟨wD, hwD⟩ : ∃ u, u = (wc.setCell ⟨ga, 3, none⟩ (.int .u8 (((kb : Int) + 1) % 256))).drew := ⟨_, rfl⟩
      obtain ⟨y, hy⟩ : ∃ y : UInt8, y = o.addr[3]'h3n + 1 := ⟨_, rfl⟩
      have hyv : ((kb : Int) + 1) % 256 = ((y.toNat : Nat) : Int) := by
        rw [hy, UInt8.toNat_add, ← HKB.out]
        show _ = (((kb + 1) % 256 : Nat) : Int)
        omega
      have hne : o.addr.set 3 y ≠ o.addr := fun e => by
        have h1 : (o.addr.set 3 y)[3]? = some y := by rw [List.getElem?_set_self h3n]
        rw [e, List.getElem?_eq_getElem h3n] at h1
        injection h1 with h1
        rw [← h1, ← HKB.out] at hyv
        omega
      have hcD : Chg (fun k => k = ga) wc wD := by rw [hwD]; exact ((Chg.refl (fun k => k = ga) wc).setCell (p := ⟨ga, 3, none⟩) (Or.inl rfl) _).drew
      have HOD : Hid (OwnB wD w7.heap.size (.slice (some ⟨ga, 0, none⟩) o.addr.length ca) (o.addr.set 3 y)) := by
        show OwnB _ _ _ _
        rw [hwD, hyv]
        exact (OwnB.set HOW.out 3 y).drew
      have hs7 := HB7.out.size
      have hs9c := (nx HB9.out HAS.out.bw).size
      have hga := HCA.out.2.2.1
      have HBD : Hid (Below w.heap.size w wD) := (nx HB9.out HAS.out.bw).trans (hcD.below (fun x hx => by omega) hs9c)
      have hq7 := HO7.out.lt
      have HRD : Hid (ORow wD q s o) := hcD.heap (((HO7.out.below (nx HB78.out HB89.out))).below HAS.out.bw) (by omega)
      have HDW : Hid (wD.heap[dg]? = some (.cells #[.slice (some ⟨ga, 0, none⟩) o.addr.length ca, .int .i64 (p : Int), .slice A6 n c6] 38 (0, 0))) := hcD.heap ((HAS.out.bw.block dg (Array.getElem?_eq_some_iff.1 HDR.out).1).trans HDR.out) (by have := HGD.out; omega)
      have HBD6 : Hid (RdB wD A6 n B) := RdB.chgP ((HRB.out.1.below (nx HB78.out HB89.out)).below HAS.out.bw) hcD (fun b off e => by have := HBT7.out b off e; omega)
      have HBW : Hid (∀ b off, A6 = some ⟨b, off, none⟩ → b < wD.heap.size) := fun b off e => Nat.lt_of_lt_of_le (Nat.lt_of_lt_of_le (HBT7.out b off e) (nx HB78.out (nx HB89.out HAS.out.bw)).size) hcD.size
      have HNE : Hid (o.addr.set 3 y ≠ o.addr) := hne
      have HGL : Hid (∀ b off, (some ⟨ga, 0, none⟩ : Option Addr) = some ⟨b, off, none⟩ → b < wD.heap.size) := ownB_blt18 HOD.out
      have hyl : (o.addr.set 3 y).length = o.addr.length := List.length_set
      rw [← hwD]
      clear hwD hcD hs7 hs9c hga hq7 hne hyv hy HKB hkl x9 f9 h3i x0 x1 x2 x3 x4 x5 x6 x7 x8 HDDw9 HOIw9 HACw9
      have HDDwD : Hid (∀ w', Below wD.heap.size wD w' → (w'.cell? ⟨q, 0, none⟩ = some (.slice s.A o.addr.length s.c) ∧ w'.cell? ⟨q, 1, none⟩ = some (.int .i64 o.port) ∧ w'.cell? ⟨q, 2, none⟩ = some (.int .i64 o.id) ∧ w'.cell? ⟨q, 3, none⟩ = some (.slice s.q.A o.q.name.length s.q.c) ∧ w'.cell? ⟨q, 4, none⟩ = some (.int .i64 o.q.type) ∧ w'.cell? ⟨q, 5, none⟩ = some (.int .i64 o.q.cls) ∧ w'.cell? ⟨dg, 0, none⟩ = some (.slice (some ⟨ga, 0, none⟩) o.addr.length ca) ∧ w'.cell? ⟨dg, 1, none⟩ = some (.int .i64 (p : Int)) ∧ w'.cell? ⟨dg, 2, none⟩ = some (.slice A6 n c6))) := fun w' hw => by
        have g := (hw.block dg (Array.getElem?_eq_some_iff.1 HDW.out).1).trans HDW.out
        obtain ⟨z0, z1, z2, z3, z4, z5⟩ := (HRD.out.below hw).cells
        exact ⟨z0, z1, z2, z3, z4, z5, (cell_of_row _ _ _ _ _ _ g).trans rfl, (cell_of_row _ _ _ _ _ _ g).trans rfl, (cell_of_row _ _ _ _ _ _ g).trans rfl⟩
      have HOIwD : Hid (∀ w', Below wD.heap.size wD w' → Calls Try.prog 17 #[.agg #[.slice s.A o.addr.length s.c, .int .i64 o.port, .int .i64 o.id, .slice s.q.A o.q.name.length s.q.c, .int .i64 o.q.type, .int .i64 o.q.cls]] w' (RetP (fun v w'' => ∃ s', v = ouV s' o ∧ OIn (geS w'.heap.size w'') w'' s' o) w')) := fun w' hw => own18_any s o w' (HIW.out w' (nx HBD.out hw)) (fun b hb => Nat.lt_of_lt_of_le hb (nx HBD.out hw).size) HN.out.1 (by have := HN.out.2; omega)
      have HACwD : Hid (∀ (w7 : World) (s7 : OuS) (S : Nat → Prop), Below wD.heap.size wD w7 → OIn S w7 s7 o → (∀ b, S b → b < w7.heap.size) → Calls Try.prog 16 #[.agg #[.slice s7.A o.addr.length s7.c, .int .i64 o.port, .int .i64 o.id, .slice s7.q.A o.q.name.length s7.q.c, .int .i64 o.q.type, .int .i64 o.q.cls], .agg #[.slice (some ⟨ga, 0, none⟩) o.addr.length ca, .int .i64 (p : Int), .slice A6 n c6]] w7 (RetP (fun v _ => ∃ sm : MS, v = .tuple #[.agg #[.int .i64 0, .bool false, .int .i64 0, .bool false, .bool false, .bool false, .bool false, .int .i64 0, .slice none 0 0, .slice none 0 0, .slice none 0 0, .slice none 0 0, .bool false, .int .i64 0], .bool false]) w7)) := fun w7 s7 S hb hi hs => by
        refine Calls.mono (accept_addr s7 o (some ⟨ga, 0, none⟩) o.addr.length ca (o.addr.set 3 y) (p : Int) A6 n c6 B w7 hi hs (by have h := (OwnB.rd HOD.out).1.below hb; exact h) (HBD6.out.below hb) (fun b off e => Nat.lt_of_lt_of_le (HBW.out b off e) hb.size) ⟨HRB.out.2.1, Nat.le_trans HRB.out.2.2.1 (by unfold maxLen; omega)⟩ (Nat.le_trans HRB.out.2.2.2.1 (by omega)) HN.out.2 HNE.out) ?_
        rintro e w8 ⟨v8, rfl, rfl, hb8⟩
        exact ⟨_, rfl, ⟨MS.nil, rfl⟩, hb8⟩
      go_upto_region 13 with (fail)
      go_cut [15, 16] (fun pv bv wc => ∃ (g : Nat) (sm : MS), pv = .pointer (some ⟨g, 0, none⟩) ∧ bv = .bool false ∧ Hid (AccSt wD wc g #[.int .i64 0, .bool false, .int .i64 0, .bool false, .bool false, .bool false, .bool false, .int .i64 0, .slice none 0 0, .slice none 0 0, .slice none 0 0, .slice none 0 0, .bool false, .int .i64 0]))
      case first =>
        have HZ0 : Hid (AccSt wD (wD.alloc (.cells #[.int .i64 0, .bool false, .int .i64 0, .bool false, .bool false, .bool false, .bool false, .int .i64 0, .slice none 0 0, .slice none 0 0, .slice none 0 0, .slice none 0 0, .bool false, .int .i64 0] 31)) wD.heap.size #[.int .i64 0, .bool false, .int .i64 0, .bool false, .bool false, .bool false, .bool false, .int .i64 0, .slice none 0 0, .slice none 0 0, .slice none 0 0, .slice none 0 0, .bool false, .int .i64 0]) := AccSt.after bl _
        have HZ1 : Hid (AccSt wD (wD.alloc (.cells #[.int .i64 0, .bool false, .int .i64 0, .bool false, .bool false, .bool false, .bool false, .int .i64 0, .slice none 0 0, .slice none 0 0, .slice none 0 0, .slice none 0 0, .bool false, .int .i64 0] 31)).drew wD.heap.size #[.int .i64 0, .bool false, .int .i64 0, .bool false, .bool false, .bool false, .bool false, .int .i64 0, .slice none 0 0, .slice none 0 0, .slice none 0 0, .slice none 0 0, .bool false, .int .i64 0]) := AccSt.below HZ0.out bl.drew
        have q1 := HDDwD.out wD bl
        have q2 := HDDwD.out wD.drew bl.drew
        have q3 := HDDwD.out (wD.alloc (.cells #[.int .i64 0, .bool false, .int .i64 0, .bool false, .bool false, .bool false, .bool false, .int .i64 0, .slice none 0 0, .slice none 0 0, .slice none 0 0, .slice none 0 0, .bool false, .int .i64 0] 31)) HZ0.out.bw
        have q4 := HDDwD.out (wD.alloc (.cells #[.int .i64 0, .bool false, .int .i64 0, .bool false, .bool false, .bool false, .bool false, .int .i64 0, .slice none 0 0, .slice none 0 0, .slice none 0 0, .slice none 0 0, .bool false, .int .i64 0] 31)).drew HZ1.out.bw
        go_region_held3 (fun w' => w'.cell? ⟨q, 0, none⟩ = some (.slice s.A o.addr.length s.c) ∧ w'.cell? ⟨q, 1, none⟩ = some (.int .i64 o.port) ∧ w'.cell? ⟨q, 2, none⟩ = some (.int .i64 o.id) ∧ w'.cell? ⟨q, 3, none⟩ = some (.slice s.q.A o.q.name.length s.q.c) ∧ w'.cell? ⟨q, 4, none⟩ = some (.int .i64 o.q.type) ∧ w'.cell? ⟨q, 5, none⟩ = some (.int .i64 o.q.cls) ∧ w'.cell? ⟨dg, 0, none⟩ = some (.slice (some ⟨ga, 0, none⟩) o.addr.length ca) ∧ w'.cell? ⟨dg, 1, none⟩ = some (.int .i64 (p : Int)) ∧ w'.cell? ⟨dg, 2, none⟩ = some (.slice A6 n c6))
          (first
            | with_reducible exact q1
            | with_reducible exact q2
            | with_reducible exact q3
            | with_reducible exact q4
            | with_reducible exact q5
            | with_reducible exact q6
            | with_reducible exact q7
            | with_reducible exact q8
            | with_reducible exact q9
            | with_reducible exact q10
            | fail)
          (first
            | (go_at_call 16; (with_reducible refine (HACwD.out (w7.alloc (.cells #[.int .i64 0, .bool false, .int .i64 0, .bool false, .bool false, .bool false, .bool false, .int .i64 0, .slice none 0 0, .slice none 0 0, .slice none 0 0, .slice none 0 0, .bool false, .int .i64 0] 31)) s7 _ HZ5.out.bw HI5.out HS5.out).mono ?_); rintro e w8 ⟨v8, rfl, ⟨sm, rfl⟩, hb8⟩; have HZ3 := Lib.hid (AccSt.below HZ5.out hb8); have q8 := HDDwD.out w8 HZ3.out.bw; have m0 : w8.cell? ⟨w7.heap.size, 0, none⟩ = some (.int .i64 0) := (AccSt.cell HZ3.out 0).trans rfl; have m1 : w8.cell? ⟨w7.heap.size, 1, none⟩ = some (.bool false) := (AccSt.cell HZ3.out 1).trans rfl; have m2 : w8.cell? ⟨w7.heap.size, 2, none⟩ = some (.int .i64 0) := (AccSt.cell HZ3.out 2).trans rfl; have m3 : w8.cell? ⟨w7.heap.size, 3, none⟩ = some (.bool false) := (AccSt.cell HZ3.out 3).trans rfl; have m4 : w8.cell? ⟨w7.heap.size, 4, none⟩ = some (.bool false) := (AccSt.cell HZ3.out 4).trans rfl; have m5 : w8.cell? ⟨w7.heap.size, 5, none⟩ = some (.bool false) := (AccSt.cell HZ3.out 5).trans rfl; have m6 : w8.cell? ⟨w7.heap.size, 6, none⟩ = some (.bool false) := (AccSt.cell HZ3.out 6).trans rfl; have m7 : w8.cell? ⟨w7.heap.size, 7, none⟩ = some (.int .i64 0) := (AccSt.cell HZ3.out 7).trans rfl; have m8 : w8.cell? ⟨w7.heap.size, 8, none⟩ = some (.slice none 0 0) := (AccSt.cell HZ3.out 8).trans rfl; have m9 : w8.cell? ⟨w7.heap.size, 9, none⟩ = some (.slice none 0 0) := (AccSt.cell HZ3.out 9).trans rfl; have m10 : w8.cell? ⟨w7.heap.size, 10, none⟩ = some (.slice none 0 0) := (AccSt.cell HZ3.out 10).trans rfl; have m11 : w8.cell? ⟨w7.heap.size, 11, none⟩ = some (.slice none 0 0) := (AccSt.cell HZ3.out 11).trans rfl; have m12 : w8.cell? ⟨w7.heap.size, 12, none⟩ = some (.bool false) := (AccSt.cell HZ3.out 12).trans rfl; have m13 : w8.cell? ⟨w7.heap.size, 13, none⟩ = some (.int .i64 0) := (AccSt.cell HZ3.out 13).trans rfl; have fz := AccSt.free HZ3.out; have HF := Lib.hid (AccSt.ahead HZ3.out rfl (.int .i64 0) (.bool false) (.int .i64 0) (.bool false) (.bool false) (.bool false) (.bool false) (.int .i64 0) (.slice none 0 0) (.slice none 0 0) (.slice none 0 0) (.slice none 0 0) (.bool false) (.int .i64 0)); have q9 := HDDwD.out _ HF.out.bw; unfold put14 at HF q9)
            | (go_at_call 16; (with_reducible refine (HACwD.out w7 s7 _ HB7.out HI7.out HS7.out).mono ?_); rintro e w8 ⟨v8, rfl, ⟨sm, rfl⟩, hb8⟩; have HB8 := Lib.hid (nx HB7.out hb8); have q8 := HDDwD.out w8 HB8.out; have HF := Lib.hid (AccSt.after HB8.out #[.int .i64 0, .bool false, .int .i64 0, .bool false, .bool false, .bool false, .bool false, .int .i64 0, .slice none 0 0, .slice none 0 0, .slice none 0 0, .slice none 0 0, .bool false, .int .i64 0]); have q9 := HDDwD.out _ HF.out.bw; have HY := Lib.hid (AccSt.after HB8.out #[.int .i64 0, .bool false, .int .i64 0, .bool false, .bool false, .bool false, .bool false, .int .i64 0, .slice none 0 0, .slice none 0 0, .slice none 0 0, .slice none 0 0, .bool false, .int .i64 0]); have q10 := HDDwD.out _ HY.out.bw)
            | (go_at_call 16; (with_reducible refine (HACwD.out w6a s7 _ HZ2.out.bw HI7.out HS7.out).mono ?_); rintro e w8 ⟨v8, rfl, ⟨sm, rfl⟩, hb8⟩; have HZ3 := Lib.hid (AccSt.below HZ2.out hb8); have q8 := HDDwD.out w8 HZ3.out.bw; have m0 : w8.cell? ⟨wD.heap.size, 0, none⟩ = some (.int .i64 0) := (AccSt.cell HZ3.out 0).trans rfl; have m1 : w8.cell? ⟨wD.heap.size, 1, none⟩ = some (.bool false) := (AccSt.cell HZ3.out 1).trans rfl; have m2 : w8.cell? ⟨wD.heap.size, 2, none⟩ = some (.int .i64 0) := (AccSt.cell HZ3.out 2).trans rfl; have m3 : w8.cell? ⟨wD.heap.size, 3, none⟩ = some (.bool false) := (AccSt.cell HZ3.out 3).trans rfl; have m4 : w8.cell? ⟨wD.heap.size, 4, none⟩ = some (.bool false) := (AccSt.cell HZ3.out 4).trans rfl; have m5 : w8.cell? ⟨wD.heap.size, 5, none⟩ = some (.bool false) := (AccSt.cell HZ3.out 5).trans rfl; have m6 : w8.cell? ⟨wD.heap.size, 6, none⟩ = some (.bool false) := (AccSt.cell HZ3.out 6).trans rfl; have m7 : w8.cell? ⟨wD.heap.size, 7, none⟩ = some (.int .i64 0) := (AccSt.cell HZ3.out 7).trans rfl; have m8 : w8.cell? ⟨wD.heap.size, 8, none⟩ = some (.slice none 0 0) := (AccSt.cell HZ3.out 8).trans rfl; have m9 : w8.cell? ⟨wD.heap.size, 9, none⟩ = some (.slice none 0 0) := (AccSt.cell HZ3.out 9).trans rfl; have m10 : w8.cell? ⟨wD.heap.size, 10, none⟩ = some (.slice none 0 0) := (AccSt.cell HZ3.out 10).trans rfl; have m11 : w8.cell? ⟨wD.heap.size, 11, none⟩ = some (.slice none 0 0) := (AccSt.cell HZ3.out 11).trans rfl; have m12 : w8.cell? ⟨wD.heap.size, 12, none⟩ = some (.bool false) := (AccSt.cell HZ3.out 12).trans rfl; have m13 : w8.cell? ⟨wD.heap.size, 13, none⟩ = some (.int .i64 0) := (AccSt.cell HZ3.out 13).trans rfl; have fz := AccSt.free HZ3.out; have HF := Lib.hid (AccSt.ahead HZ3.out rfl (.int .i64 0) (.bool false) (.int .i64 0) (.bool false) (.bool false) (.bool false) (.bool false) (.int .i64 0) (.slice none 0 0) (.slice none 0 0) (.slice none 0 0) (.slice none 0 0) (.bool false) (.int .i64 0)); have q9 := HDDwD.out _ HF.out.bw; unfold put14 at HF q9)
            | (go_at_call 17; (with_reducible refine (HOIwD.out wD.drew bl.drew).mono ?_); rintro e w7 ⟨v7, rfl, ⟨s7, rfl, hi7⟩, hb7⟩; unfold ouV ouCells; have HI7 := Lib.hid hi7; have HS7 : Hid (∀ b, geS wD.drew.heap.size w7 b → b < w7.heap.size) := (fun b hb => hb.2); have HB7 : Hid (Below wD.heap.size wD w7) := bl.drew.trans hb7; have q5 := HDDwD.out w7 HB7.out; have HZ5 : Hid (AccSt wD (w7.alloc (.cells #[.int .i64 0, .bool false, .int .i64 0, .bool false, .bool false, .bool false, .bool false, .int .i64 0, .slice none 0 0, .slice none 0 0, .slice none 0 0, .slice none 0 0, .bool false, .int .i64 0] 31)) w7.heap.size #[.int .i64 0, .bool false, .int .i64 0, .bool false, .bool false, .bool false, .bool false, .int .i64 0, .slice none 0 0, .slice none 0 0, .slice none 0 0, .slice none 0 0, .bool false, .int .i64 0]) := AccSt.after HB7.out _; have HI5 := Lib.hid (hi7.below (bl.alloc (Nat.le_refl _) (.cells #[.int .i64 0, .bool false, .int .i64 0, .bool false, .bool false, .bool false, .bool false, .int .i64 0, .slice none 0 0, .slice none 0 0, .slice none 0 0, .slice none 0 0, .bool false, .int .i64 0] 31)) (fun b hb => hb.2)); have HS5 : Hid (∀ b, geS wD.drew.heap.size w7 b → b < (w7.alloc (.cells #[.int .i64 0, .bool false, .int .i64 0, .bool false, .bool false, .bool false, .bool false, .int .i64 0, .slice none 0 0, .slice none 0 0, .slice none 0 0, .slice none 0 0, .bool false, .int .i64 0] 31)).heap.size) := (fun b hb => Nat.lt_of_lt_of_le hb.2 (bl.alloc (Nat.le_refl _) (.cells #[.int .i64 0, .bool false, .int .i64 0, .bool false, .bool false, .bool false, .bool false, .int .i64 0, .slice none 0 0, .slice none 0 0, .slice none 0 0, .slice none 0 0, .bool false, .int .i64 0] 31)).size); have q6 := HDDwD.out _ HZ5.out.bw)
            | (go_at_call 17; (with_reducible refine (HOIwD.out (wD.alloc (.cells #[.int .i64 0, .bool false, .int .i64 0, .bool false, .bool false, .bool false, .bool false, .int .i64 0, .slice none 0 0, .slice none 0 0, .slice none 0 0, .slice none 0 0, .bool false, .int .i64 0] 31)).drew HZ1.out.bw).mono ?_); rintro e w6a ⟨v7, rfl, ⟨s7, rfl, hi7⟩, hb7⟩; unfold ouV ouCells; have HI7 := Lib.hid hi7; have HS7 : Hid (∀ b, geS (wD.alloc (.cells #[.int .i64 0, .bool false, .int .i64 0, .bool false, .bool false, .bool false, .bool false, .int .i64 0, .slice none 0 0, .slice none 0 0, .slice none 0 0, .slice none 0 0, .bool false, .int .i64 0] 31)).drew.heap.size w6a b → b < w6a.heap.size) := (fun b hb => hb.2); have HZ2 := Lib.hid (AccSt.below HZ1.out hb7); have q5 := HDDwD.out w6a HZ2.out.bw)
            | fail)
        all_goals
          go_wp2
          go_meet
          case rel => exact ⟨_, sm, rfl, rfl, HF⟩
      case rest =>
        obtain ⟨gz, sz, rfl, rfl, HZS⟩ := hcut
        go_wp2
        go_ret
        exact ⟨rfl, nx HBD.out HZS.out.bw⟩

set_option maxHeartbeats 16000000 in
theorem scrubGuess_yes (s : OuS) (o : Ou) (t : MS) (m : Ms) (p d : Nat) (w : World) (h : OIn (ltS w) w s o) (hm : MIn (ltS w) w t m) (hp : p < 65536) (hd : d < 65536) (hq : m.qs.length ≤ 1048576) (hb3 : m.an.length ≤ 1048576 ∧ m.au.length ≤ 1048576 ∧ m.ex.length ≤ 1048576) (hport : (p : Int) = o.port) (hid : (d : Int) = o.id) (hn : o.q.name.length ≤ 200) (ha : o.addr.length = 4) (hs : m.an.length + m.au.length + m.ex.length ≤ 60) (hr : ∀ r ∈ m.an ++ m.au ++ m.ex, Lt9 r ∧ r.data.bytes.length ≤ 1000000000) :
    Calls Try.prog 3 #[ouV s o, msV t m, .int .u16 (p : Int), .int .u16 (d : Int)] w (LawT w) := by
  have HPD : Hid (p < 65536 ∧ d < 65536) := ⟨hp, hd⟩
  obtain ⟨w1, hw1⟩ : ∃ w1, w1 = w.alloc (.cells (ouCells s o) 27) := ⟨_, rfl⟩
  obtain ⟨w2, hw2⟩ : ∃ w2, w2 = w1.alloc (.cells (mCells t m) 31) := ⟨_, rfl⟩
  have hb1 : Below w.heap.size w w1 := by rw [hw1]; exact bl.alloc (Nat.le_refl _) _
  have hb2 : Below w1.heap.size w1 w2 := by rw [hw2]; exact bl.alloc (Nat.le_refl _) _
  have hz1 : w1.heap.size = w.heap.size + 1 := by rw [hw1]; simp
  have hz2 : w2.heap.size = w.heap.size + 2 := by rw [hw2]; simp; omega
  have HR1 : Hid (ORow w2 w.heap.size s o) := by
    have h : ORow w1 w.heap.size s o := by rw [hw1]; exact ORow.made w s o
    exact h.below hb2
  have HM1 : Hid (MRow w2 (w.heap.size + 1) t m) := by show MRow _ _ _ _; rw [hw2, ← hz1]; exact MRow.made w1 t m
  have HB2 : Hid (Below w.heap.size w w2) := nx hb1 hb2
  have HZ2 := Lib.hid hz2
  have HIW : Hid (∀ w', Below w.heap.size w w' → OIn (ltS w) w' s o) := fun w' hw => h.below hw (fun b hb => hb)
  have HMW : Hid (∀ w', Below w.heap.size w w' → MIn (ltS w) w' t m) := fun w' hw => hm.below hw (fun b hb => hb)
  have HPORT0 := Lib.hid hport
  have HID0 := Lib.hid hid
  clear hport hid
  have HN : Hid (o.q.name.length ≤ 200 ∧ o.addr.length = 4) := ⟨hn, ha⟩
  have HLT : Hid (LtM (gueM o m (d : Int))) := gue_lt hn hs hr
  have HBG : Hid (FineM (gueM o m (d : Int)) → BigOk (gueM o m (d : Int))) := gue_big hs
  have hn' : ¬ (200 : Int) < (o.q.name.length : Int) := by omega
  have ha' : ((o.addr.length : Int) != 4) = false := by rw [ha]; rfl
  have hs' : ¬ (60 : Int) < (m.an.length : Int) + (m.au.length : Int) + (m.ex.length : Int) := by omega
  have hs1 : (m.an.length : Int) + (m.au.length : Int) + (m.ex.length : Int) ≤ 60 := by omega
  have hs2 : (m.an.length : Int) + (m.au.length : Int) ≤ 60 := by omega
  unfold ouV msV
  unfold ouCells at hw1 ⊢
  unfold mCells at hw2 ⊢
  clear h hm hb1 hb2 hz1 hz2 hn ha hs hr hq hb3
  go_enter Try.func3, Try.ntmps3
  go_upto_region 1 with (fail)
  rw [← hw1, ← hw2]
  clear hw1 hw2
  generalize hqe : w.heap.size = q at HR1 HM1 HZ2 ⊢
  have HQE := Lib.hid hqe
  clear hqe
  go_upto_region 3 with (first
    | (go_at_call 14; refine (answers18_any w2).mono ?_; rintro e w3 ⟨rfl, hb3⟩; have HB3 := Lib.hid hb3; obtain ⟨x0, x1, x2, x3, x4, x5⟩ := (HR1.out.below hb3).cells; obtain ⟨z0, z1, z2, z3, z4, z5, z6, z7, z8, z9, z10, z11, z12, z13⟩ := (HM1.out.below hb3).cells; clear hb3)
    | fail)
  clear hn' ha' hs' hs1 hs2
  have f0 : w3.frozen? ⟨q + 1, 0, none⟩ = false := MRow.free (HM1.out.below HB3.out) 0
  have f1 : w3.frozen? ⟨q + 1, 1, none⟩ = false := MRow.free (HM1.out.below HB3.out) 1
  have f2 : w3.frozen? ⟨q + 1, 2, none⟩ = false := MRow.free (HM1.out.below HB3.out) 2
  have f4 : w3.frozen? ⟨q + 1, 4, none⟩ = false := MRow.free (HM1.out.below HB3.out) 4
  have f7 : w3.frozen? ⟨q + 1, 7, none⟩ = false := MRow.free (HM1.out.below HB3.out) 7
  go_upto_region 5 with (fail)
  obtain ⟨w4, hw4⟩ : ∃ u, u = ((((w3.setCell ⟨q + 1, 1, none⟩ (.bool true)).setCell ⟨q + 1, 2, none⟩ (.int .i64 0)).setCell ⟨q + 1, 4, none⟩ (.bool false)).setCell ⟨q + 1, 7, none⟩ (.int .i64 0)).setCell ⟨q + 1, 0, none⟩ (.int .i64 (d : Int)) := ⟨_, rfl⟩
  have hM4 : MRow w4 (q + 1) t { m with resp := true, op := 0, tc := false, rcode := 0, id := (d : Int) } := by
    rw [hw4]
    exact MRow.put (MRow.put (MRow.put (MRow.put (MRow.put (HM1.out.below HB3.out) 1 (.bool true) t { m with resp := true } rfl) 2 (.int .i64 0) t { m with resp := true, op := 0 } rfl) 4 (.bool false) t { m with resp := true, op := 0, tc := false } rfl) 7 (.int .i64 0) t { m with resp := true, op := 0, tc := false, rcode := 0 } rfl) 0 (.int .i64 (d : Int)) t _ rfl
  have hk4 : ∀ {u : World} (j : Nat) (v : Value), Chg (fun k => k = q + 1) w3 u → Chg (fun k => k = q + 1) w3 (u.setCell ⟨q + 1, j, none⟩ v) := fun j v h => h.setCell (p := ⟨q + 1, j, none⟩) (Or.inl rfl) v
  have hC4 : Chg (fun k => k = q + 1) w3 w4 := by rw [hw4]; exact hk4 0 _ (hk4 7 _ (hk4 4 _ (hk4 2 _ (hk4 1 _ (Chg.refl _ w3)))))
  have HM4 := Lib.hid hM4
  have HO4 : Hid (ORow w4 q s o) := hC4.heap (HR1.out.below HB3.out) (by omega)
  have HB4 : Hid (Below w.heap.size w w4) := (nx HB2.out HB3.out).trans (hC4.below (fun x hx => by have := HQE.out; omega) (by have := (nx HB2.out HB3.out).size; exact this))
  rw [← hw4]
  clear hw4 hk4 hC4 hM4 f0 f1 f2 f4 f7 x0 x1 x2 x3 x4 x5 z0 z1 z2 z3 z4 z5 z6 z7 z8 z9 z10 z11 z12 z13
  obtain ⟨x0, x1, x2, x3, x4, x5⟩ := HO4.out.cells
  have HM5 : Hid (MRow (w4.alloc (.cells #[.slice s.q.A o.q.name.length s.q.c, .int .i64 o.q.type, .int .i64 o.q.cls] 25)) (q + 1) t { m with resp := true, op := 0, tc := false, rcode := 0, id := (d : Int) }) := HM4.out.below (bl.alloc (Nat.le_refl _) _)
  have c8 : (w4.alloc (.cells #[.slice s.q.A o.q.name.length s.q.c, .int .i64 o.q.type, .int .i64 o.q.cls] 25)).cell? ⟨q + 1, 8, none⟩ = some (.slice t.Q m.qs.length t.qc) := (HM5.out.cell 8).trans rfl
  have f8 : (w4.alloc (.cells #[.slice s.q.A o.q.name.length s.q.c, .int .i64 o.q.type, .int .i64 o.q.cls] 25)).frozen? ⟨q + 1, 8, none⟩ = false := HM5.out.free 8
  have c8' : w4.cell? ⟨q + 1, 8, none⟩ = some (.slice t.Q m.qs.length t.qc) := (HM4.out.cell 8).trans rfl
  have f8' : w4.frozen? ⟨q + 1, 8, none⟩ = false := HM4.out.free 8
  have hlt4 : q + 1 < w4.heap.size := HM4.out.lt
  go_upto_region 6 with (fail)
  obtain ⟨u4, hu4⟩ : ∃ u, u = w4.setCell ⟨q + 1, 8, none⟩ (.slice (some ⟨w4.heap.size, 0, none⟩) 1 1) := ⟨_, rfl⟩
  have hMu : MRow u4 (q + 1) (gueS t w4.heap.size) (gueM o m (d : Int)) := by rw [hu4]; exact MRow.put HM4.out 8 _ _ _ rfl
  have hCu : Chg (fun k => k = q + 1) w4 u4 := by rw [hu4]; exact chg_g1 _ _ _ _
  have hzu : u4.heap.size = w4.heap.size := by rw [hu4]; simp
  have hOu : ORow u4 q s o := hCu.heap HO4.out (by omega)
  have hBu : Below w.heap.size w u4 := HB4.out.trans (hCu.below (fun x hx => by have := HQE.out; omega) (by have := HB4.out.size; exact this))
  obtain ⟨w5, hw5⟩ : ∃ u, u = u4.alloc (.cells (qCells s.q o.q) 25) := ⟨_, rfl⟩
  have hb5 : Below u4.heap.size u4 w5 := by rw [hw5]; exact bl.alloc (Nat.le_refl _) _
  have hI5 : MIn (ltS w5) w5 (gueS t w4.heap.size) (gueM o m (d : Int)) := by
    have h1 := one_qu (HIW.out u4 hBu).q (fun b hb => Nat.lt_of_lt_of_le hb hBu.size)
    rw [← hw5, hzu] at h1
    have h2 : MIn (ltS w5) w5 t m := ((HMW.out u4 hBu).below hb5 (fun b hb => Nat.lt_of_lt_of_le hb hBu.size)).mono (fun b hb => Nat.lt_of_lt_of_le (Nat.lt_of_lt_of_le hb hBu.size) hb5.size)
    have z : i64S 0 := ⟨by omega, by omega⟩
    exact ⟨h1, h2.a, h2.u, h2.x, ⟨Nat.le_refl _, show (1 : Nat) ≤ maxLen by decide⟩, h2.ca, h2.cu, h2.cx, ⟨by show (-9223372036854775808 : Int) ≤ (d : Int); omega, by show (d : Int) ≤ 9223372036854775807; omega⟩, z, z, h2.is⟩
  have HM5 : Hid (MRow w5 (q + 1) (gueS t w4.heap.size) (gueM o m (d : Int))) := hMu.below hb5
  have HO5 : Hid (ORow w5 q s o) := hOu.below hb5
  have HB5 : Hid (Below w.heap.size w w5) := nx hBu hb5
  have henc := rEncode_big (gueS t w4.heap.size) (gueM o m (d : Int)) w5 hI5 (fun b hb => hb) HLT.out HBG.out
  have HEZ := Lib.hid (@encP_zero18 (gueM o m (d : Int)))
  obtain ⟨B, hB⟩ : ∃ B, B = (encP (gueM o m (d : Int))).1 := ⟨_, rfl⟩
  obtain ⟨er, her⟩ : ∃ er, er = (encP (gueM o m (d : Int))).2 := ⟨_, rfl⟩
  rw [← hB, ← her] at henc HEZ
  have HENC : Hid (Calls Try.prog 15 #[.agg #[.int .i64 (d : Int), .bool true, .int .i64 0, .bool m.aa, .bool false, .bool m.rd, .bool m.ra, .int .i64 0, .slice (some ⟨w4.heap.size, 0, none⟩) 1 1, .slice t.A m.an.length t.ac, .slice t.U m.au.length t.uc, .slice t.X m.ex.length t.xc, .bool m.edns, .int .i64 m.size]] w5 (RetP (fun v w' => ∃ bv, v = .tuple #[bv, .int .i64 er] ∧ RdSl w' bv B) w5)) := henc
  unfold qCells at hw5
  rw [← hu4, ← hw5]
  clear hu4 hw5 hB her henc hI5 hb5 hBu hOu hzu hCu hMu c8 f8 c8' f8' x0 x1 x2 x3 x4 x5 hlt4
  generalize w4.heap.size = g4 at HM5 HENC ⊢
  obtain ⟨x0, x1, x2, x3, x4, x5⟩ := HO5.out.cells
  obtain ⟨m0, m1, m2, m3, m4, m5, m6, m7, m8, m9, m10, m11, m12, m13⟩ := HM5.out.cells
  simp only [gueM, gueS, List.length_singleton] at m0 m1 m2 m3 m4 m5 m6 m7 m8 m9 m10 m11 m12 m13
  clear HM4
  go_upto_region 7 with (first
    | (go_at_call 15; refine HENC.out.mono ?_; rintro e w7 ⟨v7, rfl, ⟨bv7, rfl, ho7⟩, hb7⟩; have HRS := Lib.hid ho7; obtain ⟨A6, c6, hv6, -, -, -⟩ := ho7; subst hv6; have HB57 := Lib.hid hb7; clear hb7)
    | fail)
  clear x0 x1 x2 x3 x4 x5 m0 m1 m2 m3 m4 m5 m6 m7 m8 m9 m10 m11 m12 m13 HM5
  have HB7 := Lib.hid (nx HB5.out HB57.out)
  by_cases he : er = 0
  rotate_left
  · have heb : (er != 0) = true := by simp [he]
    go_wp2
    go_ret
    exact ⟨rfl, HB7.out⟩
  · subst he
    obtain ⟨hfine, hdec, hBl⟩ := HEZ.out rfl
    obtain ⟨n, hn⟩ : ∃ n, n = B.length := ⟨_, rfl⟩
    have HRB : Hid (RdB w7 A6 n B ∧ n ≤ c6 ∧ c6 ≤ maxLen ∧ n ≤ 65535 ∧ n = B.length) := by
      obtain ⟨A', c', hv, h1, h2, h3⟩ := HRS.out
      injection hv with e1 e2 e3
      subst e1 e3
      rw [← hn] at h1 h2 hBl
      exact ⟨h1, h2, h3, hBl, hn⟩
    rw [← hn] at HRS ⊢
    have HDEC := Lib.hid hdec
    clear hdec hBl hn hfine
    have HO7 : Hid (ORow w7 q s o) := HO5.out.below HB57.out
    have HE0 := Lib.hid (own_empty w7)
    have HBA : Hid (Below w7.heap.size w7 (w7.alloc (.cells #[] 5))) := bl.alloc (Nat.le_refl _) _
    have HRA : Hid (RdB (w7.alloc (.cells #[] 5)) s.A o.addr.length o.addr) := els_bytes (So := ltS w) (Si := ltS w) (HIW.out _ (nx HB7.out HBA.out)).a
    obtain ⟨x0, x1, x2, x3, x4, x5⟩ := (HO7.out.below HBA.out).cells
    have h48 : o.addr.length ≤ 140737488355328 := by have := HN.out.2; omega
    have hal : 0 < ([] ++ o.addr : List UInt8).length := by have := HN.out.2; simp; omega
    have HAL := Lib.hid hal
    clear hal
    go_upto_region 10 with (first
      | ((with_reducible show wpList _ _ _ (⟨some 68, _, _, _, _, _⟩ :: _) _ _); refine wpL_appB rfl (.tmp 65) (.tmp 67) rfl w7.heap.size (.slice (some ⟨w7.heap.size, 0, none⟩) 0 0) [] rfl HE0.out s.A o.addr.length s.c o.addr rfl HRA.out (by simp; omega) HBA.out.size ?_; intro v8 w8 hown8 hg8 _; have HB78 := Lib.hid (HBA.out.grown hg8 HBA.out.size (fun j hj => (World.ownsRow.lt HE0.out j hj).1)); obtain ⟨ga, ca, hv8, hga1, hga2, hl8, hm8, -⟩ := OwnB.flat hown8 HAL.out; rw [List.nil_append] at hv8 hl8 hown8; subst hv8; have HOA := Lib.hid hown8; have HCA : Hid (o.addr.length ≤ ca ∧ ca ≤ maxLen ∧ w7.heap.size ≤ ga ∧ ga < w8.heap.size) := (⟨hl8, hm8, hga1, hga2⟩); clear hown8 hg8 hl8 hm8 hga1 hga2)
      | fail)
    clear x0 x1 x2 x3 x4 x5 h48
    have hport := HPORT0.out
    have hid := HID0.out
    obtain ⟨w9, hw9⟩ : ∃ u, u = w8.alloc (.cells #[.slice (some ⟨ga, 0, none⟩) o.addr.length ca, .int .i64 (p : Int), .slice A6 n c6] 38) := ⟨_, rfl⟩
    have hb9 : Below w8.heap.size w8 w9 := by rw [hw9]; exact bl.alloc (Nat.le_refl _) _
    have HDR : Hid (w9.heap[w8.heap.size]? = some (.cells #[.slice (some ⟨ga, 0, none⟩) o.addr.length ca, .int .i64 (p : Int), .slice A6 n c6] 38 (0, 0))) := by show _ = _; rw [hw9]; exact heap_alloc_new w8 _
    have HB89 := Lib.hid hb9
    have HB9 : Hid (Below w.heap.size w w9) := nx (nx HB7.out HB78.out) hb9
    have HGD : Hid (ga < w8.heap.size) := HCA.out.2.2.2
    rw [← hw9]
    clear hw9 hb9
    generalize w8.heap.size = dg at HDR HGD ⊢
    have hd9 : ∀ w', Below w9.heap.size w9 w' → (w'.cell? ⟨q, 0, none⟩ = some (.slice s.A o.addr.length s.c) ∧ w'.cell? ⟨q, 1, none⟩ = some (.int .i64 o.port) ∧ w'.cell? ⟨q, 2, none⟩ = some (.int .i64 o.id) ∧ w'.cell? ⟨q, 3, none⟩ = some (.slice s.q.A o.q.name.length s.q.c) ∧ w'.cell? ⟨q, 4, none⟩ = some (.int .i64 o.q.type) ∧ w'.cell? ⟨q, 5, none⟩ = some (.int .i64 o.q.cls) ∧ w'.cell? ⟨dg, 0, none⟩ = some (.slice (some ⟨ga, 0, none⟩) o.addr.length ca) ∧ w'.cell? ⟨dg, 1, none⟩ = some (.int .i64 (p : Int)) ∧ w'.cell? ⟨dg, 2, none⟩ = some (.slice A6 n c6)) := fun w' hw => by
      have g := (hw.block dg (Array.getElem?_eq_some_iff.1 HDR.out).1).trans HDR.out
      obtain ⟨z0, z1, z2, z3, z4, z5⟩ := ((HO7.out.below (nx HB78.out HB89.out)).below hw).cells
      exact ⟨z0, z1, z2, z3, z4, z5, (cell_of_row _ _ _ _ _ _ g).trans rfl, (cell_of_row _ _ _ _ _ _ g).trans rfl, (cell_of_row _ _ _ _ _ _ g).trans rfl⟩
    have HDDw9 := Lib.hid hd9
    clear hd9
    have HOIw9 : Hid (∀ w', Below w9.heap.size w9 w' → Calls Try.prog 17 #[.agg #[.slice s.A o.addr.length s.c, .int .i64 o.port, .int .i64 o.id, .slice s.q.A o.q.name.length s.q.c, .int .i64 o.q.type, .int .i64 o.q.cls]] w' (RetP (fun v w'' => ∃ s', v = ouV s' o ∧ OIn (geS w'.heap.size w'') w'' s' o) w')) := fun w' hw => own18_any s o w' (HIW.out w' (nx HB9.out hw)) (fun b hb => Nat.lt_of_lt_of_le hb (nx HB9.out hw).size) HN.out.1 (by have := HN.out.2; omega)
    have HBT7 : Hid (∀ b off, A6 = some ⟨b, off, none⟩ → b < w7.heap.size) := fun b off e => by
      have hl := dec_12 HDEC.out
      obtain ⟨b', off', e', hr⟩ := HRB.out.1.2 (by rw [List.length_map]; omega)
      rw [e] at e'
      injection e' with e'
      injection e' with e1 e2
      subst e1 e2
      have hc := hr 0 (bV (B[0]'(by omega))) (by rw [List.getElem?_map, List.getElem?_eq_getElem (by omega)]; rfl)
      exact World.block_lt_of_cell? w7 _ hc
    have HBTT : Hid (∀ b off, A6 = some ⟨b, off, none⟩ → b < w8.heap.size) := fun b off e => Nat.lt_of_lt_of_le (HBT7.out b off e) HB78.out.size
    have HPE : Hid ((p : Int) = o.port) := hport
    have HID : Hid ((d : Int) = o.id) := hid
    have tp : (o.port == (p : Int)) = true := by simp [hport]
    have ti : (o.id == (d : Int)) = true := by simp [hid]
    clear hid
    have HACw9 : Hid (∀ (w7 : World) (s7 : OuS) (S : Nat → Prop), Below w9.heap.size w9 w7 → OIn S w7 s7 o → (∀ b, S b → b < w7.heap.size) → Calls Try.prog 16 #[.agg #[.slice s7.A o.addr.length s7.c, .int .i64 o.port, .int .i64 o.id, .slice s7.q.A o.q.name.length s7.q.c, .int .i64 o.q.type, .int .i64 o.q.cls], .agg #[.slice (some ⟨ga, 0, none⟩) o.addr.length ca, .int .i64 (p : Int), .slice A6 n c6]] w7 (RetP (fun v _ => ∃ sm : MS, v = .tuple #[.agg #[.int .i64 (d : Int), .bool true, .int .i64 0, .bool m.aa, .bool false, .bool m.rd, .bool m.ra, .int .i64 0, .slice sm.Q 1 sm.qc, .slice sm.A m.an.length sm.ac, .slice sm.U m.au.length sm.uc, .slice sm.X m.ex.length sm.xc, .bool m.edns, .int .i64 m.size], .bool true]) w7)) := fun w7 s7 S hb hi hs => by
      rw [HPE.out]
      refine Calls.mono (accept_yes s7 o (some ⟨ga, 0, none⟩) o.addr.length ca o.addr 0 A6 n c6 B w7 hi hs (((OwnB.rd HOA.out).1.below HB89.out).below hb) ((HRB.out.1.below (nx HB78.out HB89.out)).below hb) (fun b off e => Nat.lt_of_lt_of_le (HBTT.out b off e) (nx HB89.out hb).size) ⟨HRB.out.2.1, Nat.le_trans HRB.out.2.2.1 (by unfold maxLen; omega)⟩ (Nat.le_trans HRB.out.2.2.2.1 (by omega)) HN.out.2 rfl (gueM o m (d : Int)) HDEC.out rfl rfl rfl HID.out rfl) ?_
      rintro e w8 ⟨v8, rfl, ⟨s2, rfl⟩, hb8⟩
      exact ⟨_, rfl, ⟨s2, rfl⟩, hb8⟩
    clear hport
    go_upto_region 10 with (fail)
    go_cut [12, 13] (fun pv bv wc => ∃ (g : Nat) (sm : MS), pv = .pointer (some ⟨g, 0, none⟩) ∧ bv = .bool true ∧ Hid (AccSt w9 wc g #[.int .i64 (d : Int), .bool true, .int .i64 0, .bool m.aa, .bool false, .bool m.rd, .bool m.ra, .int .i64 0, .slice sm.Q 1 sm.qc, .slice sm.A m.an.length sm.ac, .slice sm.U m.au.length sm.uc, .slice sm.X m.ex.length sm.xc, .bool m.edns, .int .i64 m.size]))
    case first =>
      have HZ0 : Hid (AccSt w9 (w9.alloc (.cells #[.int .i64 0, .bool false, .int .i64 0, .bool false, .bool false, .bool false, .bool false, .int .i64 0, .slice none 0 0, .slice none 0 0, .slice none 0 0, .slice none 0 0, .bool false, .int .i64 0] 31)) w9.heap.size #[.int .i64 0, .bool false, .int .i64 0, .bool false, .bool false, .bool false, .bool false, .int .i64 0, .slice none 0 0, .slice none 0 0, .slice none 0 0, .slice none 0 0, .bool false, .int .i64 0]) := AccSt.after bl _
      have HZ1 : Hid (AccSt w9 (w9.alloc (.cells #[.int .i64 0, .bool false, .int .i64 0, .bool false, .bool false, .bool false, .bool false, .int .i64 0, .slice none 0 0, .slice none 0 0, .slice none 0 0, .slice none 0 0, .bool false, .int .i64 0] 31)).drew w9.heap.size #[.int .i64 0, .bool false, .int .i64 0, .bool false, .bool false, .bool false, .bool false, .int .i64 0, .slice none 0 0, .slice none 0 0, .slice none 0 0, .slice none 0 0, .bool false, .int .i64 0]) := AccSt.below HZ0.out bl.drew
      have q1 := HDDw9.out w9 bl
      have q2 := HDDw9.out w9.drew bl.drew
      have q3 := HDDw9.out (w9.alloc (.cells #[.int .i64 0, .bool false, .int .i64 0, .bool false, .bool false, .bool false, .bool false, .int .i64 0, .slice none 0 0, .slice none 0 0, .slice none 0 0, .slice none 0 0, .bool false, .int .i64 0] 31)) HZ0.out.bw
      have q4 := HDDw9.out (w9.alloc (.cells #[.int .i64 0, .bool false, .int .i64 0, .bool false, .bool false, .bool false, .bool false, .int .i64 0, .slice none 0 0, .slice none 0 0, .slice none 0 0, .slice none 0 0, .bool false, .int .i64 0] 31)).drew HZ1.out.bw
      go_region_held3 (fun w' => w'.cell? ⟨q, 0, none⟩ = some (.slice s.A o.addr.length s.c) ∧ w'.cell? ⟨q, 1, none⟩ = some (.int .i64 o.port) ∧ w'.cell? ⟨q, 2, none⟩ = some (.int .i64 o.id) ∧ w'.cell? ⟨q, 3, none⟩ = some (.slice s.q.A o.q.name.length s.q.c) ∧ w'.cell? ⟨q, 4, none⟩ = some (.int .i64 o.q.type) ∧ w'.cell? ⟨q, 5, none⟩ = some (.int .i64 o.q.cls) ∧ w'.cell? ⟨dg, 0, none⟩ = some (.slice (some ⟨ga, 0, none⟩) o.addr.length ca) ∧ w'.cell? ⟨dg, 1, none⟩ = some (.int .i64 (p : Int)) ∧ w'.cell? ⟨dg, 2, none⟩ = some (.slice A6 n c6))
        (first
          | with_reducible exact q1
          | with_reducible exact q2
          | with_reducible exact q3
          | with_reducible exact q4
          | with_reducible exact q5
          | with_reducible exact q6
          | with_reducible exact q7
          | with_reducible exact q8
          | with_reducible exact q9
          | with_reducible exact q10
          | fail)
        (first
          | (go_at_call 16; (with_reducible refine (HACw9.out (w7.alloc (.cells #[.int .i64 0, .bool false, .int .i64 0, .bool false, .bool false, .bool false, .bool false, .int .i64 0, .slice none 0 0, .slice none 0 0, .slice none 0 0, .slice none 0 0, .bool false, .int .i64 0] 31)) s7 _ HZ5.out.bw HI5.out HS5.out).mono ?_); rintro e w8 ⟨v8, rfl, ⟨sm, rfl⟩, hb8⟩; have HZ3 := Lib.hid (AccSt.below HZ5.out hb8); have q8 := HDDw9.out w8 HZ3.out.bw; have m0 : w8.cell? ⟨w7.heap.size, 0, none⟩ = some (.int .i64 0) := (AccSt.cell HZ3.out 0).trans rfl; have m1 : w8.cell? ⟨w7.heap.size, 1, none⟩ = some (.bool false) := (AccSt.cell HZ3.out 1).trans rfl; have m2 : w8.cell? ⟨w7.heap.size, 2, none⟩ = some (.int .i64 0) := (AccSt.cell HZ3.out 2).trans rfl; have m3 : w8.cell? ⟨w7.heap.size, 3, none⟩ = some (.bool false) := (AccSt.cell HZ3.out 3).trans rfl; have m4 : w8.cell? ⟨w7.heap.size, 4, none⟩ = some (.bool false) := (AccSt.cell HZ3.out 4).trans rfl; have m5 : w8.cell? ⟨w7.heap.size, 5, none⟩ = some (.bool false) := (AccSt.cell HZ3.out 5).trans rfl; have m6 : w8.cell? ⟨w7.heap.size, 6, none⟩ = some (.bool false) := (AccSt.cell HZ3.out 6).trans rfl; have m7 : w8.cell? ⟨w7.heap.size, 7, none⟩ = some (.int .i64 0) := (AccSt.cell HZ3.out 7).trans rfl; have m8 : w8.cell? ⟨w7.heap.size, 8, none⟩ = some (.slice none 0 0) := (AccSt.cell HZ3.out 8).trans rfl; have m9 : w8.cell? ⟨w7.heap.size, 9, none⟩ = some (.slice none 0 0) := (AccSt.cell HZ3.out 9).trans rfl; have m10 : w8.cell? ⟨w7.heap.size, 10, none⟩ = some (.slice none 0 0) := (AccSt.cell HZ3.out 10).trans rfl; have m11 : w8.cell? ⟨w7.heap.size, 11, none⟩ = some (.slice none 0 0) := (AccSt.cell HZ3.out 11).trans rfl; have m12 : w8.cell? ⟨w7.heap.size, 12, none⟩ = some (.bool false) := (AccSt.cell HZ3.out 12).trans rfl; have m13 : w8.cell? ⟨w7.heap.size, 13, none⟩ = some (.int .i64 0) := (AccSt.cell HZ3.out 13).trans rfl; have fz := AccSt.free HZ3.out; have HF := Lib.hid (AccSt.ahead HZ3.out rfl (.int .i64 (d : Int)) (.bool true) (.int .i64 0) (.bool m.aa) (.bool false) (.bool m.rd) (.bool m.ra) (.int .i64 0) (.slice sm.Q 1 sm.qc) (.slice sm.A m.an.length sm.ac) (.slice sm.U m.au.length sm.uc) (.slice sm.X m.ex.length sm.xc) (.bool m.edns) (.int .i64 m.size)); have q9 := HDDw9.out _ HF.out.bw; unfold put14 at HF q9)
          | (go_at_call 16; (with_reducible refine (HACw9.out w7 s7 _ HB7.out HI7.out HS7.out).mono ?_); rintro e w8 ⟨v8, rfl, ⟨sm, rfl⟩, hb8⟩; have HB8 := Lib.hid (nx HB7.out hb8); have q8 := HDDw9.out w8 HB8.out; have HF := Lib.hid (AccSt.after HB8.out #[.int .i64 (d : Int), .bool true, .int .i64 0, .bool m.aa, .bool false, .bool m.rd, .bool m.ra, .int .i64 0, .slice sm.Q 1 sm.qc, .slice sm.A m.an.length sm.ac, .slice sm.U m.au.length sm.uc, .slice sm.X m.ex.length sm.xc, .bool m.edns, .int .i64 m.size]); have q9 := HDDw9.out _ HF.out.bw; have HY := Lib.hid (AccSt.after HB8.out #[.int .i64 0, .bool false, .int .i64 0, .bool false, .bool false, .bool false, .bool false, .int .i64 0, .slice none 0 0, .slice none 0 0, .slice none 0 0, .slice none 0 0, .bool false, .int .i64 0]); have q10 := HDDw9.out _ HY.out.bw)
          | (go_at_call 16; (with_reducible refine (HACw9.out w6a s7 _ HZ2.out.bw HI7.out HS7.out).mono ?_); rintro e w8 ⟨v8, rfl, ⟨sm, rfl⟩, hb8⟩; have HZ3 := Lib.hid (AccSt.below HZ2.out hb8); have q8 := HDDw9.out w8 HZ3.out.bw; have m0 : w8.cell? ⟨w9.heap.size, 0, none⟩ = some (.int .i64 0) := (AccSt.cell HZ3.out 0).trans rfl; have m1 : w8.cell? ⟨w9.heap.size, 1, none⟩ = some (.bool false) := (AccSt.cell HZ3.out 1).trans rfl; have m2 : w8.cell? ⟨w9.heap.size, 2, none⟩ = some (.int .i64 0) := (AccSt.cell HZ3.out 2).trans rfl; have m3 : w8.cell? ⟨w9.heap.size, 3, none⟩ = some (.bool false) := (AccSt.cell HZ3.out 3).trans rfl; have m4 : w8.cell? ⟨w9.heap.size, 4, none⟩ = some (.bool false) := (AccSt.cell HZ3.out 4).trans rfl; have m5 : w8.cell? ⟨w9.heap.size, 5, none⟩ = some (.bool false) := (AccSt.cell HZ3.out 5).trans rfl; have m6 : w8.cell? ⟨w9.heap.size, 6, none⟩ = some (.bool false) := (AccSt.cell HZ3.out 6).trans rfl; have m7 : w8.cell? ⟨w9.heap.size, 7, none⟩ = some (.int .i64 0) := (AccSt.cell HZ3.out 7).trans rfl; have m8 : w8.cell? ⟨w9.heap.size, 8, none⟩ = some (.slice none 0 0) := (AccSt.cell HZ3.out 8).trans rfl; have m9 : w8.cell? ⟨w9.heap.size, 9, none⟩ = some (.slice none 0 0) := (AccSt.cell HZ3.out 9).trans rfl; have m10 : w8.cell? ⟨w9.heap.size, 10, none⟩ = some (.slice none 0 0) := (AccSt.cell HZ3.out 10).trans rfl; have m11 : w8.cell? ⟨w9.heap.size, 11, none⟩ = some (.slice none 0 0) := (AccSt.cell HZ3.out 11).trans rfl; have m12 : w8.cell? ⟨w9.heap.size, 12, none⟩ = some (.bool false) := (AccSt.cell HZ3.out 12).trans rfl; have m13 : w8.cell? ⟨w9.heap.size, 13, none⟩ = some (.int .i64 0) := (AccSt.cell HZ3.out 13).trans rfl; have fz := AccSt.free HZ3.out; have HF := Lib.hid (AccSt.ahead HZ3.out rfl (.int .i64 (d : Int)) (.bool true) (.int .i64 0) (.bool m.aa) (.bool false) (.bool m.rd) (.bool m.ra) (.int .i64 0) (.slice sm.Q 1 sm.qc) (.slice sm.A m.an.length sm.ac) (.slice sm.U m.au.length sm.uc) (.slice sm.X m.ex.length sm.xc) (.bool m.edns) (.int .i64 m.size)); have q9 := HDDw9.out _ HF.out.bw; unfold put14 at HF q9)
          | (go_at_call 17; (with_reducible refine (HOIw9.out w9.drew bl.drew).mono ?_); rintro e w7 ⟨v7, rfl, ⟨s7, rfl, hi7⟩, hb7⟩; unfold ouV ouCells; have HI7 := Lib.hid hi7; have HS7 : Hid (∀ b, geS w9.drew.heap.size w7 b → b < w7.heap.size) := (fun b hb => hb.2); have HB7 : Hid (Below w9.heap.size w9 w7) := bl.drew.trans hb7; have q5 := HDDw9.out w7 HB7.out; have HZ5 : Hid (AccSt w9 (w7.alloc (.cells #[.int .i64 0, .bool false, .int .i64 0, .bool false, .bool false, .bool false, .bool false, .int .i64 0, .slice none 0 0, .slice none 0 0, .slice none 0 0, .slice none 0 0, .bool false, .int .i64 0] 31)) w7.heap.size #[.int .i64 0, .bool false, .int .i64 0, .bool false, .bool false, .bool false, .bool false, .int .i64 0, .slice none 0 0, .slice none 0 0, .slice none 0 0, .slice none 0 0, .bool false, .int .i64 0]) := AccSt.after HB7.out _; have HI5 := Lib.hid (hi7.below (bl.alloc (Nat.le_refl _) (.cells #[.int .i64 0, .bool false, .int .i64 0, .bool false, .bool false, .bool false, .bool false, .int .i64 0, .slice none 0 0, .slice none 0 0, .slice none 0 0, .slice none 0 0, .bool false, .int .i64 0] 31)) (fun b hb => hb.2)); have HS5 : Hid (∀ b, geS w9.drew.heap.size w7 b → b < (w7.alloc (.cells #[.int .i64 0, .bool false, .int .i64 0, .bool false, .bool false, .bool false, .bool false, .int .i64 0, .slice none 0 0, .slice none 0 0, .slice none 0 0, .slice none 0 0, .bool false, .int .i64 0] 31)).heap.size) := (fun b hb => Nat.lt_of_lt_of_le hb.2 (bl.alloc (Nat.le_refl _) (.cells #[.int .i64 0, .bool false, .int .i64 0, .bool false, .bool false, .bool false, .bool false, .int .i64 0, .slice none 0 0, .slice none 0 0, .slice none 0 0, .slice none 0 0, .bool false, .int .i64 0] 31)).size); have q6 := HDDw9.out _ HZ5.out.bw)
          | (go_at_call 17; (with_reducible refine (HOIw9.out (w9.alloc (.cells #[.int .i64 0, .bool false, .int .i64 0, .bool false, .bool false, .bool false, .bool false, .int .i64 0, .slice none 0 0, .slice none 0 0, .slice none 0 0, .slice none 0 0, .bool false, .int .i64 0] 31)).drew HZ1.out.bw).mono ?_); rintro e w6a ⟨v7, rfl, ⟨s7, rfl, hi7⟩, hb7⟩; unfold ouV ouCells; have HI7 := Lib.hid hi7; have HS7 : Hid (∀ b, geS (w9.alloc (.cells #[.int .i64 0, .bool false, .int .i64 0, .bool false, .bool false, .bool false, .bool false, .int .i64 0, .slice none 0 0, .slice none 0 0, .slice none 0 0, .slice none 0 0, .bool false, .int .i64 0] 31)).drew.heap.size w6a b → b < w6a.heap.size) := (fun b hb => hb.2); have HZ2 := Lib.hid (AccSt.below HZ1.out hb7); have q5 := HDDw9.out w6a HZ2.out.bw)
          | fail)
      all_goals
        go_wp2
        go_meet
        case rel => exact ⟨_, sm, rfl, rfl, HF⟩
    case rest =>
      obtain ⟨gm, sm, rfl, rfl, HAS⟩ := hcut
      obtain ⟨x0, x1, x2, x3, x4, x5, x6, x7, x8⟩ := HDDw9.out wc HAS.out.bw
      have HOW : Hid (OwnB wc w7.heap.size (.slice (some ⟨ga, 0, none⟩) o.addr.length ca) o.addr) := (HOA.out.below HB89.out).below HAS.out.bw
      have h3n : 3 < o.addr.length := by have := HN.out.2; omega
      have h3i : (3 : Int) < (o.addr.length : Int) := by omega
      obtain ⟨kb, hkb⟩ : ∃ k, k = (o.addr[3]'h3n).toNat := ⟨_, rfl⟩
      have x9 : wc.cell? ⟨ga, 3, none⟩ = some (.int .u8 (kb : Int)) := by rw [hkb]; exact OwnB.cell HOW.out (k := 3) h3n
      have f9 := OwnB.free HOW.out 3
      have HKB := Lib.hid hkb
      have hkl : kb < 256 := by rw [hkb]; exact UInt8.toNat_lt _
      clear hkb
      go_upto_region 12 with (fail)
      go_still_tail 8, (by kernel_rfl)
      change wpList _ _ _ _ _ wc.drew
      go_upto_region 13 with (fail)
      obtain ⟨wD, hwD⟩ : ∃ u, u = (wc.setCell ⟨ga, 3, none⟩ (.int .u8 (((kb : Int) + 1) % 256))).drew := ⟨_, rfl⟩
      obtain ⟨y, hy⟩ : ∃ y : UInt8, y = o.addr[3]'h3n + 1 := ⟨_, rfl⟩
      have hyv : ((kb : Int) + 1) % 256 = ((y.toNat : Nat) : Int) := by
        rw [hy, UInt8.toNat_add, ← HKB.out]
        show _ = (((kb + 1) % 256 : Nat) : Int)
        omega
      have hne : o.addr.set 3 y ≠ o.addr := fun e => by
        have h1 : (o.addr.set 3 y)[3]? = some y := by rw [List.getElem?_set_self h3n]
        rw [e, List.getElem?_eq_getElem h3n] at h1
        injection h1 with h1
        rw [← h1, ← HKB.out] at hyv
        omega
      have hcD : Chg (fun k => k = ga) wc wD := by rw [hwD]; exact ((Chg.refl (fun k => k = ga) wc).setCell (p := ⟨ga, 3, none⟩) (Or.inl rfl) _).drew
      have HOD : Hid (OwnB wD w7.heap.size (.slice (some ⟨ga, 0, none⟩) o.addr.length ca) (o.addr.set 3 y)) := by
        show OwnB _ _ _ _
        rw [hwD, hyv]
        exact (OwnB.set HOW.out 3 y).drew
      have hs7 := HB7.out.size
      have hs9c := (nx HB9.out HAS.out.bw).size
      have hga := HCA.out.2.2.1
      have HBD : Hid (Below w.heap.size w wD) := (nx HB9.out HAS.out.bw).trans (hcD.below (fun x hx => by omega) hs9c)
      have hq7 := HO7.out.lt
      have HRD : Hid (ORow wD q s o) := hcD.heap (((HO7.out.below (nx HB78.out HB89.out))).below HAS.out.bw) (by omega)
      have HDW : Hid (wD.heap[dg]? = some (.cells #[.slice (some ⟨ga, 0, none⟩) o.addr.length ca, .int .i64 (p : Int), .slice A6 n c6] 38 (0, 0))) := hcD.heap ((HAS.out.bw.block dg (Array.getElem?_eq_some_iff.1 HDR.out).1).trans HDR.out) (by have := HGD.out; omega)
      have HBD6 : Hid (RdB wD A6 n B) := RdB.chgP ((HRB.out.1.below (nx HB78.out HB89.out)).below HAS.out.bw) hcD (fun b off e => by have := HBT7.out b off e; omega)
      have HBW : Hid (∀ b off, A6 = some ⟨b, off, none⟩ → b < wD.heap.size) := fun b off e => Nat.lt_of_lt_of_le (Nat.lt_of_lt_of_le (HBT7.out b off e) (nx HB78.out (nx HB89.out HAS.out.bw)).size) hcD.size
      have HNE : Hid (o.addr.set 3 y ≠ o.addr) := hne
      have HGL : Hid (∀ b off, (some ⟨ga, 0, none⟩ : Option Addr) = some ⟨b, off, none⟩ → b < wD.heap.size) := ownB_blt18 HOD.out
      have hyl : (o.addr.set 3 y).length = o.addr.length := List.length_set
      rw [← hwD]
      clear hwD hcD hs7 hs9c hga hq7 hne hyv hy HKB hkl x9 f9 h3i x0 x1 x2 x3 x4 x5 x6 x7 x8 HDDw9 HOIw9 HACw9
      have HDDwD : Hid (∀ w', Below wD.heap.size wD w' → (w'.cell? ⟨q, 0, none⟩ = some (.slice s.A o.addr.length s.c) ∧ w'.cell? ⟨q, 1, none⟩ = some (.int .i64 o.port) ∧ w'.cell? ⟨q, 2, none⟩ = some (.int .i64 o.id) ∧ w'.cell? ⟨q, 3, none⟩ = some (.slice s.q.A o.q.name.length s.q.c) ∧ w'.cell? ⟨q, 4, none⟩ = some (.int .i64 o.q.type) ∧ w'.cell? ⟨q, 5, none⟩ = some (.int .i64 o.q.cls) ∧ w'.cell? ⟨dg, 0, none⟩ = some (.slice (some ⟨ga, 0, none⟩) o.addr.length ca) ∧ w'.cell? ⟨dg, 1, none⟩ = some (.int .i64 (p : Int)) ∧ w'.cell? ⟨dg, 2, none⟩ = some (.slice A6 n c6))) := fun w' hw => by
        have g := (hw.block dg (Array.getElem?_eq_some_iff.1 HDW.out).1).trans HDW.out
        obtain ⟨z0, z1, z2, z3, z4, z5⟩ := (HRD.out.below hw).cells
        exact ⟨z0, z1, z2, z3, z4, z5, (cell_of_row _ _ _ _ _ _ g).trans rfl, (cell_of_row _ _ _ _ _ _ g).trans rfl, (cell_of_row _ _ _ _ _ _ g).trans rfl⟩
      have HOIwD : Hid (∀ w', Below wD.heap.size wD w' → Calls Try.prog 17 #[.agg #[.slice s.A o.addr.length s.c, .int .i64 o.port, .int .i64 o.id, .slice s.q.A o.q.name.length s.q.c, .int .i64 o.q.type, .int .i64 o.q.cls]] w' (RetP (fun v w'' => ∃ s', v = ouV s' o ∧ OIn (geS w'.heap.size w'') w'' s' o) w')) := fun w' hw => own18_any s o w' (HIW.out w' (nx HBD.out hw)) (fun b hb => Nat.lt_of_lt_of_le hb (nx HBD.out hw).size) HN.out.1 (by have := HN.out.2; omega)
      have HACwD : Hid (∀ (w7 : World) (s7 : OuS) (S : Nat → Prop), Below wD.heap.size wD w7 → OIn S w7 s7 o → (∀ b, S b → b < w7.heap.size) → Calls Try.prog 16 #[.agg #[.slice s7.A o.addr.length s7.c, .int .i64 o.port, .int .i64 o.id, .slice s7.q.A o.q.name.length s7.q.c, .int .i64 o.q.type, .int .i64 o.q.cls], .agg #[.slice (some ⟨ga, 0, none⟩) o.addr.length ca, .int .i64 (p : Int), .slice A6 n c6]] w7 (RetP (fun v _ => ∃ sm : MS, v = .tuple #[.agg #[.int .i64 0, .bool false, .int .i64 0, .bool false, .bool false, .bool false, .bool false, .int .i64 0, .slice none 0 0, .slice none 0 0, .slice none 0 0, .slice none 0 0, .bool false, .int .i64 0], .bool false]) w7)) := fun w7 s7 S hb hi hs => by
        refine Calls.mono (accept_addr s7 o (some ⟨ga, 0, none⟩) o.addr.length ca (o.addr.set 3 y) (p : Int) A6 n c6 B w7 hi hs (by have h := (OwnB.rd HOD.out).1.below hb; exact h) (HBD6.out.below hb) (fun b off e => Nat.lt_of_lt_of_le (HBW.out b off e) hb.size) ⟨HRB.out.2.1, Nat.le_trans HRB.out.2.2.1 (by unfold maxLen; omega)⟩ (Nat.le_trans HRB.out.2.2.2.1 (by omega)) HN.out.2 HNE.out) ?_
        rintro e w8 ⟨v8, rfl, rfl, hb8⟩
        exact ⟨_, rfl, ⟨MS.nil, rfl⟩, hb8⟩
      go_upto_region 13 with (fail)
      go_cut [15, 16] (fun pv bv wc => ∃ (g : Nat) (sm : MS), pv = .pointer (some ⟨g, 0, none⟩) ∧ bv = .bool false ∧ Hid (AccSt wD wc g #[.int .i64 0, .bool false, .int .i64 0, .bool false, .bool false, .bool false, .bool false, .int .i64 0, .slice none 0 0, .slice none 0 0, .slice none 0 0, .slice none 0 0, .bool false, .int .i64 0]))
      case first =>
        have HZ0 : Hid (AccSt wD (wD.alloc (.cells #[.int .i64 0, .bool false, .int .i64 0, .bool false, .bool false, .bool false, .bool false, .int .i64 0, .slice none 0 0, .slice none 0 0, .slice none 0 0, .slice none 0 0, .bool false, .int .i64 0] 31)) wD.heap.size #[.int .i64 0, .bool false, .int .i64 0, .bool false, .bool false, .bool false, .bool false, .int .i64 0, .slice none 0 0, .slice none 0 0, .slice none 0 0, .slice none 0 0, .bool false, .int .i64 0]) := AccSt.after bl _
        have HZ1 : Hid (AccSt wD (wD.alloc (.cells #[.int .i64 0, .bool false, .int .i64 0, .bool false, .bool false, .bool false, .bool false, .int .i64 0, .slice none 0 0, .slice none 0 0, .slice none 0 0, .slice none 0 0, .bool false, .int .i64 0] 31)).drew wD.heap.size #[.int .i64 0, .bool false, .int .i64 0, .bool false, .bool false, .bool false, .bool false, .int .i64 0, .slice none 0 0, .slice none 0 0, .slice none 0 0, .slice none 0 0, .bool false, .int .i64 0]) := AccSt.below HZ0.out bl.drew
        have q1 := HDDwD.out wD bl
        have q2 := HDDwD.out wD.drew bl.drew
        have q3 := HDDwD.out (wD.alloc (.cells #[.int .i64 0, .bool false, .int .i64 0, .bool false, .bool false, .bool false, .bool false, .int .i64 0, .slice none 0 0, .slice none 0 0, .slice none 0 0, .slice none 0 0, .bool false, .int .i64 0] 31)) HZ0.out.bw
        have q4 := HDDwD.out (wD.alloc (.cells #[.int .i64 0, .bool false, .int .i64 0, .bool false, .bool false, .bool false, .bool false, .int .i64 0, .slice none 0 0, .slice none 0 0, .slice none 0 0, .slice none 0 0, .bool false, .int .i64 0] 31)).drew HZ1.out.bw
        go_region_held3 (fun w' => w'.cell? ⟨q, 0, none⟩ = some (.slice s.A o.addr.length s.c) ∧ w'.cell? ⟨q, 1, none⟩ = some (.int .i64 o.port) ∧ w'.cell? ⟨q, 2, none⟩ = some (.int .i64 o.id) ∧ w'.cell? ⟨q, 3, none⟩ = some (.slice s.q.A o.q.name.length s.q.c) ∧ w'.cell? ⟨q, 4, none⟩ = some (.int .i64 o.q.type) ∧ w'.cell? ⟨q, 5, none⟩ = some (.int .i64 o.q.cls) ∧ w'.cell? ⟨dg, 0, none⟩ = some (.slice (some ⟨ga, 0, none⟩) o.addr.length ca) ∧ w'.cell? ⟨dg, 1, none⟩ = some (.int .i64 (p : Int)) ∧ w'.cell? ⟨dg, 2, none⟩ = some (.slice A6 n c6))
          (first
            | with_reducible exact q1
            | with_reducible exact q2
            | with_reducible exact q3
            | with_reducible exact q4
            | with_reducible exact q5
            | with_reducible exact q6
            | with_reducible exact q7
            | with_reducible exact q8
            | with_reducible exact q9
            | with_reducible exact q10
            | fail)
          (first
            | (go_at_call 16; (with_reducible refine (HACwD.out (w7.alloc (.cells #[.int .i64 0, .bool false, .int .i64 0, .bool false, .bool false, .bool false, .bool false, .int .i64 0, .slice none 0 0, .slice none 0 0, .slice none 0 0, .slice none 0 0, .bool false, .int .i64 0] 31)) s7 _ HZ5.out.bw HI5.out HS5.out).mono ?_); rintro e w8 ⟨v8, rfl, ⟨sm, rfl⟩, hb8⟩; have HZ3 := Lib.hid (AccSt.below HZ5.out hb8); have q8 := HDDwD.out w8 HZ3.out.bw; have m0 : w8.cell? ⟨w7.heap.size, 0, none⟩ = some (.int .i64 0) := (AccSt.cell HZ3.out 0).trans rfl; have m1 : w8.cell? ⟨w7.heap.size, 1, none⟩ = some (.bool false) := (AccSt.cell HZ3.out 1).trans rfl; have m2 : w8.cell? ⟨w7.heap.size, 2, none⟩ = some (.int .i64 0) := (AccSt.cell HZ3.out 2).trans rfl; have m3 : w8.cell? ⟨w7.heap.size, 3, none⟩ = some (.bool false) := (AccSt.cell HZ3.out 3).trans rfl; have m4 : w8.cell? ⟨w7.heap.size, 4, none⟩ = some (.bool false) := (AccSt.cell HZ3.out 4).trans rfl; have m5 : w8.cell? ⟨w7.heap.size, 5, none⟩ = some (.bool false) := (AccSt.cell HZ3.out 5).trans rfl; have m6 : w8.cell? ⟨w7.heap.size, 6, none⟩ = some (.bool false) := (AccSt.cell HZ3.out 6).trans rfl; have m7 : w8.cell? ⟨w7.heap.size, 7, none⟩ = some (.int .i64 0) := (AccSt.cell HZ3.out 7).trans rfl; have m8 : w8.cell? ⟨w7.heap.size, 8, none⟩ = some (.slice none 0 0) := (AccSt.cell HZ3.out 8).trans rfl; have m9 : w8.cell? ⟨w7.heap.size, 9, none⟩ = some (.slice none 0 0) := (AccSt.cell HZ3.out 9).trans rfl; have m10 : w8.cell? ⟨w7.heap.size, 10, none⟩ = some (.slice none 0 0) := (AccSt.cell HZ3.out 10).trans rfl; have m11 : w8.cell? ⟨w7.heap.size, 11, none⟩ = some (.slice none 0 0) := (AccSt.cell HZ3.out 11).trans rfl; have m12 : w8.cell? ⟨w7.heap.size, 12, none⟩ = some (.bool false) := (AccSt.cell HZ3.out 12).trans rfl; have m13 : w8.cell? ⟨w7.heap.size, 13, none⟩ = some (.int .i64 0) := (AccSt.cell HZ3.out 13).trans rfl; have fz := AccSt.free HZ3.out; have HF := Lib.hid (AccSt.ahead HZ3.out rfl (.int .i64 0) (.bool false) (.int .i64 0) (.bool false) (.bool false) (.bool false) (.bool false) (.int .i64 0) (.slice none 0 0) (.slice none 0 0) (.slice none 0 0) (.slice none 0 0) (.bool false) (.int .i64 0)); have q9 := HDDwD.out _ HF.out.bw; unfold put14 at HF q9)
            | (go_at_call 16; (with_reducible refine (HACwD.out w7 s7 _ HB7.out HI7.out HS7.out).mono ?_); rintro e w8 ⟨v8, rfl, ⟨sm, rfl⟩, hb8⟩; have HB8 := Lib.hid (nx HB7.out hb8); have q8 := HDDwD.out w8 HB8.out; have HF := Lib.hid (AccSt.after HB8.out #[.int .i64 0, .bool false, .int .i64 0, .bool false, .bool false, .bool false, .bool false, .int .i64 0, .slice none 0 0, .slice none 0 0, .slice none 0 0, .slice none 0 0, .bool false, .int .i64 0]); have q9 := HDDwD.out _ HF.out.bw; have HY := Lib.hid (AccSt.after HB8.out #[.int .i64 0, .bool false, .int .i64 0, .bool false, .bool false, .bool false, .bool false, .int .i64 0, .slice none 0 0, .slice none 0 0, .slice none 0 0, .slice none 0 0, .bool false, .int .i64 0]); have q10 := HDDwD.out _ HY.out.bw)
            | (go_at_call 16; (with_reducible refine (HACwD.out w6a s7 _ HZ2.out.bw HI7.out HS7.out).mono ?_); rintro e w8 ⟨v8, rfl, ⟨sm, rfl⟩, hb8⟩; have HZ3 := Lib.hid (AccSt.below HZ2.out hb8); have q8 := HDDwD.out w8 HZ3.out.bw; have m0 : w8.cell? ⟨wD.heap.size, 0, none⟩ = some (.int .i64 0) := (AccSt.cell HZ3.out 0).trans rfl; have m1 : w8.cell? ⟨wD.heap.size, 1, none⟩ = some (.bool false) := (AccSt.cell HZ3.out 1).trans rfl; have m2 : w8.cell? ⟨wD.heap.size, 2, none⟩ = some (.int .i64 0) := (AccSt.cell HZ3.out 2).trans rfl; have m3 : w8.cell? ⟨wD.heap.size, 3, none⟩ = some (.bool false) := (AccSt.cell HZ3.out 3).trans rfl; have m4 : w8.cell? ⟨wD.heap.size, 4, none⟩ = some (.bool false) := (AccSt.cell HZ3.out 4).trans rfl; have m5 : w8.cell? ⟨wD.heap.size, 5, none⟩ = some (.bool false) := (AccSt.cell HZ3.out 5).trans rfl; have m6 : w8.cell? ⟨wD.heap.size, 6, none⟩ = some (.bool false) := (AccSt.cell HZ3.out 6).trans rfl; have m7 : w8.cell? ⟨wD.heap.size, 7, none⟩ = some (.int .i64 0) := (AccSt.cell HZ3.out 7).trans rfl; have m8 : w8.cell? ⟨wD.heap.size, 8, none⟩ = some (.slice none 0 0) := (AccSt.cell HZ3.out 8).trans rfl; have m9 : w8.cell? ⟨wD.heap.size, 9, none⟩ = some (.slice none 0 0) := (AccSt.cell HZ3.out 9).trans rfl; have m10 : w8.cell? ⟨wD.heap.size, 10, none⟩ = some (.slice none 0 0) := (AccSt.cell HZ3.out 10).trans rfl; have m11 : w8.cell? ⟨wD.heap.size, 11, none⟩ = some (.slice none 0 0) := (AccSt.cell HZ3.out 11).trans rfl; have m12 : w8.cell? ⟨wD.heap.size, 12, none⟩ = some (.bool false) := (AccSt.cell HZ3.out 12).trans rfl; have m13 : w8.cell? ⟨wD.heap.size, 13, none⟩ = some (.int .i64 0) := (AccSt.cell HZ3.out 13).trans rfl; have fz := AccSt.free HZ3.out; have HF := Lib.hid (AccSt.ahead HZ3.out rfl (.int .i64 0) (.bool false) (.int .i64 0) (.bool false) (.bool false) (.bool false) (.bool false) (.int .i64 0) (.slice none 0 0) (.slice none 0 0) (.slice none 0 0) (.slice none 0 0) (.bool false) (.int .i64 0)); have q9 := HDDwD.out _ HF.out.bw; unfold put14 at HF q9)
            | (go_at_call 17; (with_reducible refine (HOIwD.out wD.drew bl.drew).mono ?_); rintro e w7 ⟨v7, rfl, ⟨s7, rfl, hi7⟩, hb7⟩; unfold ouV ouCells; have HI7 := Lib.hid hi7; have HS7 : Hid (∀ b, geS wD.drew.heap.size w7 b → b < w7.heap.size) := (fun b hb => hb.2); have HB7 : Hid (Below wD.heap.size wD w7) := bl.drew.trans hb7; have q5 := HDDwD.out w7 HB7.out; have HZ5 : Hid (AccSt wD (w7.alloc (.cells #[.int .i64 0, .bool false, .int .i64 0, .bool false, .bool false, .bool false, .bool false, .int .i64 0, .slice none 0 0, .slice none 0 0, .slice none 0 0, .slice none 0 0, .bool false, .int .i64 0] 31)) w7.heap.size #[.int .i64 0, .bool false, .int .i64 0, .bool false, .bool false, .bool false, .bool false, .int .i64 0, .slice none 0 0, .slice none 0 0, .slice none 0 0, .slice none 0 0, .bool false, .int .i64 0]) := AccSt.after HB7.out _; have HI5 := Lib.hid (hi7.below (bl.alloc (Nat.le_refl _) (.cells #[.int .i64 0, .bool false, .int .i64 0, .bool false, .bool false, .bool false, .bool false, .int .i64 0, .slice none 0 0, .slice none 0 0, .slice none 0 0, .slice none 0 0, .bool false, .int .i64 0] 31)) (fun b hb => hb.2)); have HS5 : Hid (∀ b, geS wD.drew.heap.size w7 b → b < (w7.alloc (.cells #[.int .i64 0, .bool false, .int .i64 0, .bool false, .bool false, .bool false, .bool false, .int .i64 0, .slice none 0 0, .slice none 0 0, .slice none 0 0, .slice none 0 0, .bool false, .int .i64 0] 31)).heap.size) := (fun b hb => Nat.lt_of_lt_of_le hb.2 (bl.alloc (Nat.le_refl _) (.cells #[.int .i64 0, .bool false, .int .i64 0, .bool false, .bool false, .bool false, .bool false, .int .i64 0, .slice none 0 0, .slice none 0 0, .slice none 0 0, .slice none 0 0, .bool false, .int .i64 0] 31)).size); have q6 := HDDwD.out _ HZ5.out.bw)
            | (go_at_call 17; (with_reducible refine (HOIwD.out (wD.alloc (.cells #[.int .i64 0, .bool false, .int .i64 0, .bool false, .bool false, .bool false, .bool false, .int .i64 0, .slice none 0 0, .slice none 0 0, .slice none 0 0, .slice none 0 0, .bool false, .int .i64 0] 31)).drew HZ1.out.bw).mono ?_); rintro e w6a ⟨v7, rfl, ⟨s7, rfl, hi7⟩, hb7⟩; unfold ouV ouCells; have HI7 := Lib.hid hi7; have HS7 : Hid (∀ b, geS (wD.alloc (.cells #[.int .i64 0, .bool false, .int .i64 0, .bool false, .bool false, .bool false, .bool false, .int .i64 0, .slice none 0 0, .slice none 0 0, .slice none 0 0, .slice none 0 0, .bool false, .int .i64 0] 31)).drew.heap.size w6a b → b < w6a.heap.size) := (fun b hb => hb.2); have HZ2 := Lib.hid (AccSt.below HZ1.out hb7); have q5 := HDDwD.out w6a HZ2.out.bw)
            | fail)
        all_goals
          go_wp2
          go_meet
          case rel => exact ⟨_, sm, rfl, rfl, HF⟩
      case rest =>
        obtain ⟨gz, sz, rfl, rfl, HZS⟩ := hcut
        go_wp2
        go_ret
        exact ⟨rfl, nx HBD.out HZS.out.bw⟩

set_option maxHeartbeats 8000000 in
theorem scrubGuess_long (s : OuS) (o : Ou) (t : MS) (m : Ms) (p d : Nat) (w : World) (h : OIn (ltS w) w s o) (hm : MIn (ltS w) w t m) (hp : p < 65536) (hd : d < 65536) (hq : m.qs.length ≤ 1048576) (hb3 : m.an.length ≤ 1048576 ∧ m.au.length ≤ 1048576 ∧ m.ex.length ≤ 1048576) (hl : 200 < o.q.name.length ∨ o.addr.length ≠ 4 ∨ 60 < m.an.length + m.au.length + m.ex.length) :
    Calls Try.prog 3 #[ouV s o, msV t m, .int .u16 (p : Int), .int .u16 (d : Int)] w (LawT w) := by
  obtain ⟨w1, hw1⟩ : ∃ w1, w1 = w.alloc (.cells (ouCells s o) 27) := ⟨_, rfl⟩
  obtain ⟨w2, hw2⟩ : ∃ w2, w2 = w1.alloc (.cells (mCells t m) 31) := ⟨_, rfl⟩
  have hb1 : Below w.heap.size w w1 := by rw [hw1]; exact bl.alloc (Nat.le_refl _) _
  have hb2 : Below w1.heap.size w1 w2 := by rw [hw2]; exact bl.alloc (Nat.le_refl _) _
  have hz1 : w1.heap.size = w.heap.size + 1 := by rw [hw1]; simp
  have hz2 : w2.heap.size = w.heap.size + 2 := by rw [hw2]; simp; omega
  have HR1 : Hid (ORow w2 w.heap.size s o) := by
    have h : ORow w1 w.heap.size s o := by rw [hw1]; exact ORow.made w s o
    exact h.below hb2
  have HM1 : Hid (MRow w2 (w.heap.size + 1) t m) := by show MRow _ _ _ _; rw [hw2, ← hz1]; exact MRow.made w1 t m
  have HB2 : Hid (Below w.heap.size w w2) := nx hb1 hb2
  have HZ2 := Lib.hid hz2
  have HIW : Hid (∀ w', Below w.heap.size w w' → OIn (ltS w) w' s o) := fun w' hw => h.below hw (fun b hb => hb)
  have HMW : Hid (∀ w', Below w.heap.size w w' → MIn (ltS w) w' t m) := fun w' hw => hm.below hw (fun b hb => hb)
  obtain ⟨k1, k2, k3⟩ := hb3
  unfold ouV msV
  unfold ouCells at hw1 ⊢
  unfold mCells at hw2 ⊢
  clear h hm hb1 hb2 hz1 hz2 hq HIW HMW hp hd
  by_cases h2 : (200 : Int) < (o.q.name.length : Int)
  · clear hl
    go_enter Try.func3, Try.ntmps3
    go_upto_region 1 with (fail)
    rw [← hw1, ← hw2]
    clear hw1 hw2
    generalize hqe : w.heap.size = q at HR1 HM1 HZ2 ⊢
    clear hqe
    go_wp2_with (first
      | (go_at_call 14; refine (answers18_any w3).mono ?_; rintro e w4 ⟨rfl, hb4⟩)
      | (go_at_call 14; refine (answers18_any w2).mono ?_; rintro e w3 ⟨rfl, hb3⟩; obtain ⟨x0, x1, x2, x3, x4, x5⟩ := (HR1.out.below hb3).cells; obtain ⟨z0, z1, z2, z3, z4, z5, z6, z7, z8, z9, z10, z11, z12, z13⟩ := (HM1.out.below hb3).cells)
      | fail)
    go_ret
    exact ⟨rfl, nx (nx HB2.out hb3) hb4⟩
  · by_cases h3 : o.addr.length = 4
    · have hs' : (60 : Int) < (m.an.length : Int) + (m.au.length : Int) + (m.ex.length : Int) := by omega
      have ha' : ((o.addr.length : Int) != 4) = false := by rw [h3]; rfl
      clear hl h3
      go_enter Try.func3, Try.ntmps3
      go_upto_region 1 with (fail)
      rw [← hw1, ← hw2]
      clear hw1 hw2
      generalize hqe : w.heap.size = q at HR1 HM1 HZ2 ⊢
      clear hqe
      go_wp2_with (first
        | (go_at_call 14; refine (answers18_any w3).mono ?_; rintro e w4 ⟨rfl, hb4⟩)
        | (go_at_call 14; refine (answers18_any w2).mono ?_; rintro e w3 ⟨rfl, hb3⟩; obtain ⟨x0, x1, x2, x3, x4, x5⟩ := (HR1.out.below hb3).cells; obtain ⟨z0, z1, z2, z3, z4, z5, z6, z7, z8, z9, z10, z11, z12, z13⟩ := (HM1.out.below hb3).cells)
        | fail)
      go_ret
      exact ⟨rfl, nx (nx HB2.out hb3) hb4⟩
    · have ha' : ((o.addr.length : Int) != 4) = true := by simp; omega
      clear hl h3
      go_enter Try.func3, Try.ntmps3
      go_upto_region 1 with (fail)
      rw [← hw1, ← hw2]
      clear hw1 hw2
      generalize hqe : w.heap.size = q at HR1 HM1 HZ2 ⊢
      clear hqe
      go_wp2_with (first
        | (go_at_call 14; refine (answers18_any w3).mono ?_; rintro e w4 ⟨rfl, hb4⟩)
        | (go_at_call 14; refine (answers18_any w2).mono ?_; rintro e w3 ⟨rfl, hb3⟩; obtain ⟨x0, x1, x2, x3, x4, x5⟩ := (HR1.out.below hb3).cells; obtain ⟨z0, z1, z2, z3, z4, z5, z6, z7, z8, z9, z10, z11, z12, z13⟩ := (HM1.out.below hb3).cells)
        | fail)
      go_ret
      exact ⟨rfl, nx (nx HB2.out hb3) hb4⟩
theorem scrubGuess_walk (s : OuS) (o : Ou) (t : MS) (m : Ms) (p d : Nat) (w : World) (h : OIn (ltS w) w s o) (hm : MIn (ltS w) w t m) (hp : p < 65536) (hd : d < 65536) (hq : m.qs.length ≤ 1048576) (hb3 : m.an.length ≤ 1048576 ∧ m.au.length ≤ 1048576 ∧ m.ex.length ≤ 1048576) (hr : ∀ r ∈ m.an ++ m.au ++ m.ex, Lt9 r ∧ r.data.bytes.length ≤ 1000000000) : Calls Try.prog 3 #[ouV s o, msV t m, .int .u16 (p : Int), .int .u16 (d : Int)] w (LawT w) := by
  by_cases hl : 200 < o.q.name.length ∨ o.addr.length ≠ 4 ∨ 60 < m.an.length + m.au.length + m.ex.length
  · exact scrubGuess_long s o t m p d w h hm hp hd hq hb3 hl
  · by_cases hport : (p : Int) = o.port
    · by_cases hid : (d : Int) = o.id
      · exact scrubGuess_yes s o t m p d w h hm hp hd hq hb3 hport hid (by omega) (by omega) (by omega) hr
      · exact scrubGuess_id s o t m p d w h hm hp hd hq hb3 hport hid (by omega) (by omega) (by omega) hr
    · exact scrubGuess_port s o t m p d w h hm hp hd hq hb3 hport (by omega) (by omega) (by omega) hr
end Go.Proofs.Ytimkdpkhdbiniaa
