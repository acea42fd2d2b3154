/- Parts of a proof, joined: Tel6, Tel7. -/
import Derived.Test.YtimkdpkhdbiniaaZDX12
import Derived.Test.YtimkdpkhdbiniaaZDX11
import Derived.Test.YtimkdpkhdbiniaaZDX8
/- teller.answers, loosely (printed by gen/tel6.py). -/
namespace Go.Proofs.Ytimkdpkhdbiniaa
open Go.RowKit
set_option maxRecDepth 100000
set_option linter.unusedVariables false

/-- Elements that are read from blocks that are not among X. -/
def ElIn {α : Type} (E : Enc α) (w : World) (X : Nat → Prop) (A : Option Addr) (n : Nat) (xs : List α) : Prop := ∃ S, Els E S S w A n xs ∧ ∀ b, S b → b < w.heap.size ∧ ¬ X b
section
variable {α : Type} {E : Enc α} {w w' : World} {X X' F : Nat → Prop} {A : Option Addr} {n : Nat} {xs : List α}
theorem ElIn.rd (h : ElIn E w X A n xs) : RdE E w A n xs := by
  obtain ⟨S, he, hS⟩ := h
  exact he.mono (fun b hb => (hS b hb).1) (fun b hb => (hS b hb).1)
theorem ElIn.chg (h : ElIn E w X A n xs) (hc : Chg F w w') (hF : ∀ b, F b → X b) (hX : ∀ b, X' b → X b ∨ w.heap.size ≤ b) : ElIn E w' X' A n xs := by
  obtain ⟨S, he, hS⟩ := h
  have k : ∀ b, S b → w'.heap[b]? = w.heap[b]? := fun b hb => hc.block b (hS b hb).1 (fun e => (hS b hb).2 (hF b e))
  exact ⟨S, he.keep k k, fun b hb => ⟨Nat.lt_of_lt_of_le (hS b hb).1 hc.size, fun e => (hX b e).elim (hS b hb).2 (fun h => by have := (hS b hb).1; omega)⟩⟩
theorem ElIn.below (h : ElIn E w X A n xs) (hb : Below w.heap.size w w') : ElIn E w' X A n xs := h.chg (F := fun _ => False) (Chg.of_below hb) (fun _ h => h.elim) (fun _ h => .inl h)
/-- Behind a call of the teller. -/
theorem ElIn.tx {t : Nat} {v v' : Value} (h : ElIn E w (fun b => b = t ∨ v.ownBlock = some b) A n xs) (hX : TX t w v w' v') : ElIn E w' (fun b => b = t ∨ v'.ownBlock = some b) A n xs :=
  h.chg hX.C (fun b hb => hb) (fun b hb => hb.elim (fun e => .inl (.inl e)) (fun e => (hX.N b e).elim (fun e => .inl (.inr e)) .inr))
end
theorem NmIn.tx {w w' : World} {A : Option Addr} {c : Nat} {ns : List (List UInt8)} {t : Nat} {v v' : Value} (h : NmIn w (fun b => b = t ∨ v.ownBlock = some b) A c ns) (hX : TX t w v w' v') : NmIn w' (fun b => b = t ∨ v'.ownBlock = some b) A c ns :=
  h.chg hX.C (fun b hb => hb) (fun b hb => hb.elim (fun e => .inl (.inl e)) (fun e => (hX.N b e).elim (fun e => .inl (.inr e)) .inr))
/-- Where the loop over the names of the answers stands. -/
structure AnSt (p : TP) (B : Nat) (Y : Nat → Prop) (t : Nat) (w : World) (v : Value) (out : List Fa) (A : Option Addr) (c : Nat) (ns : List (List UInt8)) (QA : Option Addr) (qs : List Qu) (k : Nat) (wr : World) (v' : Value) (out' : List Fa) : Prop where
  T : TSt p B Y wr t v' out'
  X : TX t w v wr v'
  nm : NmIn wr (fun b => b = t ∨ v'.ownBlock = some b) A c ns
  qs : ElIn encQu wr (fun b => b = t ∨ v'.ownBlock = some b) QA qs.length qs
  ol : out'.length ≤ out.length + k
  good : ∀ f ∈ out', f ∈ out ∨ GoodA p p.m.an f
section
variable {p : TP} {B : Nat} {Y : Nat → Prop} {t : Nat} {w : World} {v : Value} {out : List Fa} {A : Option Addr} {c : Nat} {ns : List (List UInt8)} {QA : Option Addr} {qs : List Qu} {k : Nat} {wr w' : World} {v' v'' : Value} {out' out'' : List Fa}
theorem AnSt.below (h : AnSt p B Y t w v out A c ns QA qs k wr v' out') (hb : Below wr.heap.size wr w') : AnSt p B Y t w v out A c ns QA qs k w' v' out' :=
  ⟨h.T.below hb, h.X.nx hb, h.nm.below hb, h.qs.below hb, h.ol, h.good⟩
theorem AnSt.next (h : AnSt p B Y t w v out A c ns QA qs k wr v' out') : AnSt p B Y t w v out A c ns QA qs (k + 1) wr v' out' := ⟨h.T, h.X, h.nm, h.qs, by have := h.ol; omega, h.good⟩
theorem AnSt.found (h : AnSt p B Y t w v out A c ns QA qs k wr v' out') (hT : TSt p B Y w' t v'' out'') (hX : TX t wr v' w' v'') (hol : out''.length ≤ out'.length + 1) (hg : ∀ f ∈ out'', f ∈ out' ∨ GoodA p p.m.an f) : AnSt p B Y t w v out A c ns QA qs (k + 1) w' v'' out'' :=
  ⟨hT, h.X.trans hX, h.nm.tx hX, h.qs.tx hX, by have := h.ol; omega, fun f hf => (hg f hf).elim (fun e => h.good f e) .inr⟩
end

/-- What teller.answers tells: a yes or a no. -/
def AnR (p : TP) (out : List Fa) (r : Value) (out' : List Fa) : Prop := ∃ b : Bool, r = .bool b ∧ out'.length ≤ out.length + 1 + p.m.an.length ∧ ∀ f ∈ out', f ∈ out ∨ GoodA p p.m.an f
set_option maxHeartbeats 16000000 in
theorem answers_any (p : TP) (B t : Nat) (Y : Nat → Prop) (v : Value) (out : List Fa) (w : World) (A : Option Addr) (c : Nat) (ns : List (List UInt8)) (h : TSt p B Y w t v out) (hnm : NmIn w (fun b => b = t ∨ v.ownBlock = some b) A c ns) (hz : p.nz ≤ 1000000000) (han : p.m.an.length ≤ 50000) (hsm : ∀ r ∈ p.m.an, SmR r) (hol : out.length ≤ 1100) :
    Calls Try.prog 71 #[.pointer (some ⟨t, 0, none⟩), .slice A ns.length c] w (TCall p B Y t w v (AnR p out)) := by
  obtain ⟨c0, c1, c12, _⟩ := TRow.cellsM h.T
  have HTI : Hid (i64S p.q.type) := h.G.q.it
  have H := Lib.hid h
  have HN := Lib.hid hnm
  have HZ := Lib.hid hz
  have HAN := Lib.hid han
  have HSM := Lib.hid hsm
  have HOL := Lib.hid hol
  have HRK := Lib.hid (rank_any p t v w h.T 4 3)
  obtain ⟨rk, hrk⟩ : ∃ r : Int, r = if p.m.aa = true then 4 else 3 := ⟨_, rfl⟩
  rw [← hrk] at HRK
  have HRI : Hid (i64S rk) := by show i64S _; rw [hrk]; unfold i64S; split <;> omega
  clear hrk h hnm hz han hsm hol
  go_enter Try.func71, Try.ntmps71
  go_upto_region 2 with (go_at_call 122; refine HRK.out.mono ?_; rintro e w1 ⟨rfl, rfl⟩)
  by_cases ha : p.q.type = 255
  rotate_left
  · go_wp2
    have ST : Hid (TSt p B Y w.drew t v out) := H.out.below bl.drew
    have HN1 : Hid (NmIn w.drew (fun b => b = t ∨ v.ownBlock = some b) A c ns) := HN.out.below bl.drew
    have hS : p.row w.drew t v := ST.out.T
    have HHS := Lib.hid (has_any p B t Y v out w.drew ST.out p.sm.A A p.m.an.length p.sm.ac ns.length c p.m.an ns p.q.type rk 64 ST.out.G.m.a HN1.out.rd HN1.out.c HN1.out.l (by have := HAN.out; omega) HSM.out HTI.out HRI.out (by omega) (by omega) HZ.out (by have h2 := HOL.out; omega))
    clear c0 c12
    refine wp_region_any (by kernel_rfl) ?_
    change wpAny _ _ _ _ _ _ _ (World.drew w)
    refine wpAny_of_P (S := fun W => p.row W t v) (dem := fun j => j != 14) _ _ _ _ ?_
    refine wpAnyP_take (i := 0) (v := .pointer (some ⟨t, 0, none⟩)) rfl (by kernel_rfl) (by kernel_rfl) (by kernel_rfl) (by kernel_rfl) (by kernel_rfl) (fun _ _ _ h => h) (Or.inl ⟨by kernel_rfl, by (intro W hW; go_simp)⟩) hS ?_
    refine wpAnyP_take (i := 1) (v := .pointer (some ⟨t, 0, none⟩)) rfl (by kernel_rfl) (by kernel_rfl) (by kernel_rfl) (by kernel_rfl) (by kernel_rfl) (fun _ _ _ h => h) (Or.inl ⟨by kernel_rfl, by (intro W hW; go_simp)⟩) hS ?_
    refine wpAnyP_take (i := 2) (v := .pointer (some ⟨t, 0, none⟩)) rfl (by kernel_rfl) (by kernel_rfl) (by kernel_rfl) (by kernel_rfl) (by kernel_rfl) (fun _ _ _ h => h) (Or.inl ⟨by kernel_rfl, by (intro W hW; go_simp)⟩) hS ?_
    refine wpAnyP_take (i := 3) (v := .pointer (some ⟨t, 3, none⟩)) rfl (by kernel_rfl) (by kernel_rfl) (by kernel_rfl) (by kernel_rfl) (by kernel_rfl) (fun _ _ _ h => h) (Or.inl ⟨by kernel_rfl, by (intro W hW; go_simp)⟩) hS ?_
    refine wpAnyP_take (i := 4) (v := .pointer (some ⟨t, 12, none⟩)) rfl (by kernel_rfl) (by kernel_rfl) (by kernel_rfl) (by kernel_rfl) (by kernel_rfl) (fun _ _ _ h => h) (Or.inl ⟨by kernel_rfl, by (intro W hW; go_simp)⟩) hS ?_
    refine wpAnyP_take (i := 5) (v := .slice p.sm.A p.m.an.length p.sm.ac) rfl (by kernel_rfl) (by kernel_rfl) (by kernel_rfl) (by kernel_rfl) (by kernel_rfl) (fun _ _ _ h => h) (Or.inl ⟨by kernel_rfl, by (intro W hW; have c0 := (TRow.cellsM hW).2.2.1; go_simp)⟩) hS ?_
    refine wpAnyP_take (i := 6) (v := .slice A ns.length c) rfl (by kernel_rfl) (by kernel_rfl) (by kernel_rfl) (by kernel_rfl) (by kernel_rfl) (fun _ _ _ h => h) (Or.inl ⟨by kernel_rfl, by (intro W hW; go_simp)⟩) hS ?_
    refine wpAnyP_take (i := 7) (v := .pointer (some ⟨t, 0, none⟩)) rfl (by kernel_rfl) (by kernel_rfl) (by kernel_rfl) (by kernel_rfl) (by kernel_rfl) (fun _ _ _ h => h) (Or.inl ⟨by kernel_rfl, by (intro W hW; go_simp)⟩) hS ?_
    refine wpAnyP_take (i := 8) (v := .pointer (some ⟨t, 0, none⟩)) rfl (by kernel_rfl) (by kernel_rfl) (by kernel_rfl) (by kernel_rfl) (by kernel_rfl) (fun _ _ _ h => h) (Or.inl ⟨by kernel_rfl, by (intro W hW; go_simp)⟩) hS ?_
    refine wpAnyP_take (i := 9) (v := .pointer (some ⟨t, 0, none⟩)) rfl (by kernel_rfl) (by kernel_rfl) (by kernel_rfl) (by kernel_rfl) (by kernel_rfl) (fun _ _ _ h => h) (Or.inl ⟨by kernel_rfl, by (intro W hW; go_simp)⟩) hS ?_
    refine wpAnyP_take (i := 10) (v := .pointer (some ⟨t, 1, none⟩)) rfl (by kernel_rfl) (by kernel_rfl) (by kernel_rfl) (by kernel_rfl) (by kernel_rfl) (fun _ _ _ h => h) (Or.inl ⟨by kernel_rfl, by (intro W hW; go_simp)⟩) hS ?_
    refine wpAnyP_take (i := 11) (v := .int .i64 p.q.type) rfl (by kernel_rfl) (by kernel_rfl) (by kernel_rfl) (by kernel_rfl) (by kernel_rfl) (fun _ _ _ h => h) (Or.inl ⟨by kernel_rfl, by (intro W hW; have c0 := (TRow.cellsM hW).2.1; go_simp)⟩) hS ?_
    refine wpAnyP_take (i := 12) (v := .int .i64 rk) rfl (by kernel_rfl) (by kernel_rfl) (by kernel_rfl) (by kernel_rfl) (by kernel_rfl) (fun _ _ _ h => h) (Or.inl ⟨by kernel_rfl, by (intro W hW; go_simp)⟩) hS ?_
    refine wpAnyP_one (i := 13) rfl (by kernel_rfl) fun K hK => ?_
    go_simp
    refine HHS.out.mono ?_
    rintro e w5 ⟨r5, v5, out5, rfl, hT5, hX5, b5, rfl, hol5, hg5⟩
    refine hK _ _ (fun h => absurd h (by rw [show needS _ _ _ = false from by kernel_rfl]; decide)) ?_
    clear hK
    refine wpAnyP_one (i := 14) rfl (by kernel_rfl) fun K hK => ?_
    go_simp
    refine hK _ _ (fun h => absurd h (by rw [show needS _ _ _ = false from by kernel_rfl]; decide)) ?_
    clear hK
    refine wpAnyP_done (by kernel_rfl) ?_ _
    have HT5 := Lib.hid hT5
    have HX5 := Lib.hid hX5
    have HG5 := Lib.hid hg5
    clear hT5 hX5 hg5
    go_wp2
    go_ret
    exact ⟨_, v5, out5, rfl, HT5.out, (TX.of_below bl.drew).trans HX5.out, b5, rfl, by omega, fun f hf => (HG5.out f hf).imp id (fun h => ⟨ns, _, h⟩)⟩
  rw [ha] at c1
  have HPN := Lib.hid (pnames_any p.sm.A p.m.an.length p.sm.ac p.m.an w (H.out.G.m.a.mono (fun b hb => Nat.lt_trans hb H.out.size) (fun b hb => Nat.lt_trans hb H.out.size)) (by have := HAN.out; omega) (fun r hr => (HSM.out r hr).light))
  have HB := Lib.hid H.out.size
  go_upto_region 5 with (fail)
  clear c0 c1
  go_upto_region 6 with (go_at_call 125; refine HPN.out.mono ?_; rintro e w1 ⟨v1, rfl, hv1, hb1⟩; have HV1 := Lib.hid hv1; have HB1 := Lib.hid hb1; obtain ⟨QA, qc, hqe, hqr, _⟩ := hv1.rd; have HQR := Lib.hid hqr; obtain ⟨L, hL⟩ : ∃ k, k = (namesP p.m.an).length := ⟨_, rfl⟩; have HL := Lib.hid hL; rw [← hL] at hqe; subst hqe; clear hL hv1 hb1 hqr)
  clear c12
  have HLN : Hid (L ≤ p.m.an.length) := by show _ ≤ _; rw [HL.out]; exact namesP_len _
  have hLb : L ≤ 50000 := Nat.le_trans HLN.out HAN.out
  have ST0 : Hid (AnSt p B Y t w v out A c ns QA (namesP p.m.an) 0 w1 v out) := ⟨H.out.below HB1.out, TX.of_below HB1.out, HN.out.below HB1.out, ⟨_, HQR.out, fun b hb => ⟨hb.2, fun e => by
    have h1 : w.heap.size ≤ b := hb.1
    rcases e with e | e
    · have := H.out.lt; omega
    · have := (H.out.own b e).2; omega⟩⟩, Nat.le_refl _, fun f hf => .inl hf⟩
  clear HQR HV1
  go_loopw [6, 38] (fun fv iv wr => ∃ (k : Nat) (fb : Bool) (v' : Value) (out' : List Fa), fv = .bool fb ∧ iv = .int .i64 (k : Int) ∧ k ≤ L ∧ Hid (AnSt p B Y t w v out A c ns QA (namesP p.m.an) k wr v' out')) (fun _ iv _ => L - (intOf iv).toNat)
  case atStart => exact ⟨0, false, v, out, rfl, rfl, Nat.zero_le _, ST0⟩
  case round =>
    clear ST0
    obtain ⟨k, fb, v', out', rfl, rfl, hk, ST⟩ := hrel
    by_cases hlt : k < L
    rotate_left
    · have hlt' : ¬ (k : Int) < (L : Int) := by omega
      cases fb with
      | false =>
        go_wp2
        go_ret
        exact ⟨_, v', out', rfl, ST.out.T, ST.out.X, false, rfl, by have h1 := ST.out.ol; have h2 := HLN.out; omega, ST.out.good⟩
      | true =>
        go_wp2
        go_ret
        exact ⟨_, v', out', rfl, ST.out.T, ST.out.X, true, rfl, by have h1 := ST.out.ol; have h2 := HLN.out; omega, ST.out.good⟩
    obtain ⟨x, hx⟩ : ∃ x, (namesP p.m.an)[k]? = some x := ⟨_, List.getElem?_eq_getElem (by rw [← HL.out]; exact hlt)⟩
    obtain ⟨b, off, s, hA, hb0, hqi, hqc⟩ := qu_at ST.out.qs.rd hx
    obtain ⟨d0, d1, d2⟩ := hqc
    have HQI := Lib.hid hqi
    have HXL : Hid (x.name.length ≤ 255 ∧ i64S x.type) := by
      obtain ⟨r, hr, _, hrx⟩ := namesP_mem _ x (List.mem_of_getElem? hx)
      have h1 := (HSM.out r hr).1
      refine ⟨by rw [hrx]; exact h1, hqi.it⟩
    have hAA := Lib.hid hA
    rw [hA]
    obtain ⟨w2, hw2⟩ : ∃ w2, w2 = wr.alloc (.cells #[.slice s.A x.name.length s.c, .int .i64 x.type, .int .i64 x.cls] 25) := ⟨_, rfl⟩
    obtain ⟨bq, hbq⟩ : ∃ b, b = wr.heap.size := ⟨_, rfl⟩
    have hb2 : Below wr.heap.size wr w2 := by rw [hw2]; exact bl.alloc (Nat.le_refl _) _
    have HB2 := Lib.hid hb2
    have ST2 : Hid (AnSt p B Y t w v out A c ns QA (namesP p.m.an) k w2 v' out') := ST.out.below hb2
    have HXN : Hid (RdE encS w2 s.A x.name.length x.name) := RdE.below (w := wr) hqi.n hb2
    have a0 : w2.cell? ⟨bq, 0, none⟩ = some (.slice s.A x.name.length s.c) := by rw [hw2, hbq]; exact new_cell wr _ _ 0
    have a1 : w2.cell? ⟨bq, 1, none⟩ = some (.int .i64 x.type) := by rw [hw2, hbq]; exact new_cell wr _ _ 1
    have HEN := Lib.hid (nequal_any s.A A x.name.length s.c ns.length c x.name ns w2 HXN.out ST2.out.nm.rd (Nat.le_trans hqi.cn.1 hqi.cn.2) (Nat.le_trans ST2.out.nm.c.1 ST2.out.nm.c.2))
    obtain ⟨eq, heq⟩ : ∃ b, b = decide (lowN x.name = lowN ns) := ⟨_, rfl⟩
    rw [← heq] at HEN
    clear hx hb0 hqi heq hA hb2
    go_upto_region 8 with (fail)
    rw [← hw2]
    clear hw2 d0 d1 d2
    rw [← hbq]
    clear hbq
    cases eq with
    | false =>
      go_wp2_with (go_at_call 55; refine HEN.out.mono ?_; rintro e w3 ⟨v3, rfl, rfl, hb3⟩)
      refine ⟨⟨k + 1, fb, v', out', rfl, by go_num, by omega, by have h := (ST2.out.below hb3).next; rw [hAA.out] at h; exact h⟩, ?_⟩
      simp [intOf]; omega
    | true =>
    go_wp2_with (go_at_call 55; refine HEN.out.mono ?_; rintro e w3 ⟨v3, rfl, rfl, hb3⟩; have HB3 := Lib.hid hb3; have a2 := below_cell hb3 a1; clear hb3)
    have ST3 : Hid (AnSt p B Y t w v out A c ns QA (namesP p.m.an) k w3.drew v' out') := (ST2.out.below HB3.out).below bl.drew
    have hS : p.row w3.drew t v' ∧ w3.drew.cell? ⟨bq, 1, none⟩ = some (.int .i64 x.type) := ⟨ST3.out.T.T, a2⟩
    have HHS := Lib.hid (has_any p B t Y v' out' w3.drew ST3.out.T p.sm.A A p.m.an.length p.sm.ac ns.length c p.m.an ns x.type rk 64 ST3.out.T.G.m.a ST3.out.nm.rd ST3.out.nm.c ST3.out.nm.l (by have := HAN.out; omega) HSM.out HXL.out.2 HRI.out (by omega) (by omega) HZ.out (by have h1 := ST3.out.ol; have h2 := HOL.out; have h3 := HAN.out; have h4 := HLN.out; omega))
    clear a0 a1 a2
    refine wp_region_any (by kernel_rfl) ?_
    change wpAny _ _ _ _ _ _ _ (World.drew w3)
    refine wpAny_of_P (S := fun W => p.row W t v' ∧ W.cell? ⟨bq, 1, none⟩ = some (.int .i64 x.type)) (dem := fun j => decide (j ≤ 10)) _ _ _ _ ?_
    refine wpAnyP_take (i := 0) (v := .pointer (some ⟨t, 0, none⟩)) rfl (by kernel_rfl) (by kernel_rfl) (by kernel_rfl) (by kernel_rfl) (by kernel_rfl) (fun _ _ _ h => h) (Or.inl ⟨by kernel_rfl, by (intro W hW; go_simp)⟩) hS ?_
    refine wpAnyP_take (i := 1) (v := .pointer (some ⟨t, 0, none⟩)) rfl (by kernel_rfl) (by kernel_rfl) (by kernel_rfl) (by kernel_rfl) (by kernel_rfl) (fun _ _ _ h => h) (Or.inl ⟨by kernel_rfl, by (intro W hW; go_simp)⟩) hS ?_
    refine wpAnyP_take (i := 2) (v := .pointer (some ⟨t, 0, none⟩)) rfl (by kernel_rfl) (by kernel_rfl) (by kernel_rfl) (by kernel_rfl) (by kernel_rfl) (fun _ _ _ h => h) (Or.inl ⟨by kernel_rfl, by (intro W hW; go_simp)⟩) hS ?_
    refine wpAnyP_take (i := 3) (v := .pointer (some ⟨t, 3, none⟩)) rfl (by kernel_rfl) (by kernel_rfl) (by kernel_rfl) (by kernel_rfl) (by kernel_rfl) (fun _ _ _ h => h) (Or.inl ⟨by kernel_rfl, by (intro W hW; go_simp)⟩) hS ?_
    refine wpAnyP_take (i := 4) (v := .pointer (some ⟨t, 12, none⟩)) rfl (by kernel_rfl) (by kernel_rfl) (by kernel_rfl) (by kernel_rfl) (by kernel_rfl) (fun _ _ _ h => h) (Or.inl ⟨by kernel_rfl, by (intro W hW; go_simp)⟩) hS ?_
    refine wpAnyP_take (i := 5) (v := .slice p.sm.A p.m.an.length p.sm.ac) rfl (by kernel_rfl) (by kernel_rfl) (by kernel_rfl) (by kernel_rfl) (by kernel_rfl) (fun _ _ _ h => h) (Or.inl ⟨by kernel_rfl, by (intro W hW; have c0 := (TRow.cellsM hW.1).2.2.1; go_simp)⟩) hS ?_
    refine wpAnyP_take (i := 6) (v := .slice A ns.length c) rfl (by kernel_rfl) (by kernel_rfl) (by kernel_rfl) (by kernel_rfl) (by kernel_rfl) (fun _ _ _ h => h) (Or.inl ⟨by kernel_rfl, by (intro W hW; go_simp)⟩) hS ?_
    refine wpAnyP_take (i := 7) (v := .pointer (some ⟨bq, 1, none⟩)) rfl (by kernel_rfl) (by kernel_rfl) (by kernel_rfl) (by kernel_rfl) (by kernel_rfl) (fun _ _ _ h => h) (Or.inl ⟨by kernel_rfl, by (intro W hW; go_simp)⟩) hS ?_
    refine wpAnyP_take (i := 8) (v := .int .i64 x.type) rfl (by kernel_rfl) (by kernel_rfl) (by kernel_rfl) (by kernel_rfl) (by kernel_rfl) (fun _ _ _ h => h) (Or.inl ⟨by kernel_rfl, by (intro W hW; have c0 := hW.2; go_simp)⟩) hS ?_
    refine wpAnyP_take (i := 9) (v := .int .i64 rk) rfl (by kernel_rfl) (by kernel_rfl) (by kernel_rfl) (by kernel_rfl) (by kernel_rfl) (fun _ _ _ h => h) (Or.inl ⟨by kernel_rfl, by (intro W hW; go_simp)⟩) hS ?_
    refine wpAnyP_one (i := 10) rfl (by kernel_rfl) fun K hK => ?_
    go_simp
    refine HHS.out.mono ?_
    rintro e w5 ⟨r5, v5, out5, rfl, hT5, hX5, b5, rfl, hol5, hg5⟩
    refine hK _ _ (fun h => absurd h (by rw [show needS _ _ _ = false from by kernel_rfl]; decide)) ?_
    clear hK
    have ST5 : Hid (AnSt p B Y t w v out A c ns QA (namesP p.m.an) (k + 1) w5 v5 out5) := ST3.out.found hT5 hX5 hol5 (fun f hf => (hg5 f hf).imp id (fun h => ⟨ns, _, h⟩))
    clear hT5 hX5 hg5 hol5
    cases b5 with
    | false =>
      refine wpAnyP_one (i := 11) rfl (by kernel_rfl) fun K hK => ?_
      go_simp
      refine hK _ _ (fun h => absurd h (by rw [show needS _ _ _ = false from by kernel_rfl]; decide)) ?_
      clear hK
      refine wpAnyP_one (i := 12) rfl (by kernel_rfl) fun K hK => ?_
      go_simp
      refine hK _ _ (fun h => absurd h (by rw [show needS _ _ _ = false from by kernel_rfl]; decide)) ?_
      clear hK
      refine wpAnyP_one (i := 13) rfl (by kernel_rfl) fun K hK => ?_
      go_simp
      refine hK _ _ (fun h => absurd h (by rw [show needS _ _ _ = false from by kernel_rfl]; decide)) ?_
      clear hK
      refine wpAnyP_one (i := 14) rfl (by kernel_rfl) fun K hK => ?_
      go_simp
      refine hK _ _ (fun h => absurd h (by rw [show needS _ _ _ = false from by kernel_rfl]; decide)) ?_
      clear hK
      refine wpAnyP_done (by kernel_rfl) ?_ _
      go_wp2
      refine ⟨⟨k + 1, fb, v5, out5, rfl, by go_num, by omega, by have h := ST5.out; rw [hAA.out] at h; exact h⟩, ?_⟩
      simp [intOf]; omega
    | true =>
      refine wpAnyP_one (i := 11) rfl (by kernel_rfl) fun K hK => ?_
      go_simp
      refine hK _ _ (fun h => absurd h (by rw [show needS _ _ _ = false from by kernel_rfl]; decide)) ?_
      clear hK
      refine wpAnyP_one (i := 12) rfl (by kernel_rfl) fun K hK => ?_
      go_simp
      refine hK _ _ (fun h => absurd h (by rw [show needS _ _ _ = false from by kernel_rfl]; decide)) ?_
      clear hK
      refine wpAnyP_one (i := 13) rfl (by kernel_rfl) fun K hK => ?_
      go_simp
      refine hK _ _ (fun h => absurd h (by rw [show needS _ _ _ = false from by kernel_rfl]; decide)) ?_
      clear hK
      refine wpAnyP_one (i := 14) rfl (by kernel_rfl) fun K hK => ?_
      go_simp
      refine hK _ _ (fun h => absurd h (by rw [show needS _ _ _ = false from by kernel_rfl]; decide)) ?_
      clear hK
      refine wpAnyP_done (by kernel_rfl) ?_ _
      go_wp2
      refine ⟨⟨k + 1, true, v5, out5, rfl, by go_num, by omega, by have h := ST5.out; rw [hAA.out] at h; exact h⟩, ?_⟩
      simp [intOf]; omega
end Go.Proofs.Ytimkdpkhdbiniaa

/- teller.refers (printed by gen/tel7.py). -/
namespace Go.Proofs.Ytimkdpkhdbiniaa
open Go.RowKit
set_option maxRecDepth 100000
set_option linter.unusedVariables false

theorem refers_any (p : TP) (B t : Nat) (Y : Nat → Prop) (v : Value) (out : List Fa) (w : World) (h : TSt p B Y w t v out) (hau : p.m.au.length ≤ 100000) :
    Calls Try.prog 127 #[.pointer (some ⟨t, 0, none⟩)] w (RetP (fun r _ => r = .bool (p.m.au.any isNS)) w) := by
  obtain ⟨_, _, _, c13, _⟩ := TRow.cellsM h.T
  have HRF := Lib.hid (hasRf_any isNS p.sm.U p.m.au.length p.sm.uc p.m.au w h.G.m.u (fun b hb => Nat.lt_trans hb h.size) (by omega) (fun s x W _ _ _ => refC_any s x W))
  clear h hau
  go_enter Try.func127, Try.ntmps127
  go_wp2_with (go_at_call 135; refine HRF.out.mono ?_; rintro e w1 ⟨v1, rfl, rfl, hb1⟩)
  go_ret
  exact ⟨_, rfl, rfl, hb1⟩
end Go.Proofs.Ytimkdpkhdbiniaa
