/- Parts of a proof, joined: Tel9. -/
import Derived.Test.YtimkdpkhdbiniaaZDX14
/- teller.referral, loosely (printed by gen/tel9.py). -/
namespace Go.Proofs.Ytimkdpkhdbiniaa
open Go.RowKit
set_option maxRecDepth 100000
set_option linter.unusedVariables false

/-- A fact that a referral tells. -/
def GoodR (p : TP) (f : Fa) : Prop := GoodA p p.m.au f ∨ GoodA p p.m.ex f
/-- Where the loop over a referral's servers stands. -/
structure RfSt (p : TP) (B : Nat) (Y : Nat → Prop) (t : Nat) (w : World) (v : Value) (out : List Fa) (bq : Nat) (s : RS) (x : RR) (SA : Option Addr) (ds : List Da) (k : Nat) (wr : World) (v' : Value) (out' : List Fa) : Prop where
  T : TSt p B Y wr t v' out'
  X : TX t w v wr v'
  ol : out'.length ≤ out.length + k
  good : ∀ f ∈ out', f ∈ out ∨ GoodR p f
  box : RRow wr bq s x
  bt : bq ≠ t ∧ ∀ z, v'.ownBlock = some z → bq ≠ z
  rin : RIn (fun b => b < B) wr s x
  set : ElIn encDa wr (fun b => b = t ∨ v'.ownBlock = some b) SA ds.length ds
section
variable {p : TP} {B : Nat} {Y : Nat → Prop} {t : Nat} {w : World} {v : Value} {out : List Fa} {bq : Nat} {s : RS} {x : RR} {SA : Option Addr} {ds : List Da} {k : Nat} {wr w' : World} {v' v'' : Value} {out' out'' : List Fa}
theorem TX.keep (h : TX t wr v' w' v'') {b : Nat} (hb : b < wr.heap.size) (ht : b ≠ t) (hv : ∀ z, v'.ownBlock = some z → b ≠ z) : w'.heap[b]? = wr.heap[b]? :=
  h.C.block b hb (fun e => e.elim ht (fun e => hv b e rfl))
theorem RfSt.below (h : RfSt p B Y t w v out bq s x SA ds k wr v' out') (hb : Below wr.heap.size wr w') : RfSt p B Y t w v out bq s x SA ds k w' v' out' :=
  ⟨h.T.below hb, h.X.nx hb, h.ol, h.good, RRow.below h.box hb, h.bt, h.rin.below hb (fun b hb2 => Nat.lt_trans hb2 h.T.size), h.set.below hb⟩
theorem RfSt.blt (h : RfSt p B Y t w v out bq s x SA ds k wr v' out') : bq < wr.heap.size := (Array.getElem?_eq_some_iff.1 h.box).1
theorem RfSt.found (h : RfSt p B Y t w v out bq s x SA ds k wr v' out') (hT : TSt p B Y w' t v'' out'') (hX : TX t wr v' w' v'') (hol : out''.length ≤ out'.length + 1) (hg : ∀ f ∈ out'', f ∈ out' ∨ GoodR p f) : RfSt p B Y t w v out bq s x SA ds (k + 1) w' v'' out'' :=
  ⟨hT, h.X.trans hX, by have := h.ol; omega, fun f hf => (hg f hf).elim (fun e => h.good f e) .inr, (hX.keep h.blt h.bt.1 h.bt.2).trans h.box, ⟨h.bt.1, fun z hz => (hX.N z hz).elim (fun e => h.bt.2 z e) (fun e => by have := h.blt; omega)⟩, h.rin.keep (fun b hb => hX.lowB h.T b hb), h.set.tx hX⟩
theorem RfSt.more (h : RfSt p B Y t w v out bq s x SA ds k wr v' out') {j : Nat} (hj : k ≤ j) : RfSt p B Y t w v out bq s x SA ds j wr v' out' := ⟨h.T, h.X, by have := h.ol; omega, h.good, h.box, h.bt, h.rin, h.set⟩
end

set_option maxHeartbeats 16000000 in
theorem referral_any (p : TP) (B t : Nat) (Y : Nat → Prop) (v : Value) (out : List Fa) (w : World) (h : TSt p B Y w t v out) (hq : p.q.name.length ≤ 1000) (hz : p.nz ≤ 1000000000) (hau : p.m.au.length ≤ 40000) (hex : p.m.ex.length ≤ 40000) (hsm : ∀ r ∈ p.m.au, SmR r) (hsx : ∀ r ∈ p.m.ex, SmR r) (hol : out.length ≤ 60000) :
    Calls Try.prog 73 #[.pointer (some ⟨t, 0, none⟩)] w (TCall p B Y t w v (fun r out' => r = .tuple #[] ∧ out'.length ≤ out.length + 129 ∧ ∀ f ∈ out', f ∈ out ∨ GoodR p f)) := by
  obtain ⟨_, _, _, c13, _⟩ := TRow.cellsM h.T
  have H := Lib.hid h
  have HQ := Lib.hid hq
  have HZ := Lib.hid hz
  have HSM := Lib.hid hsm
  have HSX := Lib.hid hsx
  have HEX := Lib.hid hex
  have HOL := Lib.hid hol
  clear h hq hz hsm hsx hex hol
  go_enter Try.func73, Try.ntmps73
  go_upto_region 1 with (fail)
  clear c13
  obtain ⟨L, hL⟩ : ∃ k, k = p.m.au.length := ⟨_, rfl⟩
  have HL := Lib.hid hL
  have hLb : L ≤ 40000 := by rw [hL]; exact hau
  rw [← hL]
  clear hL hau
  go_loopw [14] (fun iv wr => ∃ k : Nat, iv = .int .i64 (k : Int) ∧ k ≤ L ∧ Hid (Below w.heap.size w wr)) (fun iv _ => L - (intOf iv).toNat)
  case atStart => exact ⟨0, rfl, Nat.zero_le _, bl⟩
  case round =>
    obtain ⟨k, rfl, hk, HBW⟩ := hrel
    by_cases hlt : k < L
    rotate_left
    · have hlt' : ¬ (k : Int) < (L : Int) := by omega
      go_wp2
      go_end0
      exact ⟨_, v, out, rfl, H.out.below HBW.out, TX.of_below HBW.out, rfl, by omega, fun f hf => .inl hf⟩
    have STr : Hid (TSt p B Y wr t v out) := H.out.below HBW.out
    obtain ⟨x, hx⟩ : ∃ x, p.m.au[k]? = some x := ⟨_, List.getElem?_eq_getElem (by rw [← HL.out]; exact hlt)⟩
    have HXM := Lib.hid (List.mem_of_getElem? hx)
    obtain ⟨b, off, s, hA, hb0, hri, hrc⟩ := rr_at STr.out.G.m.u hx
    obtain ⟨d0, d1, d2, d3, d4, d5, d6, d7, d8⟩ := hrc
    have hAA := Lib.hid hA
    rw [hA]
    obtain ⟨w2, hw2⟩ : ∃ w2, w2 = wr.alloc (.cells #[.slice s.A x.name.length s.c, .int .i64 x.type, .int .i64 x.cls, .int .i64 x.ttl, .slice s.d.A0 x.data.bytes.length s.d.c0, .slice s.d.A1 x.data.host.length s.d.c1, .slice s.d.A2 x.data.mail.length s.d.c2, .slice s.d.A3 x.data.nums.length s.d.c3, .slice s.d.A4 x.data.texts.length s.d.c4] 84) := ⟨_, rfl⟩
    obtain ⟨bq, hbq⟩ : ∃ b, b = wr.heap.size := ⟨_, rfl⟩
    have hb2 : Below wr.heap.size wr w2 := by rw [hw2]; exact bl.alloc (Nat.le_refl _) _
    have HR2 : Hid (RRow w2 bq s x) := by show RRow _ _ _ _; rw [hw2, hbq]; exact heap_alloc_new wr _
    have HBT : Hid (bq ≠ t ∧ ∀ z, v.ownBlock = some z → bq ≠ z) := ⟨by have := STr.out.lt; omega, fun z hz => by have := (STr.out.own z hz).2; omega⟩
    have HBW2 : Hid (Below w.heap.size w w2) := nx HBW.out hb2
    have ST2 : Hid (TSt p B Y w2 t v out) := STr.out.below hb2
    have HRI : Hid (RIn (fun b => b < B) w2 s x) := hri.below hb2 (fun b hb => Nat.lt_trans hb STr.out.size)
    clear hx hb0 hri hA hb2
    go_upto_region 3 with (fail)
    rw [← hw2]
    clear hw2 d0 d1 d2 d3 d4 d5 d6 d7 d8
    rw [← hbq]
    clear hbq
    have hS2 : RRow w2.drew bq s x ∧ p.row w2.drew t v := ⟨HR2.out, ST2.out.T⟩
    by_cases ht : x.type = 2
    rotate_left
    · have ht' : (x.type == 2) = false := by simp [ht]
      refine wp_region_any (by kernel_rfl) ?_
      change wpAny _ _ _ _ _ _ _ (World.drew w2)
      refine wpAny_of_P (S := fun W => RRow W bq s x ∧ p.row W t v) (dem := fun _ => true) _ _ _ _ ?_
      refine wpAnyP_take (i := 0) (v := .pointer (some ⟨bq, 1, none⟩)) rfl (by kernel_rfl) (by kernel_rfl) (by kernel_rfl) (by kernel_rfl) (by kernel_rfl) (fun _ _ _ h => h) (Or.inl ⟨by kernel_rfl, by (intro W hW; go_simp)⟩) hS2 ?_
      refine wpAnyP_take (i := 1) (v := .int .i64 x.type) rfl (by kernel_rfl) (by kernel_rfl) (by kernel_rfl) (by kernel_rfl) (by kernel_rfl) (fun _ _ _ h => h) (Or.inl ⟨by kernel_rfl, by (intro W hW; have c0 := hW.1.cells; obtain ⟨x0, x1, x2, x3, x4, x5, x6, x7, x8⟩ := c0; go_simp)⟩) hS2 ?_
      refine wpAnyP_take (i := 2) (v := .bool true) rfl (by kernel_rfl) (by kernel_rfl) (by kernel_rfl) (by kernel_rfl) (by kernel_rfl) (fun _ _ _ h => h) (Or.inl ⟨by kernel_rfl, by (intro W hW; go_simp)⟩) hS2 ?_
      refine wpAnyP_take (i := 3) (v := .bool true) rfl (by kernel_rfl) (by kernel_rfl) (by kernel_rfl) (by kernel_rfl) (by kernel_rfl) (fun _ _ _ h => h) (Or.inl ⟨by kernel_rfl, by (intro W hW; go_simp)⟩) hS2 ?_
      refine wpAnyP_take (i := 4) (v := undef) rfl (by kernel_rfl) (by kernel_rfl) (by kernel_rfl) (by kernel_rfl) (by kernel_rfl) (fun _ _ _ h => h) (Or.inr ⟨by kernel_rfl, rfl⟩) hS2 ?_
      refine wpAnyP_take (i := 5) (v := undef) rfl (by kernel_rfl) (by kernel_rfl) (by kernel_rfl) (by kernel_rfl) (by kernel_rfl) (fun _ _ _ h => h) (Or.inr ⟨by kernel_rfl, rfl⟩) hS2 ?_
      refine wpAnyP_take (i := 6) (v := undef) rfl (by kernel_rfl) (by kernel_rfl) (by kernel_rfl) (by kernel_rfl) (by kernel_rfl) (fun _ _ _ h => h) (Or.inr ⟨by kernel_rfl, rfl⟩) hS2 ?_
      refine wpAnyP_take (i := 7) (v := .bool true) rfl (by kernel_rfl) (by kernel_rfl) (by kernel_rfl) (by kernel_rfl) (by kernel_rfl) (fun _ _ _ h => h) (Or.inl ⟨by kernel_rfl, by (intro W hW; go_simp)⟩) hS2 ?_
      refine wpAnyP_take (i := 8) (v := .bool true) rfl (by kernel_rfl) (by kernel_rfl) (by kernel_rfl) (by kernel_rfl) (by kernel_rfl) (fun _ _ _ h => h) (Or.inl ⟨by kernel_rfl, by (intro W hW; go_simp)⟩) hS2 ?_
      refine wpAnyP_take (i := 9) (v := undef) rfl (by kernel_rfl) (by kernel_rfl) (by kernel_rfl) (by kernel_rfl) (by kernel_rfl) (fun _ _ _ h => h) (Or.inr ⟨by kernel_rfl, rfl⟩) hS2 ?_
      refine wpAnyP_take (i := 10) (v := undef) rfl (by kernel_rfl) (by kernel_rfl) (by kernel_rfl) (by kernel_rfl) (by kernel_rfl) (fun _ _ _ h => h) (Or.inr ⟨by kernel_rfl, rfl⟩) hS2 ?_
      refine wpAnyP_take (i := 11) (v := undef) rfl (by kernel_rfl) (by kernel_rfl) (by kernel_rfl) (by kernel_rfl) (by kernel_rfl) (fun _ _ _ h => h) (Or.inr ⟨by kernel_rfl, rfl⟩) hS2 ?_
      refine wpAnyP_take (i := 12) (v := undef) rfl (by kernel_rfl) (by kernel_rfl) (by kernel_rfl) (by kernel_rfl) (by kernel_rfl) (fun _ _ _ h => h) (Or.inr ⟨by kernel_rfl, rfl⟩) hS2 ?_
      refine wpAnyP_take (i := 13) (v := undef) rfl (by kernel_rfl) (by kernel_rfl) (by kernel_rfl) (by kernel_rfl) (by kernel_rfl) (fun _ _ _ h => h) (Or.inr ⟨by kernel_rfl, rfl⟩) hS2 ?_
      refine wpAnyP_take (i := 14) (v := undef) rfl (by kernel_rfl) (by kernel_rfl) (by kernel_rfl) (by kernel_rfl) (by kernel_rfl) (fun _ _ _ h => h) (Or.inr ⟨by kernel_rfl, rfl⟩) hS2 ?_
      refine wpAnyP_take (i := 15) (v := undef) rfl (by kernel_rfl) (by kernel_rfl) (by kernel_rfl) (by kernel_rfl) (by kernel_rfl) (fun _ _ _ h => h) (Or.inr ⟨by kernel_rfl, rfl⟩) hS2 ?_
      refine wpAnyP_take (i := 16) (v := undef) rfl (by kernel_rfl) (by kernel_rfl) (by kernel_rfl) (by kernel_rfl) (by kernel_rfl) (fun _ _ _ h => h) (Or.inr ⟨by kernel_rfl, rfl⟩) hS2 ?_
      refine wpAnyP_take (i := 17) (v := .bool true) rfl (by kernel_rfl) (by kernel_rfl) (by kernel_rfl) (by kernel_rfl) (by kernel_rfl) (fun _ _ _ h => h) (Or.inl ⟨by kernel_rfl, by (intro W hW; go_simp)⟩) hS2 ?_
      refine wpAnyP_take (i := 18) (v := .bool true) rfl (by kernel_rfl) (by kernel_rfl) (by kernel_rfl) (by kernel_rfl) (by kernel_rfl) (fun _ _ _ h => h) (Or.inl ⟨by kernel_rfl, by (intro W hW; go_simp)⟩) hS2 ?_
      refine wpAnyP_take (i := 19) (v := undef) rfl (by kernel_rfl) (by kernel_rfl) (by kernel_rfl) (by kernel_rfl) (by kernel_rfl) (fun _ _ _ h => h) (Or.inr ⟨by kernel_rfl, rfl⟩) hS2 ?_
      refine wpAnyP_take (i := 20) (v := undef) rfl (by kernel_rfl) (by kernel_rfl) (by kernel_rfl) (by kernel_rfl) (by kernel_rfl) (fun _ _ _ h => h) (Or.inr ⟨by kernel_rfl, rfl⟩) hS2 ?_
      refine wpAnyP_take (i := 21) (v := undef) rfl (by kernel_rfl) (by kernel_rfl) (by kernel_rfl) (by kernel_rfl) (by kernel_rfl) (fun _ _ _ h => h) (Or.inr ⟨by kernel_rfl, rfl⟩) hS2 ?_
      refine wpAnyP_take (i := 22) (v := undef) rfl (by kernel_rfl) (by kernel_rfl) (by kernel_rfl) (by kernel_rfl) (by kernel_rfl) (fun _ _ _ h => h) (Or.inr ⟨by kernel_rfl, rfl⟩) hS2 ?_
      refine wpAnyP_take (i := 23) (v := undef) rfl (by kernel_rfl) (by kernel_rfl) (by kernel_rfl) (by kernel_rfl) (by kernel_rfl) (fun _ _ _ h => h) (Or.inr ⟨by kernel_rfl, rfl⟩) hS2 ?_
      refine wpAnyP_take (i := 24) (v := undef) rfl (by kernel_rfl) (by kernel_rfl) (by kernel_rfl) (by kernel_rfl) (by kernel_rfl) (fun _ _ _ h => h) (Or.inr ⟨by kernel_rfl, rfl⟩) hS2 ?_
      refine wpAnyP_take (i := 25) (v := undef) rfl (by kernel_rfl) (by kernel_rfl) (by kernel_rfl) (by kernel_rfl) (by kernel_rfl) (fun _ _ _ h => h) (Or.inr ⟨by kernel_rfl, rfl⟩) hS2 ?_
      refine wpAnyP_take (i := 26) (v := undef) rfl (by kernel_rfl) (by kernel_rfl) (by kernel_rfl) (by kernel_rfl) (by kernel_rfl) (fun _ _ _ h => h) (Or.inr ⟨by kernel_rfl, rfl⟩) hS2 ?_
      refine wpAnyP_take (i := 27) (v := undef) rfl (by kernel_rfl) (by kernel_rfl) (by kernel_rfl) (by kernel_rfl) (by kernel_rfl) (fun _ _ _ h => h) (Or.inr ⟨by kernel_rfl, rfl⟩) hS2 ?_
      refine wpAnyP_take (i := 28) (v := .bool true) rfl (by kernel_rfl) (by kernel_rfl) (by kernel_rfl) (by kernel_rfl) (by kernel_rfl) (fun _ _ _ h => h) (Or.inl ⟨by kernel_rfl, by (intro W hW; go_simp)⟩) hS2 ?_
      refine wpAnyP_take (i := 29) (v := .bool true) rfl (by kernel_rfl) (by kernel_rfl) (by kernel_rfl) (by kernel_rfl) (by kernel_rfl) (fun _ _ _ h => h) (Or.inl ⟨by kernel_rfl, by (intro W hW; go_simp)⟩) hS2 ?_
      refine wpAnyP_take (i := 30) (v := undef) rfl (by kernel_rfl) (by kernel_rfl) (by kernel_rfl) (by kernel_rfl) (by kernel_rfl) (fun _ _ _ h => h) (Or.inr ⟨by kernel_rfl, rfl⟩) hS2 ?_
      refine wpAnyP_take (i := 31) (v := undef) rfl (by kernel_rfl) (by kernel_rfl) (by kernel_rfl) (by kernel_rfl) (by kernel_rfl) (fun _ _ _ h => h) (Or.inr ⟨by kernel_rfl, rfl⟩) hS2 ?_
      refine wpAnyP_take (i := 32) (v := undef) rfl (by kernel_rfl) (by kernel_rfl) (by kernel_rfl) (by kernel_rfl) (by kernel_rfl) (fun _ _ _ h => h) (Or.inr ⟨by kernel_rfl, rfl⟩) hS2 ?_
      refine wpAnyP_take (i := 33) (v := undef) rfl (by kernel_rfl) (by kernel_rfl) (by kernel_rfl) (by kernel_rfl) (by kernel_rfl) (fun _ _ _ h => h) (Or.inr ⟨by kernel_rfl, rfl⟩) hS2 ?_
      refine wpAnyP_take (i := 34) (v := undef) rfl (by kernel_rfl) (by kernel_rfl) (by kernel_rfl) (by kernel_rfl) (by kernel_rfl) (fun _ _ _ h => h) (Or.inr ⟨by kernel_rfl, rfl⟩) hS2 ?_
      refine wpAnyP_take (i := 35) (v := undef) rfl (by kernel_rfl) (by kernel_rfl) (by kernel_rfl) (by kernel_rfl) (by kernel_rfl) (fun _ _ _ h => h) (Or.inr ⟨by kernel_rfl, rfl⟩) hS2 ?_
      refine wpAnyP_take (i := 36) (v := undef) rfl (by kernel_rfl) (by kernel_rfl) (by kernel_rfl) (by kernel_rfl) (by kernel_rfl) (fun _ _ _ h => h) (Or.inr ⟨by kernel_rfl, rfl⟩) hS2 ?_
      refine wpAnyP_take (i := 37) (v := undef) rfl (by kernel_rfl) (by kernel_rfl) (by kernel_rfl) (by kernel_rfl) (by kernel_rfl) (fun _ _ _ h => h) (Or.inr ⟨by kernel_rfl, rfl⟩) hS2 ?_
      refine wpAnyP_take (i := 38) (v := undef) rfl (by kernel_rfl) (by kernel_rfl) (by kernel_rfl) (by kernel_rfl) (by kernel_rfl) (fun _ _ _ h => h) (Or.inr ⟨by kernel_rfl, rfl⟩) hS2 ?_
      refine wpAnyP_one (i := 39) rfl (by kernel_rfl) fun K hK => ?_
      go_simp
      refine hK _ _ (fun h => absurd h (by rw [show needS _ _ _ = false from by kernel_rfl]; decide)) ?_
      clear hK
      refine wpAnyP_done (by kernel_rfl) ?_ _
      go_wp2
      go_roundw
      case rel => exact ⟨k + 1, by go_num, by omega, nx HBW2.out bl.drew⟩
      case measure => simp [intOf]; omega
    have ht' : (x.type == 2) = true := by simp [ht]
    by_cases hc : x.cls = 1
    rotate_left
    · have hc' : (x.cls == 1) = false := by simp [hc]
      refine wp_region_any (by kernel_rfl) ?_
      change wpAny _ _ _ _ _ _ _ (World.drew w2)
      refine wpAny_of_P (S := fun W => RRow W bq s x ∧ p.row W t v) (dem := fun _ => true) _ _ _ _ ?_
      refine wpAnyP_take (i := 0) (v := .pointer (some ⟨bq, 1, none⟩)) rfl (by kernel_rfl) (by kernel_rfl) (by kernel_rfl) (by kernel_rfl) (by kernel_rfl) (fun _ _ _ h => h) (Or.inl ⟨by kernel_rfl, by (intro W hW; go_simp)⟩) hS2 ?_
      refine wpAnyP_take (i := 1) (v := .int .i64 x.type) rfl (by kernel_rfl) (by kernel_rfl) (by kernel_rfl) (by kernel_rfl) (by kernel_rfl) (fun _ _ _ h => h) (Or.inl ⟨by kernel_rfl, by (intro W hW; have c0 := hW.1.cells; obtain ⟨x0, x1, x2, x3, x4, x5, x6, x7, x8⟩ := c0; go_simp)⟩) hS2 ?_
      refine wpAnyP_take (i := 2) (v := .bool false) rfl (by kernel_rfl) (by kernel_rfl) (by kernel_rfl) (by kernel_rfl) (by kernel_rfl) (fun _ _ _ h => h) (Or.inl ⟨by kernel_rfl, by (intro W hW; go_simp)⟩) hS2 ?_
      refine wpAnyP_take (i := 3) (v := .bool false) rfl (by kernel_rfl) (by kernel_rfl) (by kernel_rfl) (by kernel_rfl) (by kernel_rfl) (fun _ _ _ h => h) (Or.inl ⟨by kernel_rfl, by (intro W hW; go_simp)⟩) hS2 ?_
      refine wpAnyP_take (i := 4) (v := .pointer (some ⟨bq, 2, none⟩)) rfl (by kernel_rfl) (by kernel_rfl) (by kernel_rfl) (by kernel_rfl) (by kernel_rfl) (fun _ _ _ h => h) (Or.inl ⟨by kernel_rfl, by (intro W hW; go_simp)⟩) hS2 ?_
      refine wpAnyP_take (i := 5) (v := .int .i64 x.cls) rfl (by kernel_rfl) (by kernel_rfl) (by kernel_rfl) (by kernel_rfl) (by kernel_rfl) (fun _ _ _ h => h) (Or.inl ⟨by kernel_rfl, by (intro W hW; have c0 := hW.1.cells; obtain ⟨x0, x1, x2, x3, x4, x5, x6, x7, x8⟩ := c0; go_simp)⟩) hS2 ?_
      refine wpAnyP_take (i := 6) (v := .bool true) rfl (by kernel_rfl) (by kernel_rfl) (by kernel_rfl) (by kernel_rfl) (by kernel_rfl) (fun _ _ _ h => h) (Or.inl ⟨by kernel_rfl, by (intro W hW; go_simp)⟩) hS2 ?_
      refine wpAnyP_take (i := 7) (v := .bool true) rfl (by kernel_rfl) (by kernel_rfl) (by kernel_rfl) (by kernel_rfl) (by kernel_rfl) (fun _ _ _ h => h) (Or.inl ⟨by kernel_rfl, by (intro W hW; go_simp)⟩) hS2 ?_
      refine wpAnyP_take (i := 8) (v := .bool true) rfl (by kernel_rfl) (by kernel_rfl) (by kernel_rfl) (by kernel_rfl) (by kernel_rfl) (fun _ _ _ h => h) (Or.inl ⟨by kernel_rfl, by (intro W hW; go_simp)⟩) hS2 ?_
      refine wpAnyP_take (i := 9) (v := undef) rfl (by kernel_rfl) (by kernel_rfl) (by kernel_rfl) (by kernel_rfl) (by kernel_rfl) (fun _ _ _ h => h) (Or.inr ⟨by kernel_rfl, rfl⟩) hS2 ?_
      refine wpAnyP_take (i := 10) (v := undef) rfl (by kernel_rfl) (by kernel_rfl) (by kernel_rfl) (by kernel_rfl) (by kernel_rfl) (fun _ _ _ h => h) (Or.inr ⟨by kernel_rfl, rfl⟩) hS2 ?_
      refine wpAnyP_take (i := 11) (v := undef) rfl (by kernel_rfl) (by kernel_rfl) (by kernel_rfl) (by kernel_rfl) (by kernel_rfl) (fun _ _ _ h => h) (Or.inr ⟨by kernel_rfl, rfl⟩) hS2 ?_
      refine wpAnyP_take (i := 12) (v := undef) rfl (by kernel_rfl) (by kernel_rfl) (by kernel_rfl) (by kernel_rfl) (by kernel_rfl) (fun _ _ _ h => h) (Or.inr ⟨by kernel_rfl, rfl⟩) hS2 ?_
      refine wpAnyP_take (i := 13) (v := undef) rfl (by kernel_rfl) (by kernel_rfl) (by kernel_rfl) (by kernel_rfl) (by kernel_rfl) (fun _ _ _ h => h) (Or.inr ⟨by kernel_rfl, rfl⟩) hS2 ?_
      refine wpAnyP_take (i := 14) (v := undef) rfl (by kernel_rfl) (by kernel_rfl) (by kernel_rfl) (by kernel_rfl) (by kernel_rfl) (fun _ _ _ h => h) (Or.inr ⟨by kernel_rfl, rfl⟩) hS2 ?_
      refine wpAnyP_take (i := 15) (v := undef) rfl (by kernel_rfl) (by kernel_rfl) (by kernel_rfl) (by kernel_rfl) (by kernel_rfl) (fun _ _ _ h => h) (Or.inr ⟨by kernel_rfl, rfl⟩) hS2 ?_
      refine wpAnyP_take (i := 16) (v := undef) rfl (by kernel_rfl) (by kernel_rfl) (by kernel_rfl) (by kernel_rfl) (by kernel_rfl) (fun _ _ _ h => h) (Or.inr ⟨by kernel_rfl, rfl⟩) hS2 ?_
      refine wpAnyP_take (i := 17) (v := .bool true) rfl (by kernel_rfl) (by kernel_rfl) (by kernel_rfl) (by kernel_rfl) (by kernel_rfl) (fun _ _ _ h => h) (Or.inl ⟨by kernel_rfl, by (intro W hW; go_simp)⟩) hS2 ?_
      refine wpAnyP_take (i := 18) (v := .bool true) rfl (by kernel_rfl) (by kernel_rfl) (by kernel_rfl) (by kernel_rfl) (by kernel_rfl) (fun _ _ _ h => h) (Or.inl ⟨by kernel_rfl, by (intro W hW; go_simp)⟩) hS2 ?_
      refine wpAnyP_take (i := 19) (v := undef) rfl (by kernel_rfl) (by kernel_rfl) (by kernel_rfl) (by kernel_rfl) (by kernel_rfl) (fun _ _ _ h => h) (Or.inr ⟨by kernel_rfl, rfl⟩) hS2 ?_
      refine wpAnyP_take (i := 20) (v := undef) rfl (by kernel_rfl) (by kernel_rfl) (by kernel_rfl) (by kernel_rfl) (by kernel_rfl) (fun _ _ _ h => h) (Or.inr ⟨by kernel_rfl, rfl⟩) hS2 ?_
      refine wpAnyP_take (i := 21) (v := undef) rfl (by kernel_rfl) (by kernel_rfl) (by kernel_rfl) (by kernel_rfl) (by kernel_rfl) (fun _ _ _ h => h) (Or.inr ⟨by kernel_rfl, rfl⟩) hS2 ?_
      refine wpAnyP_take (i := 22) (v := undef) rfl (by kernel_rfl) (by kernel_rfl) (by kernel_rfl) (by kernel_rfl) (by kernel_rfl) (fun _ _ _ h => h) (Or.inr ⟨by kernel_rfl, rfl⟩) hS2 ?_
      refine wpAnyP_take (i := 23) (v := undef) rfl (by kernel_rfl) (by kernel_rfl) (by kernel_rfl) (by kernel_rfl) (by kernel_rfl) (fun _ _ _ h => h) (Or.inr ⟨by kernel_rfl, rfl⟩) hS2 ?_
      refine wpAnyP_take (i := 24) (v := undef) rfl (by kernel_rfl) (by kernel_rfl) (by kernel_rfl) (by kernel_rfl) (by kernel_rfl) (fun _ _ _ h => h) (Or.inr ⟨by kernel_rfl, rfl⟩) hS2 ?_
      refine wpAnyP_take (i := 25) (v := undef) rfl (by kernel_rfl) (by kernel_rfl) (by kernel_rfl) (by kernel_rfl) (by kernel_rfl) (fun _ _ _ h => h) (Or.inr ⟨by kernel_rfl, rfl⟩) hS2 ?_
      refine wpAnyP_take (i := 26) (v := undef) rfl (by kernel_rfl) (by kernel_rfl) (by kernel_rfl) (by kernel_rfl) (by kernel_rfl) (fun _ _ _ h => h) (Or.inr ⟨by kernel_rfl, rfl⟩) hS2 ?_
      refine wpAnyP_take (i := 27) (v := undef) rfl (by kernel_rfl) (by kernel_rfl) (by kernel_rfl) (by kernel_rfl) (by kernel_rfl) (fun _ _ _ h => h) (Or.inr ⟨by kernel_rfl, rfl⟩) hS2 ?_
      refine wpAnyP_take (i := 28) (v := .bool true) rfl (by kernel_rfl) (by kernel_rfl) (by kernel_rfl) (by kernel_rfl) (by kernel_rfl) (fun _ _ _ h => h) (Or.inl ⟨by kernel_rfl, by (intro W hW; go_simp)⟩) hS2 ?_
      refine wpAnyP_take (i := 29) (v := .bool true) rfl (by kernel_rfl) (by kernel_rfl) (by kernel_rfl) (by kernel_rfl) (by kernel_rfl) (fun _ _ _ h => h) (Or.inl ⟨by kernel_rfl, by (intro W hW; go_simp)⟩) hS2 ?_
      refine wpAnyP_take (i := 30) (v := undef) rfl (by kernel_rfl) (by kernel_rfl) (by kernel_rfl) (by kernel_rfl) (by kernel_rfl) (fun _ _ _ h => h) (Or.inr ⟨by kernel_rfl, rfl⟩) hS2 ?_
      refine wpAnyP_take (i := 31) (v := undef) rfl (by kernel_rfl) (by kernel_rfl) (by kernel_rfl) (by kernel_rfl) (by kernel_rfl) (fun _ _ _ h => h) (Or.inr ⟨by kernel_rfl, rfl⟩) hS2 ?_
      refine wpAnyP_take (i := 32) (v := undef) rfl (by kernel_rfl) (by kernel_rfl) (by kernel_rfl) (by kernel_rfl) (by kernel_rfl) (fun _ _ _ h => h) (Or.inr ⟨by kernel_rfl, rfl⟩) hS2 ?_
      refine wpAnyP_take (i := 33) (v := undef) rfl (by kernel_rfl) (by kernel_rfl) (by kernel_rfl) (by kernel_rfl) (by kernel_rfl) (fun _ _ _ h => h) (Or.inr ⟨by kernel_rfl, rfl⟩) hS2 ?_
      refine wpAnyP_take (i := 34) (v := undef) rfl (by kernel_rfl) (by kernel_rfl) (by kernel_rfl) (by kernel_rfl) (by kernel_rfl) (fun _ _ _ h => h) (Or.inr ⟨by kernel_rfl, rfl⟩) hS2 ?_
      refine wpAnyP_take (i := 35) (v := undef) rfl (by kernel_rfl) (by kernel_rfl) (by kernel_rfl) (by kernel_rfl) (by kernel_rfl) (fun _ _ _ h => h) (Or.inr ⟨by kernel_rfl, rfl⟩) hS2 ?_
      refine wpAnyP_take (i := 36) (v := undef) rfl (by kernel_rfl) (by kernel_rfl) (by kernel_rfl) (by kernel_rfl) (by kernel_rfl) (fun _ _ _ h => h) (Or.inr ⟨by kernel_rfl, rfl⟩) hS2 ?_
      refine wpAnyP_take (i := 37) (v := undef) rfl (by kernel_rfl) (by kernel_rfl) (by kernel_rfl) (by kernel_rfl) (by kernel_rfl) (fun _ _ _ h => h) (Or.inr ⟨by kernel_rfl, rfl⟩) hS2 ?_
      refine wpAnyP_take (i := 38) (v := undef) rfl (by kernel_rfl) (by kernel_rfl) (by kernel_rfl) (by kernel_rfl) (by kernel_rfl) (fun _ _ _ h => h) (Or.inr ⟨by kernel_rfl, rfl⟩) hS2 ?_
      refine wpAnyP_one (i := 39) rfl (by kernel_rfl) fun K hK => ?_
      go_simp
      refine hK _ _ (fun h => absurd h (by rw [show needS _ _ _ = false from by kernel_rfl]; decide)) ?_
      clear hK
      refine wpAnyP_done (by kernel_rfl) ?_ _
      go_wp2
      go_roundw
      case rel => exact ⟨k + 1, by go_num, by omega, nx HBW2.out bl.drew⟩
      case measure => simp [intOf]; omega
    have hc' : (x.cls == 1) = true := by simp [hc]
    have ST2d : Hid (TSt p B Y w2.drew t v out) := ST2.out.below bl.drew
    have HRId : Hid (RIn (fun b => b < B) w2.drew s x) := HRI.out.below bl.drew (fun b hb => Nat.lt_trans hb ST2.out.size)
    have HXL : Hid (x.name.length ≤ 255) := (HSM.out x HXM.out).1
    have HU1 := Lib.hid (nunder_any s.A p.Z x.name.length s.c p.nz p.cz x.name p.zs w2.drew (HRId.out.n.mono (fun b hb => Nat.lt_trans hb ST2d.out.size) (fun b hb => Nat.lt_trans hb ST2d.out.size)) (ST2d.out.G.z.mono (fun b hb => Nat.lt_trans hb ST2d.out.size) (fun b hb => Nat.lt_trans hb ST2d.out.size)) (by have := HXL.out; omega) HZ.out HRId.out.cn.1)
    obtain ⟨u1, hu1⟩ : ∃ b, b = underB x.name p.zs := ⟨_, rfl⟩
    rw [← hu1] at HU1
    clear hu1
    cases u1 with
    | false =>
      refine wp_region_any (by kernel_rfl) ?_
      change wpAny _ _ _ _ _ _ _ (World.drew w2)
      refine wpAny_of_P (S := fun W => RRow W bq s x ∧ p.row W t v) (dem := fun _ => true) _ _ _ _ ?_
      refine wpAnyP_take (i := 0) (v := .pointer (some ⟨bq, 1, none⟩)) rfl (by kernel_rfl) (by kernel_rfl) (by kernel_rfl) (by kernel_rfl) (by kernel_rfl) (fun _ _ _ h => h) (Or.inl ⟨by kernel_rfl, by (intro W hW; go_simp)⟩) hS2 ?_
      refine wpAnyP_take (i := 1) (v := .int .i64 x.type) rfl (by kernel_rfl) (by kernel_rfl) (by kernel_rfl) (by kernel_rfl) (by kernel_rfl) (fun _ _ _ h => h) (Or.inl ⟨by kernel_rfl, by (intro W hW; have c0 := hW.1.cells; obtain ⟨x0, x1, x2, x3, x4, x5, x6, x7, x8⟩ := c0; go_simp)⟩) hS2 ?_
      refine wpAnyP_take (i := 2) (v := .bool false) rfl (by kernel_rfl) (by kernel_rfl) (by kernel_rfl) (by kernel_rfl) (by kernel_rfl) (fun _ _ _ h => h) (Or.inl ⟨by kernel_rfl, by (intro W hW; go_simp)⟩) hS2 ?_
      refine wpAnyP_take (i := 3) (v := .bool false) rfl (by kernel_rfl) (by kernel_rfl) (by kernel_rfl) (by kernel_rfl) (by kernel_rfl) (fun _ _ _ h => h) (Or.inl ⟨by kernel_rfl, by (intro W hW; go_simp)⟩) hS2 ?_
      refine wpAnyP_take (i := 4) (v := .pointer (some ⟨bq, 2, none⟩)) rfl (by kernel_rfl) (by kernel_rfl) (by kernel_rfl) (by kernel_rfl) (by kernel_rfl) (fun _ _ _ h => h) (Or.inl ⟨by kernel_rfl, by (intro W hW; go_simp)⟩) hS2 ?_
      refine wpAnyP_take (i := 5) (v := .int .i64 x.cls) rfl (by kernel_rfl) (by kernel_rfl) (by kernel_rfl) (by kernel_rfl) (by kernel_rfl) (fun _ _ _ h => h) (Or.inl ⟨by kernel_rfl, by (intro W hW; have c0 := hW.1.cells; obtain ⟨x0, x1, x2, x3, x4, x5, x6, x7, x8⟩ := c0; go_simp)⟩) hS2 ?_
      refine wpAnyP_take (i := 6) (v := .bool false) rfl (by kernel_rfl) (by kernel_rfl) (by kernel_rfl) (by kernel_rfl) (by kernel_rfl) (fun _ _ _ h => h) (Or.inl ⟨by kernel_rfl, by (intro W hW; go_simp)⟩) hS2 ?_
      refine wpAnyP_take (i := 7) (v := .bool false) rfl (by kernel_rfl) (by kernel_rfl) (by kernel_rfl) (by kernel_rfl) (by kernel_rfl) (fun _ _ _ h => h) (Or.inl ⟨by kernel_rfl, by (intro W hW; go_simp)⟩) hS2 ?_
      refine wpAnyP_take (i := 8) (v := .bool false) rfl (by kernel_rfl) (by kernel_rfl) (by kernel_rfl) (by kernel_rfl) (by kernel_rfl) (fun _ _ _ h => h) (Or.inl ⟨by kernel_rfl, by (intro W hW; go_simp)⟩) hS2 ?_
      refine wpAnyP_take (i := 9) (v := .pointer (some ⟨bq, 0, none⟩)) rfl (by kernel_rfl) (by kernel_rfl) (by kernel_rfl) (by kernel_rfl) (by kernel_rfl) (fun _ _ _ h => h) (Or.inl ⟨by kernel_rfl, by (intro W hW; go_simp)⟩) hS2 ?_
      refine wpAnyP_take (i := 10) (v := .slice s.A x.name.length s.c) rfl (by kernel_rfl) (by kernel_rfl) (by kernel_rfl) (by kernel_rfl) (by kernel_rfl) (fun _ _ _ h => h) (Or.inl ⟨by kernel_rfl, by (intro W hW; have c0 := hW.1.cells; obtain ⟨x0, x1, x2, x3, x4, x5, x6, x7, x8⟩ := c0; go_simp)⟩) hS2 ?_
      refine wpAnyP_take (i := 11) (v := .pointer (some ⟨t, 0, none⟩)) rfl (by kernel_rfl) (by kernel_rfl) (by kernel_rfl) (by kernel_rfl) (by kernel_rfl) (fun _ _ _ h => h) (Or.inl ⟨by kernel_rfl, by (intro W hW; go_simp)⟩) hS2 ?_
      refine wpAnyP_take (i := 12) (v := .pointer (some ⟨t, 0, none⟩)) rfl (by kernel_rfl) (by kernel_rfl) (by kernel_rfl) (by kernel_rfl) (by kernel_rfl) (fun _ _ _ h => h) (Or.inl ⟨by kernel_rfl, by (intro W hW; go_simp)⟩) hS2 ?_
      refine wpAnyP_take (i := 13) (v := .pointer (some ⟨t, 17, none⟩)) rfl (by kernel_rfl) (by kernel_rfl) (by kernel_rfl) (by kernel_rfl) (by kernel_rfl) (fun _ _ _ h => h) (Or.inl ⟨by kernel_rfl, by (intro W hW; go_simp)⟩) hS2 ?_
      refine wpAnyP_take (i := 14) (v := .slice p.Z p.nz p.cz) rfl (by kernel_rfl) (by kernel_rfl) (by kernel_rfl) (by kernel_rfl) (by kernel_rfl) (fun _ _ _ h => h) (Or.inl ⟨by kernel_rfl, by (intro W hW; have c0 := (TRow.cells20 hW.2).1; go_simp)⟩) hS2 ?_
      refine wpAnyP_one (i := 15) rfl (by kernel_rfl) fun K hK => ?_
      go_simp
      refine HU1.out.mono ?_
      rintro e w3 ⟨r3, rfl, rfl, hb3'⟩
      have HB3 : Hid (Below w2.drew.heap.size w2.drew w3) := hb3'
      clear hb3'
      have ST3 : Hid (TSt p B Y w3 t v out) := ST2d.out.below HB3.out
      have hS3 : RRow w3 bq s x ∧ p.row w3 t v := ⟨RRow.below (w := w2.drew) HR2.out HB3.out, ST3.out.T⟩
      refine hK _ _ (fun _ => hS3) ?_
      clear hK
      refine wpAnyP_take (i := 16) (v := .bool true) rfl (by kernel_rfl) (by kernel_rfl) (by kernel_rfl) (by kernel_rfl) (by kernel_rfl) (fun _ _ _ h => h) (Or.inl ⟨by kernel_rfl, by (intro W hW; go_simp)⟩) hS3 ?_
      refine wpAnyP_take (i := 17) (v := .bool true) rfl (by kernel_rfl) (by kernel_rfl) (by kernel_rfl) (by kernel_rfl) (by kernel_rfl) (fun _ _ _ h => h) (Or.inl ⟨by kernel_rfl, by (intro W hW; go_simp)⟩) hS3 ?_
      refine wpAnyP_take (i := 18) (v := .bool true) rfl (by kernel_rfl) (by kernel_rfl) (by kernel_rfl) (by kernel_rfl) (by kernel_rfl) (fun _ _ _ h => h) (Or.inl ⟨by kernel_rfl, by (intro W hW; go_simp)⟩) hS3 ?_
      refine wpAnyP_take (i := 19) (v := undef) rfl (by kernel_rfl) (by kernel_rfl) (by kernel_rfl) (by kernel_rfl) (by kernel_rfl) (fun _ _ _ h => h) (Or.inr ⟨by kernel_rfl, rfl⟩) hS3 ?_
      refine wpAnyP_take (i := 20) (v := undef) rfl (by kernel_rfl) (by kernel_rfl) (by kernel_rfl) (by kernel_rfl) (by kernel_rfl) (fun _ _ _ h => h) (Or.inr ⟨by kernel_rfl, rfl⟩) hS3 ?_
      refine wpAnyP_take (i := 21) (v := undef) rfl (by kernel_rfl) (by kernel_rfl) (by kernel_rfl) (by kernel_rfl) (by kernel_rfl) (fun _ _ _ h => h) (Or.inr ⟨by kernel_rfl, rfl⟩) hS3 ?_
      refine wpAnyP_take (i := 22) (v := undef) rfl (by kernel_rfl) (by kernel_rfl) (by kernel_rfl) (by kernel_rfl) (by kernel_rfl) (fun _ _ _ h => h) (Or.inr ⟨by kernel_rfl, rfl⟩) hS3 ?_
      refine wpAnyP_take (i := 23) (v := undef) rfl (by kernel_rfl) (by kernel_rfl) (by kernel_rfl) (by kernel_rfl) (by kernel_rfl) (fun _ _ _ h => h) (Or.inr ⟨by kernel_rfl, rfl⟩) hS3 ?_
      refine wpAnyP_take (i := 24) (v := undef) rfl (by kernel_rfl) (by kernel_rfl) (by kernel_rfl) (by kernel_rfl) (by kernel_rfl) (fun _ _ _ h => h) (Or.inr ⟨by kernel_rfl, rfl⟩) hS3 ?_
      refine wpAnyP_take (i := 25) (v := undef) rfl (by kernel_rfl) (by kernel_rfl) (by kernel_rfl) (by kernel_rfl) (by kernel_rfl) (fun _ _ _ h => h) (Or.inr ⟨by kernel_rfl, rfl⟩) hS3 ?_
      refine wpAnyP_take (i := 26) (v := undef) rfl (by kernel_rfl) (by kernel_rfl) (by kernel_rfl) (by kernel_rfl) (by kernel_rfl) (fun _ _ _ h => h) (Or.inr ⟨by kernel_rfl, rfl⟩) hS3 ?_
      refine wpAnyP_take (i := 27) (v := undef) rfl (by kernel_rfl) (by kernel_rfl) (by kernel_rfl) (by kernel_rfl) (by kernel_rfl) (fun _ _ _ h => h) (Or.inr ⟨by kernel_rfl, rfl⟩) hS3 ?_
      refine wpAnyP_take (i := 28) (v := .bool true) rfl (by kernel_rfl) (by kernel_rfl) (by kernel_rfl) (by kernel_rfl) (by kernel_rfl) (fun _ _ _ h => h) (Or.inl ⟨by kernel_rfl, by (intro W hW; go_simp)⟩) hS3 ?_
      refine wpAnyP_take (i := 29) (v := .bool true) rfl (by kernel_rfl) (by kernel_rfl) (by kernel_rfl) (by kernel_rfl) (by kernel_rfl) (fun _ _ _ h => h) (Or.inl ⟨by kernel_rfl, by (intro W hW; go_simp)⟩) hS3 ?_
      refine wpAnyP_take (i := 30) (v := undef) rfl (by kernel_rfl) (by kernel_rfl) (by kernel_rfl) (by kernel_rfl) (by kernel_rfl) (fun _ _ _ h => h) (Or.inr ⟨by kernel_rfl, rfl⟩) hS3 ?_
      refine wpAnyP_take (i := 31) (v := undef) rfl (by kernel_rfl) (by kernel_rfl) (by kernel_rfl) (by kernel_rfl) (by kernel_rfl) (fun _ _ _ h => h) (Or.inr ⟨by kernel_rfl, rfl⟩) hS3 ?_
      refine wpAnyP_take (i := 32) (v := undef) rfl (by kernel_rfl) (by kernel_rfl) (by kernel_rfl) (by kernel_rfl) (by kernel_rfl) (fun _ _ _ h => h) (Or.inr ⟨by kernel_rfl, rfl⟩) hS3 ?_
      refine wpAnyP_take (i := 33) (v := undef) rfl (by kernel_rfl) (by kernel_rfl) (by kernel_rfl) (by kernel_rfl) (by kernel_rfl) (fun _ _ _ h => h) (Or.inr ⟨by kernel_rfl, rfl⟩) hS3 ?_
      refine wpAnyP_take (i := 34) (v := undef) rfl (by kernel_rfl) (by kernel_rfl) (by kernel_rfl) (by kernel_rfl) (by kernel_rfl) (fun _ _ _ h => h) (Or.inr ⟨by kernel_rfl, rfl⟩) hS3 ?_
      refine wpAnyP_take (i := 35) (v := undef) rfl (by kernel_rfl) (by kernel_rfl) (by kernel_rfl) (by kernel_rfl) (by kernel_rfl) (fun _ _ _ h => h) (Or.inr ⟨by kernel_rfl, rfl⟩) hS3 ?_
      refine wpAnyP_take (i := 36) (v := undef) rfl (by kernel_rfl) (by kernel_rfl) (by kernel_rfl) (by kernel_rfl) (by kernel_rfl) (fun _ _ _ h => h) (Or.inr ⟨by kernel_rfl, rfl⟩) hS3 ?_
      refine wpAnyP_take (i := 37) (v := undef) rfl (by kernel_rfl) (by kernel_rfl) (by kernel_rfl) (by kernel_rfl) (by kernel_rfl) (fun _ _ _ h => h) (Or.inr ⟨by kernel_rfl, rfl⟩) hS3 ?_
      refine wpAnyP_take (i := 38) (v := undef) rfl (by kernel_rfl) (by kernel_rfl) (by kernel_rfl) (by kernel_rfl) (by kernel_rfl) (fun _ _ _ h => h) (Or.inr ⟨by kernel_rfl, rfl⟩) hS3 ?_
      refine wpAnyP_one (i := 39) rfl (by kernel_rfl) fun K hK => ?_
      go_simp
      refine hK _ _ (fun h => absurd h (by rw [show needS _ _ _ = false from by kernel_rfl]; decide)) ?_
      clear hK
      refine wpAnyP_done (by kernel_rfl) ?_ _
      go_wp2
      go_roundw
      case rel => exact ⟨k + 1, by go_num, by omega, nx (nx HBW2.out bl.drew) HB3.out⟩
      case measure => simp [intOf]; omega
    | true =>
    by_cases hle : x.name.length = p.nz
    · have hle' : ((x.name.length : Int) == (p.nz : Int)) = true := by simp [hle]
      clear hle
      refine wp_region_any (by kernel_rfl) ?_
      change wpAny _ _ _ _ _ _ _ (World.drew w2)
      refine wpAny_of_P (S := fun W => RRow W bq s x ∧ p.row W t v) (dem := fun _ => true) _ _ _ _ ?_
      refine wpAnyP_take (i := 0) (v := .pointer (some ⟨bq, 1, none⟩)) rfl (by kernel_rfl) (by kernel_rfl) (by kernel_rfl) (by kernel_rfl) (by kernel_rfl) (fun _ _ _ h => h) (Or.inl ⟨by kernel_rfl, by (intro W hW; go_simp)⟩) hS2 ?_
      refine wpAnyP_take (i := 1) (v := .int .i64 x.type) rfl (by kernel_rfl) (by kernel_rfl) (by kernel_rfl) (by kernel_rfl) (by kernel_rfl) (fun _ _ _ h => h) (Or.inl ⟨by kernel_rfl, by (intro W hW; have c0 := hW.1.cells; obtain ⟨x0, x1, x2, x3, x4, x5, x6, x7, x8⟩ := c0; go_simp)⟩) hS2 ?_
      refine wpAnyP_take (i := 2) (v := .bool false) rfl (by kernel_rfl) (by kernel_rfl) (by kernel_rfl) (by kernel_rfl) (by kernel_rfl) (fun _ _ _ h => h) (Or.inl ⟨by kernel_rfl, by (intro W hW; go_simp)⟩) hS2 ?_
      refine wpAnyP_take (i := 3) (v := .bool false) rfl (by kernel_rfl) (by kernel_rfl) (by kernel_rfl) (by kernel_rfl) (by kernel_rfl) (fun _ _ _ h => h) (Or.inl ⟨by kernel_rfl, by (intro W hW; go_simp)⟩) hS2 ?_
      refine wpAnyP_take (i := 4) (v := .pointer (some ⟨bq, 2, none⟩)) rfl (by kernel_rfl) (by kernel_rfl) (by kernel_rfl) (by kernel_rfl) (by kernel_rfl) (fun _ _ _ h => h) (Or.inl ⟨by kernel_rfl, by (intro W hW; go_simp)⟩) hS2 ?_
      refine wpAnyP_take (i := 5) (v := .int .i64 x.cls) rfl (by kernel_rfl) (by kernel_rfl) (by kernel_rfl) (by kernel_rfl) (by kernel_rfl) (fun _ _ _ h => h) (Or.inl ⟨by kernel_rfl, by (intro W hW; have c0 := hW.1.cells; obtain ⟨x0, x1, x2, x3, x4, x5, x6, x7, x8⟩ := c0; go_simp)⟩) hS2 ?_
      refine wpAnyP_take (i := 6) (v := .bool false) rfl (by kernel_rfl) (by kernel_rfl) (by kernel_rfl) (by kernel_rfl) (by kernel_rfl) (fun _ _ _ h => h) (Or.inl ⟨by kernel_rfl, by (intro W hW; go_simp)⟩) hS2 ?_
      refine wpAnyP_take (i := 7) (v := .bool false) rfl (by kernel_rfl) (by kernel_rfl) (by kernel_rfl) (by kernel_rfl) (by kernel_rfl) (fun _ _ _ h => h) (Or.inl ⟨by kernel_rfl, by (intro W hW; go_simp)⟩) hS2 ?_
      refine wpAnyP_take (i := 8) (v := .bool false) rfl (by kernel_rfl) (by kernel_rfl) (by kernel_rfl) (by kernel_rfl) (by kernel_rfl) (fun _ _ _ h => h) (Or.inl ⟨by kernel_rfl, by (intro W hW; go_simp)⟩) hS2 ?_
      refine wpAnyP_take (i := 9) (v := .pointer (some ⟨bq, 0, none⟩)) rfl (by kernel_rfl) (by kernel_rfl) (by kernel_rfl) (by kernel_rfl) (by kernel_rfl) (fun _ _ _ h => h) (Or.inl ⟨by kernel_rfl, by (intro W hW; go_simp)⟩) hS2 ?_
      refine wpAnyP_take (i := 10) (v := .slice s.A x.name.length s.c) rfl (by kernel_rfl) (by kernel_rfl) (by kernel_rfl) (by kernel_rfl) (by kernel_rfl) (fun _ _ _ h => h) (Or.inl ⟨by kernel_rfl, by (intro W hW; have c0 := hW.1.cells; obtain ⟨x0, x1, x2, x3, x4, x5, x6, x7, x8⟩ := c0; go_simp)⟩) hS2 ?_
      refine wpAnyP_take (i := 11) (v := .pointer (some ⟨t, 0, none⟩)) rfl (by kernel_rfl) (by kernel_rfl) (by kernel_rfl) (by kernel_rfl) (by kernel_rfl) (fun _ _ _ h => h) (Or.inl ⟨by kernel_rfl, by (intro W hW; go_simp)⟩) hS2 ?_
      refine wpAnyP_take (i := 12) (v := .pointer (some ⟨t, 0, none⟩)) rfl (by kernel_rfl) (by kernel_rfl) (by kernel_rfl) (by kernel_rfl) (by kernel_rfl) (fun _ _ _ h => h) (Or.inl ⟨by kernel_rfl, by (intro W hW; go_simp)⟩) hS2 ?_
      refine wpAnyP_take (i := 13) (v := .pointer (some ⟨t, 17, none⟩)) rfl (by kernel_rfl) (by kernel_rfl) (by kernel_rfl) (by kernel_rfl) (by kernel_rfl) (fun _ _ _ h => h) (Or.inl ⟨by kernel_rfl, by (intro W hW; go_simp)⟩) hS2 ?_
      refine wpAnyP_take (i := 14) (v := .slice p.Z p.nz p.cz) rfl (by kernel_rfl) (by kernel_rfl) (by kernel_rfl) (by kernel_rfl) (by kernel_rfl) (fun _ _ _ h => h) (Or.inl ⟨by kernel_rfl, by (intro W hW; have c0 := (TRow.cells20 hW.2).1; go_simp)⟩) hS2 ?_
      refine wpAnyP_one (i := 15) rfl (by kernel_rfl) fun K hK => ?_
      go_simp
      refine HU1.out.mono ?_
      rintro e w3 ⟨r3, rfl, rfl, hb3'⟩
      have HB3 : Hid (Below w2.drew.heap.size w2.drew w3) := hb3'
      clear hb3'
      have ST3 : Hid (TSt p B Y w3 t v out) := ST2d.out.below HB3.out
      have hS3 : RRow w3 bq s x ∧ p.row w3 t v := ⟨RRow.below (w := w2.drew) HR2.out HB3.out, ST3.out.T⟩
      refine hK _ _ (fun _ => hS3) ?_
      clear hK
      refine wpAnyP_take (i := 16) (v := .bool false) rfl (by kernel_rfl) (by kernel_rfl) (by kernel_rfl) (by kernel_rfl) (by kernel_rfl) (fun _ _ _ h => h) (Or.inl ⟨by kernel_rfl, by (intro W hW; go_simp)⟩) hS3 ?_
      refine wpAnyP_take (i := 17) (v := .bool false) rfl (by kernel_rfl) (by kernel_rfl) (by kernel_rfl) (by kernel_rfl) (by kernel_rfl) (fun _ _ _ h => h) (Or.inl ⟨by kernel_rfl, by (intro W hW; go_simp)⟩) hS3 ?_
      refine wpAnyP_take (i := 18) (v := .bool false) rfl (by kernel_rfl) (by kernel_rfl) (by kernel_rfl) (by kernel_rfl) (by kernel_rfl) (fun _ _ _ h => h) (Or.inl ⟨by kernel_rfl, by (intro W hW; go_simp)⟩) hS3 ?_
      refine wpAnyP_take (i := 19) (v := .pointer (some ⟨bq, 0, none⟩)) rfl (by kernel_rfl) (by kernel_rfl) (by kernel_rfl) (by kernel_rfl) (by kernel_rfl) (fun _ _ _ h => h) (Or.inl ⟨by kernel_rfl, by (intro W hW; go_simp)⟩) hS3 ?_
      refine wpAnyP_take (i := 20) (v := .slice s.A x.name.length s.c) rfl (by kernel_rfl) (by kernel_rfl) (by kernel_rfl) (by kernel_rfl) (by kernel_rfl) (fun _ _ _ h => h) (Or.inl ⟨by kernel_rfl, by (intro W hW; have c0 := hW.1.cells; obtain ⟨x0, x1, x2, x3, x4, x5, x6, x7, x8⟩ := c0; go_simp)⟩) hS3 ?_
      refine wpAnyP_take (i := 21) (v := .int .i64 (x.name.length : Int)) rfl (by kernel_rfl) (by kernel_rfl) (by kernel_rfl) (by kernel_rfl) (by kernel_rfl) (fun _ _ _ h => h) (Or.inl ⟨by kernel_rfl, by (intro W hW; go_simp)⟩) hS3 ?_
      refine wpAnyP_take (i := 22) (v := .pointer (some ⟨t, 0, none⟩)) rfl (by kernel_rfl) (by kernel_rfl) (by kernel_rfl) (by kernel_rfl) (by kernel_rfl) (fun _ _ _ h => h) (Or.inl ⟨by kernel_rfl, by (intro W hW; go_simp)⟩) hS3 ?_
      refine wpAnyP_take (i := 23) (v := .pointer (some ⟨t, 0, none⟩)) rfl (by kernel_rfl) (by kernel_rfl) (by kernel_rfl) (by kernel_rfl) (by kernel_rfl) (fun _ _ _ h => h) (Or.inl ⟨by kernel_rfl, by (intro W hW; go_simp)⟩) hS3 ?_
      refine wpAnyP_take (i := 24) (v := .pointer (some ⟨t, 17, none⟩)) rfl (by kernel_rfl) (by kernel_rfl) (by kernel_rfl) (by kernel_rfl) (by kernel_rfl) (fun _ _ _ h => h) (Or.inl ⟨by kernel_rfl, by (intro W hW; go_simp)⟩) hS3 ?_
      refine wpAnyP_take (i := 25) (v := .slice p.Z p.nz p.cz) rfl (by kernel_rfl) (by kernel_rfl) (by kernel_rfl) (by kernel_rfl) (by kernel_rfl) (fun _ _ _ h => h) (Or.inl ⟨by kernel_rfl, by (intro W hW; have c0 := (TRow.cells20 hW.2).1; go_simp)⟩) hS3 ?_
      refine wpAnyP_take (i := 26) (v := .int .i64 (p.nz : Int)) rfl (by kernel_rfl) (by kernel_rfl) (by kernel_rfl) (by kernel_rfl) (by kernel_rfl) (fun _ _ _ h => h) (Or.inl ⟨by kernel_rfl, by (intro W hW; go_simp)⟩) hS3 ?_
      refine wpAnyP_take (i := 27) (v := .bool true) rfl (by kernel_rfl) (by kernel_rfl) (by kernel_rfl) (by kernel_rfl) (by kernel_rfl) (fun _ _ _ h => h) (Or.inl ⟨by kernel_rfl, by (intro W hW; go_simp)⟩) hS3 ?_
      refine wpAnyP_take (i := 28) (v := .bool true) rfl (by kernel_rfl) (by kernel_rfl) (by kernel_rfl) (by kernel_rfl) (by kernel_rfl) (fun _ _ _ h => h) (Or.inl ⟨by kernel_rfl, by (intro W hW; go_simp)⟩) hS3 ?_
      refine wpAnyP_take (i := 29) (v := .bool true) rfl (by kernel_rfl) (by kernel_rfl) (by kernel_rfl) (by kernel_rfl) (by kernel_rfl) (fun _ _ _ h => h) (Or.inl ⟨by kernel_rfl, by (intro W hW; go_simp)⟩) hS3 ?_
      refine wpAnyP_take (i := 30) (v := undef) rfl (by kernel_rfl) (by kernel_rfl) (by kernel_rfl) (by kernel_rfl) (by kernel_rfl) (fun _ _ _ h => h) (Or.inr ⟨by kernel_rfl, rfl⟩) hS3 ?_
      refine wpAnyP_take (i := 31) (v := undef) rfl (by kernel_rfl) (by kernel_rfl) (by kernel_rfl) (by kernel_rfl) (by kernel_rfl) (fun _ _ _ h => h) (Or.inr ⟨by kernel_rfl, rfl⟩) hS3 ?_
      refine wpAnyP_take (i := 32) (v := undef) rfl (by kernel_rfl) (by kernel_rfl) (by kernel_rfl) (by kernel_rfl) (by kernel_rfl) (fun _ _ _ h => h) (Or.inr ⟨by kernel_rfl, rfl⟩) hS3 ?_
      refine wpAnyP_take (i := 33) (v := undef) rfl (by kernel_rfl) (by kernel_rfl) (by kernel_rfl) (by kernel_rfl) (by kernel_rfl) (fun _ _ _ h => h) (Or.inr ⟨by kernel_rfl, rfl⟩) hS3 ?_
      refine wpAnyP_take (i := 34) (v := undef) rfl (by kernel_rfl) (by kernel_rfl) (by kernel_rfl) (by kernel_rfl) (by kernel_rfl) (fun _ _ _ h => h) (Or.inr ⟨by kernel_rfl, rfl⟩) hS3 ?_
      refine wpAnyP_take (i := 35) (v := undef) rfl (by kernel_rfl) (by kernel_rfl) (by kernel_rfl) (by kernel_rfl) (by kernel_rfl) (fun _ _ _ h => h) (Or.inr ⟨by kernel_rfl, rfl⟩) hS3 ?_
      refine wpAnyP_take (i := 36) (v := undef) rfl (by kernel_rfl) (by kernel_rfl) (by kernel_rfl) (by kernel_rfl) (by kernel_rfl) (fun _ _ _ h => h) (Or.inr ⟨by kernel_rfl, rfl⟩) hS3 ?_
      refine wpAnyP_take (i := 37) (v := undef) rfl (by kernel_rfl) (by kernel_rfl) (by kernel_rfl) (by kernel_rfl) (by kernel_rfl) (fun _ _ _ h => h) (Or.inr ⟨by kernel_rfl, rfl⟩) hS3 ?_
      refine wpAnyP_take (i := 38) (v := undef) rfl (by kernel_rfl) (by kernel_rfl) (by kernel_rfl) (by kernel_rfl) (by kernel_rfl) (fun _ _ _ h => h) (Or.inr ⟨by kernel_rfl, rfl⟩) hS3 ?_
      refine wpAnyP_one (i := 39) rfl (by kernel_rfl) fun K hK => ?_
      go_simp
      refine hK _ _ (fun h => absurd h (by rw [show needS _ _ _ = false from by kernel_rfl]; decide)) ?_
      clear hK
      refine wpAnyP_done (by kernel_rfl) ?_ _
      go_wp2
      go_roundw
      case rel => exact ⟨k + 1, by go_num, by omega, nx (nx HBW2.out bl.drew) HB3.out⟩
      case measure => simp [intOf]; omega
    have hle' : ((x.name.length : Int) == (p.nz : Int)) = false := beq_eq_false_iff_ne.2 (by omega)
    clear hle
    refine wp_region_any (by kernel_rfl) ?_
    change wpAny _ _ _ _ _ _ _ (World.drew w2)
    refine wpAny_of_P (S := fun W => RRow W bq s x ∧ p.row W t v) (dem := fun _ => true) _ _ _ _ ?_
    refine wpAnyP_take (i := 0) (v := .pointer (some ⟨bq, 1, none⟩)) rfl (by kernel_rfl) (by kernel_rfl) (by kernel_rfl) (by kernel_rfl) (by kernel_rfl) (fun _ _ _ h => h) (Or.inl ⟨by kernel_rfl, by (intro W hW; go_simp)⟩) hS2 ?_
    refine wpAnyP_take (i := 1) (v := .int .i64 x.type) rfl (by kernel_rfl) (by kernel_rfl) (by kernel_rfl) (by kernel_rfl) (by kernel_rfl) (fun _ _ _ h => h) (Or.inl ⟨by kernel_rfl, by (intro W hW; have c0 := hW.1.cells; obtain ⟨x0, x1, x2, x3, x4, x5, x6, x7, x8⟩ := c0; go_simp)⟩) hS2 ?_
    refine wpAnyP_take (i := 2) (v := .bool false) rfl (by kernel_rfl) (by kernel_rfl) (by kernel_rfl) (by kernel_rfl) (by kernel_rfl) (fun _ _ _ h => h) (Or.inl ⟨by kernel_rfl, by (intro W hW; go_simp)⟩) hS2 ?_
    refine wpAnyP_take (i := 3) (v := .bool false) rfl (by kernel_rfl) (by kernel_rfl) (by kernel_rfl) (by kernel_rfl) (by kernel_rfl) (fun _ _ _ h => h) (Or.inl ⟨by kernel_rfl, by (intro W hW; go_simp)⟩) hS2 ?_
    refine wpAnyP_take (i := 4) (v := .pointer (some ⟨bq, 2, none⟩)) rfl (by kernel_rfl) (by kernel_rfl) (by kernel_rfl) (by kernel_rfl) (by kernel_rfl) (fun _ _ _ h => h) (Or.inl ⟨by kernel_rfl, by (intro W hW; go_simp)⟩) hS2 ?_
    refine wpAnyP_take (i := 5) (v := .int .i64 x.cls) rfl (by kernel_rfl) (by kernel_rfl) (by kernel_rfl) (by kernel_rfl) (by kernel_rfl) (fun _ _ _ h => h) (Or.inl ⟨by kernel_rfl, by (intro W hW; have c0 := hW.1.cells; obtain ⟨x0, x1, x2, x3, x4, x5, x6, x7, x8⟩ := c0; go_simp)⟩) hS2 ?_
    refine wpAnyP_take (i := 6) (v := .bool false) rfl (by kernel_rfl) (by kernel_rfl) (by kernel_rfl) (by kernel_rfl) (by kernel_rfl) (fun _ _ _ h => h) (Or.inl ⟨by kernel_rfl, by (intro W hW; go_simp)⟩) hS2 ?_
    refine wpAnyP_take (i := 7) (v := .bool false) rfl (by kernel_rfl) (by kernel_rfl) (by kernel_rfl) (by kernel_rfl) (by kernel_rfl) (fun _ _ _ h => h) (Or.inl ⟨by kernel_rfl, by (intro W hW; go_simp)⟩) hS2 ?_
    refine wpAnyP_take (i := 8) (v := .bool false) rfl (by kernel_rfl) (by kernel_rfl) (by kernel_rfl) (by kernel_rfl) (by kernel_rfl) (fun _ _ _ h => h) (Or.inl ⟨by kernel_rfl, by (intro W hW; go_simp)⟩) hS2 ?_
    refine wpAnyP_take (i := 9) (v := .pointer (some ⟨bq, 0, none⟩)) rfl (by kernel_rfl) (by kernel_rfl) (by kernel_rfl) (by kernel_rfl) (by kernel_rfl) (fun _ _ _ h => h) (Or.inl ⟨by kernel_rfl, by (intro W hW; go_simp)⟩) hS2 ?_
    refine wpAnyP_take (i := 10) (v := .slice s.A x.name.length s.c) rfl (by kernel_rfl) (by kernel_rfl) (by kernel_rfl) (by kernel_rfl) (by kernel_rfl) (fun _ _ _ h => h) (Or.inl ⟨by kernel_rfl, by (intro W hW; have c0 := hW.1.cells; obtain ⟨x0, x1, x2, x3, x4, x5, x6, x7, x8⟩ := c0; go_simp)⟩) hS2 ?_
    refine wpAnyP_take (i := 11) (v := .pointer (some ⟨t, 0, none⟩)) rfl (by kernel_rfl) (by kernel_rfl) (by kernel_rfl) (by kernel_rfl) (by kernel_rfl) (fun _ _ _ h => h) (Or.inl ⟨by kernel_rfl, by (intro W hW; go_simp)⟩) hS2 ?_
    refine wpAnyP_take (i := 12) (v := .pointer (some ⟨t, 0, none⟩)) rfl (by kernel_rfl) (by kernel_rfl) (by kernel_rfl) (by kernel_rfl) (by kernel_rfl) (fun _ _ _ h => h) (Or.inl ⟨by kernel_rfl, by (intro W hW; go_simp)⟩) hS2 ?_
    refine wpAnyP_take (i := 13) (v := .pointer (some ⟨t, 17, none⟩)) rfl (by kernel_rfl) (by kernel_rfl) (by kernel_rfl) (by kernel_rfl) (by kernel_rfl) (fun _ _ _ h => h) (Or.inl ⟨by kernel_rfl, by (intro W hW; go_simp)⟩) hS2 ?_
    refine wpAnyP_take (i := 14) (v := .slice p.Z p.nz p.cz) rfl (by kernel_rfl) (by kernel_rfl) (by kernel_rfl) (by kernel_rfl) (by kernel_rfl) (fun _ _ _ h => h) (Or.inl ⟨by kernel_rfl, by (intro W hW; have c0 := (TRow.cells20 hW.2).1; go_simp)⟩) hS2 ?_
    refine wpAnyP_one (i := 15) rfl (by kernel_rfl) fun K hK => ?_
    go_simp
    refine HU1.out.mono ?_
    rintro e w3 ⟨r3, rfl, rfl, hb3'⟩
    have HB3 : Hid (Below w2.drew.heap.size w2.drew w3) := hb3'
    clear hb3'
    have ST3 : Hid (TSt p B Y w3 t v out) := ST2d.out.below HB3.out
    have hS3 : RRow w3 bq s x ∧ p.row w3 t v := ⟨RRow.below (w := w2.drew) HR2.out HB3.out, ST3.out.T⟩
    refine hK _ _ (fun _ => hS3) ?_
    clear hK
    refine wpAnyP_take (i := 16) (v := .bool false) rfl (by kernel_rfl) (by kernel_rfl) (by kernel_rfl) (by kernel_rfl) (by kernel_rfl) (fun _ _ _ h => h) (Or.inl ⟨by kernel_rfl, by (intro W hW; go_simp)⟩) hS3 ?_
    refine wpAnyP_take (i := 17) (v := .bool false) rfl (by kernel_rfl) (by kernel_rfl) (by kernel_rfl) (by kernel_rfl) (by kernel_rfl) (fun _ _ _ h => h) (Or.inl ⟨by kernel_rfl, by (intro W hW; go_simp)⟩) hS3 ?_
    refine wpAnyP_take (i := 18) (v := .bool false) rfl (by kernel_rfl) (by kernel_rfl) (by kernel_rfl) (by kernel_rfl) (by kernel_rfl) (fun _ _ _ h => h) (Or.inl ⟨by kernel_rfl, by (intro W hW; go_simp)⟩) hS3 ?_
    refine wpAnyP_take (i := 19) (v := .pointer (some ⟨bq, 0, none⟩)) rfl (by kernel_rfl) (by kernel_rfl) (by kernel_rfl) (by kernel_rfl) (by kernel_rfl) (fun _ _ _ h => h) (Or.inl ⟨by kernel_rfl, by (intro W hW; go_simp)⟩) hS3 ?_
    refine wpAnyP_take (i := 20) (v := .slice s.A x.name.length s.c) rfl (by kernel_rfl) (by kernel_rfl) (by kernel_rfl) (by kernel_rfl) (by kernel_rfl) (fun _ _ _ h => h) (Or.inl ⟨by kernel_rfl, by (intro W hW; have c0 := hW.1.cells; obtain ⟨x0, x1, x2, x3, x4, x5, x6, x7, x8⟩ := c0; go_simp)⟩) hS3 ?_
    refine wpAnyP_take (i := 21) (v := .int .i64 (x.name.length : Int)) rfl (by kernel_rfl) (by kernel_rfl) (by kernel_rfl) (by kernel_rfl) (by kernel_rfl) (fun _ _ _ h => h) (Or.inl ⟨by kernel_rfl, by (intro W hW; go_simp)⟩) hS3 ?_
    refine wpAnyP_take (i := 22) (v := .pointer (some ⟨t, 0, none⟩)) rfl (by kernel_rfl) (by kernel_rfl) (by kernel_rfl) (by kernel_rfl) (by kernel_rfl) (fun _ _ _ h => h) (Or.inl ⟨by kernel_rfl, by (intro W hW; go_simp)⟩) hS3 ?_
    refine wpAnyP_take (i := 23) (v := .pointer (some ⟨t, 0, none⟩)) rfl (by kernel_rfl) (by kernel_rfl) (by kernel_rfl) (by kernel_rfl) (by kernel_rfl) (fun _ _ _ h => h) (Or.inl ⟨by kernel_rfl, by (intro W hW; go_simp)⟩) hS3 ?_
    refine wpAnyP_take (i := 24) (v := .pointer (some ⟨t, 17, none⟩)) rfl (by kernel_rfl) (by kernel_rfl) (by kernel_rfl) (by kernel_rfl) (by kernel_rfl) (fun _ _ _ h => h) (Or.inl ⟨by kernel_rfl, by (intro W hW; go_simp)⟩) hS3 ?_
    refine wpAnyP_take (i := 25) (v := .slice p.Z p.nz p.cz) rfl (by kernel_rfl) (by kernel_rfl) (by kernel_rfl) (by kernel_rfl) (by kernel_rfl) (fun _ _ _ h => h) (Or.inl ⟨by kernel_rfl, by (intro W hW; have c0 := (TRow.cells20 hW.2).1; go_simp)⟩) hS3 ?_
    refine wpAnyP_take (i := 26) (v := .int .i64 (p.nz : Int)) rfl (by kernel_rfl) (by kernel_rfl) (by kernel_rfl) (by kernel_rfl) (by kernel_rfl) (fun _ _ _ h => h) (Or.inl ⟨by kernel_rfl, by (intro W hW; go_simp)⟩) hS3 ?_
    refine wpAnyP_take (i := 27) (v := .bool false) rfl (by kernel_rfl) (by kernel_rfl) (by kernel_rfl) (by kernel_rfl) (by kernel_rfl) (fun _ _ _ h => h) (Or.inl ⟨by kernel_rfl, by (intro W hW; go_simp)⟩) hS3 ?_
    refine wpAnyP_take (i := 28) (v := .bool false) rfl (by kernel_rfl) (by kernel_rfl) (by kernel_rfl) (by kernel_rfl) (by kernel_rfl) (fun _ _ _ h => h) (Or.inl ⟨by kernel_rfl, by (intro W hW; go_simp)⟩) hS3 ?_
    refine wpAnyP_take (i := 29) (v := .bool false) rfl (by kernel_rfl) (by kernel_rfl) (by kernel_rfl) (by kernel_rfl) (by kernel_rfl) (fun _ _ _ h => h) (Or.inl ⟨by kernel_rfl, by (intro W hW; go_simp)⟩) hS3 ?_
    refine wpAnyP_take (i := 30) (v := .pointer (some ⟨t, 0, none⟩)) rfl (by kernel_rfl) (by kernel_rfl) (by kernel_rfl) (by kernel_rfl) (by kernel_rfl) (fun _ _ _ h => h) (Or.inl ⟨by kernel_rfl, by (intro W hW; go_simp)⟩) hS3 ?_
    refine wpAnyP_take (i := 31) (v := .pointer (some ⟨t, 0, none⟩)) rfl (by kernel_rfl) (by kernel_rfl) (by kernel_rfl) (by kernel_rfl) (by kernel_rfl) (fun _ _ _ h => h) (Or.inl ⟨by kernel_rfl, by (intro W hW; go_simp)⟩) hS3 ?_
    refine wpAnyP_take (i := 32) (v := .pointer (some ⟨t, 0, none⟩)) rfl (by kernel_rfl) (by kernel_rfl) (by kernel_rfl) (by kernel_rfl) (by kernel_rfl) (fun _ _ _ h => h) (Or.inl ⟨by kernel_rfl, by (intro W hW; go_simp)⟩) hS3 ?_
    refine wpAnyP_take (i := 33) (v := .pointer (some ⟨t, 0, none⟩)) rfl (by kernel_rfl) (by kernel_rfl) (by kernel_rfl) (by kernel_rfl) (by kernel_rfl) (fun _ _ _ h => h) (Or.inl ⟨by kernel_rfl, by (intro W hW; go_simp)⟩) hS3 ?_
    refine wpAnyP_take (i := 34) (v := .slice p.sq.A p.q.name.length p.sq.c) rfl (by kernel_rfl) (by kernel_rfl) (by kernel_rfl) (by kernel_rfl) (by kernel_rfl) (fun _ _ _ h => h) (Or.inl ⟨by kernel_rfl, by (intro W hW; have c0 := (TRow.cellsM hW.2).1; go_simp)⟩) hS3 ?_
    refine wpAnyP_take (i := 35) (v := .pointer (some ⟨bq, 0, none⟩)) rfl (by kernel_rfl) (by kernel_rfl) (by kernel_rfl) (by kernel_rfl) (by kernel_rfl) (fun _ _ _ h => h) (Or.inl ⟨by kernel_rfl, by (intro W hW; go_simp)⟩) hS3 ?_
    refine wpAnyP_take (i := 36) (v := .slice s.A x.name.length s.c) rfl (by kernel_rfl) (by kernel_rfl) (by kernel_rfl) (by kernel_rfl) (by kernel_rfl) (fun _ _ _ h => h) (Or.inl ⟨by kernel_rfl, by (intro W hW; have c0 := hW.1.cells; obtain ⟨x0, x1, x2, x3, x4, x5, x6, x7, x8⟩ := c0; go_simp)⟩) hS3 ?_
    have HRI3 : Hid (RIn (fun b => b < B) w3 s x) := HRId.out.below HB3.out (fun b hb => Nat.lt_trans hb ST2d.out.size)
    have HU2 := Lib.hid (nunder_any p.sq.A s.A p.q.name.length p.sq.c x.name.length s.c p.q.name x.name w3 (ST3.out.G.q.n.mono (fun b hb => Nat.lt_trans hb ST3.out.size) (fun b hb => Nat.lt_trans hb ST3.out.size)) (HRI3.out.n.mono (fun b hb => Nat.lt_trans hb ST3.out.size) (fun b hb => Nat.lt_trans hb ST3.out.size)) (by have := HQ.out; omega) (by have := HXL.out; omega) ST3.out.G.q.cn.1)
    obtain ⟨u2, hu2⟩ : ∃ b, b = underB p.q.name x.name := ⟨_, rfl⟩
    rw [← hu2] at HU2
    clear hu2
    cases u2 with
    | false =>
      refine wpAnyP_one (i := 37) rfl (by kernel_rfl) fun K hK => ?_
      go_simp
      refine HU2.out.mono ?_
      rintro e w4 ⟨r4, rfl, rfl, hb4⟩
      have HB4 := Lib.hid hb4
      clear hb4
      have ST4 : Hid (TSt p B Y w4 t v out) := ST3.out.below HB4.out
      have hS4 : RRow w4 bq s x ∧ p.row w4 t v := ⟨RRow.below hS3.1 HB4.out, ST4.out.T⟩
      refine hK _ _ (fun _ => hS4) ?_
      clear hK
      refine wpAnyP_take (i := 38) (v := .bool true) rfl (by kernel_rfl) (by kernel_rfl) (by kernel_rfl) (by kernel_rfl) (by kernel_rfl) (fun _ _ _ h => h) (Or.inl ⟨by kernel_rfl, by (intro W hW; go_simp)⟩) hS4 ?_
      refine wpAnyP_one (i := 39) rfl (by kernel_rfl) fun K hK => ?_
      go_simp
      refine hK _ _ (fun h => absurd h (by rw [show needS _ _ _ = false from by kernel_rfl]; decide)) ?_
      clear hK
      refine wpAnyP_done (by kernel_rfl) ?_ _
      go_wp2
      go_roundw
      case rel => exact ⟨k + 1, by go_num, by omega, nx (nx (nx HBW2.out bl.drew) HB3.out) HB4.out⟩
      case measure => simp [intOf]; omega
    | true =>
    refine wpAnyP_one (i := 37) rfl (by kernel_rfl) fun K hK => ?_
    go_simp
    refine HU2.out.mono ?_
    rintro e w4 ⟨r4, rfl, rfl, hb4⟩
    have HB4 := Lib.hid hb4
    clear hb4
    have ST4 : Hid (TSt p B Y w4 t v out) := ST3.out.below HB4.out
    have hS4 : RRow w4 bq s x ∧ p.row w4 t v := ⟨RRow.below hS3.1 HB4.out, ST4.out.T⟩
    refine hK _ _ (fun _ => hS4) ?_
    clear hK
    refine wpAnyP_take (i := 38) (v := .bool false) rfl (by kernel_rfl) (by kernel_rfl) (by kernel_rfl) (by kernel_rfl) (by kernel_rfl) (fun _ _ _ h => h) (Or.inl ⟨by kernel_rfl, by (intro W hW; go_simp)⟩) hS4 ?_
    refine wpAnyP_one (i := 39) rfl (by kernel_rfl) fun K hK => ?_
    go_simp
    refine hK _ _ (fun h => absurd h (by rw [show needS _ _ _ = false from by kernel_rfl]; decide)) ?_
    clear hK
    refine wpAnyP_done (by kernel_rfl) ?_ _
    have HRI4 : Hid (RIn (fun b => b < B) w4 s x) := HRI3.out.below HB4.out (fun b hb => Nat.lt_trans hb ST3.out.size)
    have HB5 : Hid (Below w.heap.size w w4.drew) := nx (nx (nx (nx HBW2.out bl.drew) HB3.out) HB4.out) bl.drew
    have hbd : Below w4.heap.size w4 w4.drew := bl.drew
    have ST5 : Hid (TSt p B Y w4.drew t v out) := ST4.out.below hbd
    have HRI5 : Hid (RIn (fun b => b < B) w4.drew s x) := HRI4.out.below hbd (fun b hb => Nat.lt_trans hb ST4.out.size)
    have hS5 : RRow w4.drew bq s x ∧ p.row w4.drew t v := ⟨hS4.1, ST5.out.T⟩
    have HHS : Hid (Calls Try.prog 121 #[.pointer (some ⟨t, 0, none⟩), .slice p.sm.U p.m.au.length p.sm.uc, .slice s.A x.name.length s.c, .int .i64 2, .int .i64 2, .int .i64 64] w4.drew (TCall p B Y t w4.drew v (fun r out2 => ∃ b : Bool, r = .bool b ∧ out2.length ≤ out.length + 1 ∧ ∀ f ∈ out2, f ∈ out ∨ HasF p p.m.au x.name 2 f))) :=
      has_any p B t Y v out w4.drew ST5.out p.sm.U s.A p.m.au.length p.sm.uc x.name.length s.c p.m.au x.name 2 2 64 ST5.out.G.m.u (HRI5.out.n.mono (fun b hb => Nat.lt_trans hb ST5.out.size) (fun b hb => Nat.lt_trans hb ST5.out.size)) HRI5.out.cn (by have := HXL.out; omega) (by rw [← HL.out]; omega) HSM.out ⟨by omega, by omega⟩ ⟨by omega, by omega⟩ (by omega) (by omega) HZ.out (by have := HOL.out; omega)
    clear hS2 hS3 hS4 hbd hle' ht ht' hc hc'
    go_wp2
    refine wp_region_any (by kernel_rfl) ?_
    change wpAny _ _ _ _ _ _ _ (World.drew w4)
    refine wpAny_of_P (S := fun W => RRow W bq s x ∧ p.row W t v) (dem := fun _ => true) _ _ _ _ ?_
    refine wpAnyP_take (i := 0) (v := .pointer (some ⟨t, 0, none⟩)) rfl (by kernel_rfl) (by kernel_rfl) (by kernel_rfl) (by kernel_rfl) (by kernel_rfl) (fun _ _ _ h => h) (Or.inl ⟨by kernel_rfl, by (intro W hW; go_simp)⟩) hS5 ?_
    refine wpAnyP_take (i := 1) (v := .pointer (some ⟨t, 0, none⟩)) rfl (by kernel_rfl) (by kernel_rfl) (by kernel_rfl) (by kernel_rfl) (by kernel_rfl) (fun _ _ _ h => h) (Or.inl ⟨by kernel_rfl, by (intro W hW; go_simp)⟩) hS5 ?_
    refine wpAnyP_take (i := 2) (v := .pointer (some ⟨t, 0, none⟩)) rfl (by kernel_rfl) (by kernel_rfl) (by kernel_rfl) (by kernel_rfl) (by kernel_rfl) (fun _ _ _ h => h) (Or.inl ⟨by kernel_rfl, by (intro W hW; go_simp)⟩) hS5 ?_
    refine wpAnyP_take (i := 3) (v := .pointer (some ⟨t, 3, none⟩)) rfl (by kernel_rfl) (by kernel_rfl) (by kernel_rfl) (by kernel_rfl) (by kernel_rfl) (fun _ _ _ h => h) (Or.inl ⟨by kernel_rfl, by (intro W hW; go_simp)⟩) hS5 ?_
    refine wpAnyP_take (i := 4) (v := .pointer (some ⟨t, 13, none⟩)) rfl (by kernel_rfl) (by kernel_rfl) (by kernel_rfl) (by kernel_rfl) (by kernel_rfl) (fun _ _ _ h => h) (Or.inl ⟨by kernel_rfl, by (intro W hW; go_simp)⟩) hS5 ?_
    refine wpAnyP_take (i := 5) (v := .slice p.sm.U p.m.au.length p.sm.uc) rfl (by kernel_rfl) (by kernel_rfl) (by kernel_rfl) (by kernel_rfl) (by kernel_rfl) (fun _ _ _ h => h) (Or.inl ⟨by kernel_rfl, by (intro W hW; have c0 := (TRow.cellsM hW.2).2.2.2.1; go_simp)⟩) hS5 ?_
    refine wpAnyP_take (i := 6) (v := .pointer (some ⟨bq, 0, none⟩)) rfl (by kernel_rfl) (by kernel_rfl) (by kernel_rfl) (by kernel_rfl) (by kernel_rfl) (fun _ _ _ h => h) (Or.inl ⟨by kernel_rfl, by (intro W hW; go_simp)⟩) hS5 ?_
    refine wpAnyP_take (i := 7) (v := .slice s.A x.name.length s.c) rfl (by kernel_rfl) (by kernel_rfl) (by kernel_rfl) (by kernel_rfl) (by kernel_rfl) (fun _ _ _ h => h) (Or.inl ⟨by kernel_rfl, by (intro W hW; have c0 := hW.1.cells; obtain ⟨x0, x1, x2, x3, x4, x5, x6, x7, x8⟩ := c0; go_simp)⟩) hS5 ?_
    refine wpAnyP_one (i := 8) rfl (by kernel_rfl) fun K hK => ?_
    go_simp
    refine HHS.out.mono ?_
    rintro e w6 ⟨r6, v6, out6, rfl, hT6, hX6, b6, rfl, hol6, hg6⟩
    refine hK _ _ (fun h => absurd h (by rw [show needS _ _ _ = false from by kernel_rfl]; decide)) ?_
    clear hK
    refine wpAnyP_done (by kernel_rfl) ?_ _
    have HT6 := Lib.hid hT6
    have HX6 := Lib.hid hX6
    have HG6 := Lib.hid hg6
    have HR6 : Hid (RRow w6 bq s x) := (hX6.keep ((Array.getElem?_eq_some_iff.1 hS5.1).1) HBT.out.1 HBT.out.2).trans hS5.1
    have HRI6 : Hid (RIn (fun b => b < B) w6 s x) := HRI5.out.keep (fun b hb => hX6.lowB ST5.out b hb)
    have HBT6 : Hid (bq ≠ t ∧ ∀ z, v6.ownBlock = some z → bq ≠ z) := ⟨HBT.out.1, fun z hz => (hX6.N z hz).elim (fun e => HBT.out.2 z e) (fun e => by have := (Array.getElem?_eq_some_iff.1 hS5.1).1; omega)⟩
    clear hT6 hX6 hg6 hS5
    have hS6 : RRow w6.drew bq s x ∧ p.row w6.drew t v6 := ⟨HR6.out, HT6.out.T⟩
    obtain ⟨st, hst⟩ : ∃ y, y = setP p.m.au x.name 2 := ⟨_, rfl⟩
    have HST := Lib.hid hst
    have ST6d : Hid (TSt p B Y w6.drew t v6 out6) := HT6.out.below bl.drew
    have HRI6d : Hid (RIn (fun b => b < B) w6.drew s x) := HRI6.out.below bl.drew (fun b hb => Nat.lt_trans hb HT6.out.size)
    have HPS := Lib.hid (pset_any p.sm.U s.A p.m.au.length p.sm.uc x.name.length s.c p.m.au x.name 2 w6.drew (ST6d.out.G.m.u.mono (fun b hb => Nat.lt_trans hb ST6d.out.size) (fun b hb => Nat.lt_trans hb ST6d.out.size)) (HRI6d.out.n.mono (fun b hb => Nat.lt_trans hb ST6d.out.size) (fun b hb => Nat.lt_trans hb ST6d.out.size)) (by rw [← HL.out]; omega) (Nat.le_trans HRI6d.out.cn.1 HRI6d.out.cn.2) (fun r hr => (HSM.out r hr).light))
    rw [← hst] at HPS
    obtain ⟨sl, ttl⟩ := st
    clear hst
    go_wp2
    refine wp_region_any (by kernel_rfl) ?_
    change wpAny _ _ _ _ _ _ _ (World.drew w6)
    refine wpAny_of_P (S := fun W => RRow W bq s x ∧ p.row W t v6) (dem := fun _ => true) _ _ _ _ ?_
    refine wpAnyP_take (i := 0) (v := .pointer (some ⟨t, 0, none⟩)) rfl (by kernel_rfl) (by kernel_rfl) (by kernel_rfl) (by kernel_rfl) (by kernel_rfl) (fun _ _ _ h => h) (Or.inl ⟨by kernel_rfl, by (intro W hW; go_simp)⟩) hS6 ?_
    refine wpAnyP_take (i := 1) (v := .pointer (some ⟨t, 0, none⟩)) rfl (by kernel_rfl) (by kernel_rfl) (by kernel_rfl) (by kernel_rfl) (by kernel_rfl) (fun _ _ _ h => h) (Or.inl ⟨by kernel_rfl, by (intro W hW; go_simp)⟩) hS6 ?_
    refine wpAnyP_take (i := 2) (v := .pointer (some ⟨t, 3, none⟩)) rfl (by kernel_rfl) (by kernel_rfl) (by kernel_rfl) (by kernel_rfl) (by kernel_rfl) (fun _ _ _ h => h) (Or.inl ⟨by kernel_rfl, by (intro W hW; go_simp)⟩) hS6 ?_
    refine wpAnyP_take (i := 3) (v := .pointer (some ⟨t, 13, none⟩)) rfl (by kernel_rfl) (by kernel_rfl) (by kernel_rfl) (by kernel_rfl) (by kernel_rfl) (fun _ _ _ h => h) (Or.inl ⟨by kernel_rfl, by (intro W hW; go_simp)⟩) hS6 ?_
    refine wpAnyP_take (i := 4) (v := .slice p.sm.U p.m.au.length p.sm.uc) rfl (by kernel_rfl) (by kernel_rfl) (by kernel_rfl) (by kernel_rfl) (by kernel_rfl) (fun _ _ _ h => h) (Or.inl ⟨by kernel_rfl, by (intro W hW; have c0 := (TRow.cellsM hW.2).2.2.2.1; go_simp)⟩) hS6 ?_
    refine wpAnyP_take (i := 5) (v := .pointer (some ⟨bq, 0, none⟩)) rfl (by kernel_rfl) (by kernel_rfl) (by kernel_rfl) (by kernel_rfl) (by kernel_rfl) (fun _ _ _ h => h) (Or.inl ⟨by kernel_rfl, by (intro W hW; go_simp)⟩) hS6 ?_
    refine wpAnyP_take (i := 6) (v := .slice s.A x.name.length s.c) rfl (by kernel_rfl) (by kernel_rfl) (by kernel_rfl) (by kernel_rfl) (by kernel_rfl) (fun _ _ _ h => h) (Or.inl ⟨by kernel_rfl, by (intro W hW; have c0 := hW.1.cells; obtain ⟨x0, x1, x2, x3, x4, x5, x6, x7, x8⟩ := c0; go_simp)⟩) hS6 ?_
    refine wpAnyP_one (i := 7) rfl (by kernel_rfl) fun K hK => ?_
    go_simp
    refine HPS.out.mono ?_
    rintro e w7 ⟨r7, rfl, ⟨sv7, rfl, hsv7⟩, hb7⟩
    obtain ⟨SA, sc, hsve, hsr, hsc1, hsc2⟩ := hsv7.rd
    have HSR := Lib.hid hsr
    have HSC : Hid (sl.length ≤ sc ∧ sc ≤ maxLen) := ⟨hsc1, hsc2⟩
    obtain ⟨m, hm⟩ : ∃ m, m = sl.length := ⟨_, rfl⟩
    have HM := Lib.hid hm
    rw [← hm] at hsve
    subst hsve
    clear hm hsr hsc1 hsc2 hsv7
    have HB7 := Lib.hid hb7
    clear hb7
    have ST7 : Hid (TSt p B Y w7 t v6 out6) := ST6d.out.below HB7.out
    have hS7 : RRow w7 bq s x ∧ p.row w7 t v6 := ⟨RRow.below hS6.1 HB7.out, ST7.out.T⟩
    refine hK _ _ (fun _ => hS7) ?_
    clear hK
    refine wpAnyP_take (i := 8) (v := .tuple #[.slice SA m sc, .int .i64 ttl]) rfl (by kernel_rfl) (by kernel_rfl) (by kernel_rfl) (by kernel_rfl) (by kernel_rfl) (fun _ _ _ h => h) (Or.inl ⟨by kernel_rfl, by (intro W hW; go_simp)⟩) hS7 ?_
    refine wpAnyP_take (i := 9) (v := .slice SA m sc) rfl (by kernel_rfl) (by kernel_rfl) (by kernel_rfl) (by kernel_rfl) (by kernel_rfl) (fun _ _ _ h => h) (Or.inl ⟨by kernel_rfl, by (intro W hW; go_simp)⟩) hS7 ?_
    refine wpAnyP_take (i := 10) (v := .int .i64 ttl) rfl (by kernel_rfl) (by kernel_rfl) (by kernel_rfl) (by kernel_rfl) (by kernel_rfl) (fun _ _ _ h => h) (Or.inl ⟨by kernel_rfl, by (intro W hW; go_simp)⟩) hS7 ?_
    refine wpAnyP_take (i := 11) (v := .slice SA m sc) rfl (by kernel_rfl) (by kernel_rfl) (by kernel_rfl) (by kernel_rfl) (by kernel_rfl) (fun _ _ _ h => h) (Or.inl ⟨by kernel_rfl, by (intro W hW; go_simp)⟩) hS7 ?_
    refine wpAnyP_one (i := 12) rfl (by kernel_rfl) fun K hK => ?_
    go_simp
    refine hK _ _ (fun h => absurd h (by rw [show needS _ _ _ = false from by kernel_rfl]; decide)) ?_
    clear hK
    refine wpAnyP_done (by kernel_rfl) ?_ _
    clear hS6
    obtain ⟨n, hn⟩ : ∃ n, n = if 64 < m then 64 else m := ⟨_, rfl⟩
    have hnm : n ≤ m ∧ n ≤ 64 := by rw [hn]; split <;> omega
    have hmin : (if (64 : Int) < (m : Int) then (64 : Int) else (m : Int)) = (n : Int) := by rw [hn]; split <;> split <;> omega
    have hmc : m ≤ sc := by rw [HM.out]; exact HSC.out.1
    have hn0 : (0 : Int) ≤ (n : Int) := by omega
    have hnc : (n : Int) ≤ (sc : Int) := by omega
    obtain ⟨ds, hds⟩ : ∃ ds, ds = sl.take n := ⟨_, rfl⟩
    have HDS := Lib.hid hds
    have HDL : Hid (ds.length = n) := by show _ = _; rw [hds, List.length_take, ← HM.out]; omega
    have HSTD : Hid (∀ d ∈ ds, d.host.length ≤ 1000) := fun d hd => by
      obtain ⟨r, hr, _, hrd⟩ := setP_mem p.m.au x.name 2 d (by rw [← HST.out]; exact List.mem_of_mem_take (by rw [HDS.out] at hd; exact hd))
      have := (HSM.out r hr).2.1
      rw [hrd] at this
      omega
    have RF0 : Hid (RfSt p B Y t w v out bq s x SA ds 1 w7 v6 out6) := by
      have hX : TX t w v w7 v6 := ((TX.of_below HB5.out).trans HX6.out).nx ((bl.drew : Below w6.heap.size w6 w6.drew).trans (HB7.out))
      have he : Els encDa (fun b => w6.drew.heap.size ≤ b ∧ b < w7.heap.size) (fun b => w6.drew.heap.size ≤ b ∧ b < w7.heap.size) w7 SA ds.length ds := by
        rw [HDL.out, hds]
        exact HSR.out.take (by rw [← HM.out]; exact hnm.1)
      refine ⟨ST7.out, hX, hol6, fun f hf => (HG6.out f hf).imp id (fun h => .inl ⟨_, _, h⟩), hS7.1, HBT6.out, HRI6d.out.below HB7.out (fun b hb => Nat.lt_trans hb ST6d.out.size), ⟨_, he, fun b hb => ⟨hb.2, fun e => ?_⟩⟩⟩
      have h1 := hb.1
      rcases e with e | e
      · have := ST6d.out.lt; omega
      · have := (ST6d.out.own b e).2; omega
    have HNN := Lib.hid hnm
    clear hds hS7 hn hnm
    go_upto_region 7 with (fail)
    clear hmin hmc hn0 hnc
    go_loopw [84] (fun iv wr => ∃ (j : Nat) (v' : Value) (out' : List Fa), iv = .int .i64 (j : Int) ∧ j ≤ n ∧ Hid (RfSt p B Y t w v out bq s x SA ds (1 + 2 * j) wr v' out')) (fun iv _ => n - (intOf iv).toNat)
    case atStart => exact ⟨0, v6, out6, rfl, Nat.zero_le _, RF0⟩
    case round =>
      clear RF0
      obtain ⟨j, v', out', rfl, hj, ST⟩ := hrel
      have hnb : n ≤ 64 := HNN.out.2
      by_cases hjn : j < n
      rotate_left
      · have hjn' : ¬ (j : Int) < (n : Int) := by omega
        go_wp2
        go_end0
        exact ⟨_, v', out', rfl, ST.out.T, ST.out.X, rfl, by have h1 := ST.out.ol; have h2 := HNN.out.2; omega, ST.out.good⟩
      obtain ⟨d, hd⟩ : ∃ d, ds[j]? = some d := ⟨_, List.getElem?_eq_getElem (by rw [HDL.out]; exact hjn)⟩
      have hdm := List.mem_of_getElem? hd
      obtain ⟨Sx, hels, hSx⟩ := ST.out.set
      obtain ⟨bs, off2, e1, hSA, hbs, hdi, hdc⟩ := da_at hels hd
      have HNM : Hid (NmIn wr (fun b => b = t ∨ v'.ownBlock = some b) e1.A1 e1.c1 d.host) := ⟨⟨Sx, hdi.h, hSx⟩, hdi.ch, HSTD.out d hdm⟩
      obtain ⟨d0, d1, d2, d3, d4⟩ := hdc
      have HSA := Lib.hid hSA
      rw [hSA]
      obtain ⟨w8, hw8⟩ : ∃ w8, w8 = wr.alloc (.cells #[.slice e1.A0 d.bytes.length e1.c0, .slice e1.A1 d.host.length e1.c1, .slice e1.A2 d.mail.length e1.c2, .slice e1.A3 d.nums.length e1.c3, .slice e1.A4 d.texts.length e1.c4] 46) := ⟨_, rfl⟩
      obtain ⟨bd, hbd⟩ : ∃ b, b = wr.heap.size := ⟨_, rfl⟩
      have hb8 : Below wr.heap.size wr w8 := by rw [hw8]; exact bl.alloc (Nat.le_refl _) _
      have HD8 : Hid (w8.heap[bd]? = some (.cells #[.slice e1.A0 d.bytes.length e1.c0, .slice e1.A1 d.host.length e1.c1, .slice e1.A2 d.mail.length e1.c2, .slice e1.A3 d.nums.length e1.c3, .slice e1.A4 d.texts.length e1.c4] 46 (0, 0))) := by show _ = _; rw [hw8, hbd]; exact heap_alloc_new wr _
      have HDT : Hid (bd ≠ t ∧ ∀ z, v'.ownBlock = some z → bd ≠ z) := ⟨by have := ST.out.T.lt; omega, fun z hz => by have := (ST.out.T.own z hz).2; omega⟩
      have ST8 : Hid (RfSt p B Y t w v out bq s x SA ds (1 + 2 * j) w8 v' out') := ST.out.below hb8
      have HNM8 : Hid (NmIn w8 (fun b => b = t ∨ v'.ownBlock = some b) e1.A1 e1.c1 d.host) := HNM.out.below hb8
      have a1 : w8.cell? ⟨bd, 1, none⟩ = some (.slice e1.A1 d.host.length e1.c1) := (cell_of_row _ _ _ _ _ _ HD8.out).trans rfl
      have x0 : w8.cell? ⟨bq, 0, none⟩ = some (.slice s.A x.name.length s.c) := ST8.out.box.cells.1
      have HU3 := Lib.hid (nunder_any e1.A1 s.A d.host.length e1.c1 x.name.length s.c d.host x.name w8 HNM8.out.rd (ST8.out.rin.n.mono (fun b hb => Nat.lt_trans hb ST8.out.T.size) (fun b hb => Nat.lt_trans hb ST8.out.T.size)) (by have := HNM8.out.l; omega) (by have := HXL.out; omega) HNM8.out.c.1)
      obtain ⟨u3, hu3⟩ : ∃ b, b = underB d.host x.name := ⟨_, rfl⟩
      rw [← hu3] at HU3
      clear hu3 hd hdm hels hSx hbs hdi hSA hb8
      go_upto_region 9 with (fail)
      rw [← hw8]
      clear hw8 d0 d1 d2 d3 d4
      rw [← hbd]
      clear hbd
      cases u3 with
      | false =>
        go_wp2_with (go_at_call 83; refine HU3.out.mono ?_; rintro e w9 ⟨r9, rfl, rfl, hb9⟩; have HB9 := Lib.hid hb9; clear hb9)
        go_roundw
        case rel => exact ⟨j + 1, v', out', by go_num, by omega, by have h := (ST8.out.below HB9.out).more (j := 1 + 2 * (j + 1)) (by omega); rw [HSA.out] at h; exact h⟩
        case measure => simp [intOf]; omega
      | true =>
      go_upto_region 10 with (go_at_call 83; refine HU3.out.mono ?_; rintro e w9 ⟨r9, rfl, rfl, hb9⟩; have HB9 := Lib.hid hb9; clear hb9)
      clear a1 x0
      have hb9d : Below w8.heap.size w8 w9.drew := HB9.out.drew
      have ST9 : Hid (RfSt p B Y t w v out bq s x SA ds (1 + 2 * j) w9.drew v' out') := ST8.out.below hb9d
      have HNM9 : Hid (NmIn w9.drew (fun b => b = t ∨ v'.ownBlock = some b) e1.A1 e1.c1 d.host) := HNM8.out.below hb9d
      have HBD9 : Hid (bd < w9.drew.heap.size) := Nat.lt_of_lt_of_le (Array.getElem?_eq_some_iff.1 HD8.out).1 hb9d.size
      have HD9 : Hid (w9.drew.heap[bd]? = w8.heap[bd]?) := hb9d.block bd (Array.getElem?_eq_some_iff.1 HD8.out).1
      have hS9 : p.row w9.drew t v' ∧ w9.drew.cell? ⟨bd, 1, none⟩ = some (.slice e1.A1 d.host.length e1.c1) := ⟨ST9.out.T.T, (cell_of_row _ _ _ _ _ _ (HD9.out.trans HD8.out)).trans rfl⟩
      have HHX : Hid (Calls Try.prog 121 #[.pointer (some ⟨t, 0, none⟩), .slice p.sm.X p.m.ex.length p.sm.xc, .slice e1.A1 d.host.length e1.c1, .int .i64 1, .int .i64 1, .int .i64 64] w9.drew (TCall p B Y t w9.drew v' (fun r out2 => ∃ b : Bool, r = .bool b ∧ out2.length ≤ out'.length + 1 ∧ ∀ f ∈ out2, f ∈ out' ∨ HasF p p.m.ex d.host 1 f))) :=
        has_any p B t Y v' out' w9.drew ST9.out.T p.sm.X e1.A1 p.m.ex.length p.sm.xc d.host.length e1.c1 p.m.ex d.host 1 1 64 ST9.out.T.G.m.x HNM9.out.rd HNM9.out.c HNM9.out.l (by have := HEX.out; omega) HSX.out ⟨by omega, by omega⟩ ⟨by omega, by omega⟩ (by omega) (by omega) HZ.out (by have h1 := ST9.out.ol; have h2 := HOL.out; have h3 := HNN.out.2; omega)
      clear hb9d
      refine wp_region_any (by kernel_rfl) ?_
      change wpAny _ _ _ _ _ _ _ (World.drew w9)
      refine wpAny_of_P (S := fun W => p.row W t v' ∧ W.cell? ⟨bd, 1, none⟩ = some (.slice e1.A1 d.host.length e1.c1)) (dem := fun _ => true) _ _ _ _ ?_
      refine wpAnyP_take (i := 0) (v := .pointer (some ⟨t, 0, none⟩)) rfl (by kernel_rfl) (by kernel_rfl) (by kernel_rfl) (by kernel_rfl) (by kernel_rfl) (fun _ _ _ h => h) (Or.inl ⟨by kernel_rfl, by (intro W hW; go_simp)⟩) hS9 ?_
      refine wpAnyP_take (i := 1) (v := .pointer (some ⟨t, 0, none⟩)) rfl (by kernel_rfl) (by kernel_rfl) (by kernel_rfl) (by kernel_rfl) (by kernel_rfl) (fun _ _ _ h => h) (Or.inl ⟨by kernel_rfl, by (intro W hW; go_simp)⟩) hS9 ?_
      refine wpAnyP_take (i := 2) (v := .pointer (some ⟨t, 0, none⟩)) rfl (by kernel_rfl) (by kernel_rfl) (by kernel_rfl) (by kernel_rfl) (by kernel_rfl) (fun _ _ _ h => h) (Or.inl ⟨by kernel_rfl, by (intro W hW; go_simp)⟩) hS9 ?_
      refine wpAnyP_take (i := 3) (v := .pointer (some ⟨t, 3, none⟩)) rfl (by kernel_rfl) (by kernel_rfl) (by kernel_rfl) (by kernel_rfl) (by kernel_rfl) (fun _ _ _ h => h) (Or.inl ⟨by kernel_rfl, by (intro W hW; go_simp)⟩) hS9 ?_
      refine wpAnyP_take (i := 4) (v := .pointer (some ⟨t, 14, none⟩)) rfl (by kernel_rfl) (by kernel_rfl) (by kernel_rfl) (by kernel_rfl) (by kernel_rfl) (fun _ _ _ h => h) (Or.inl ⟨by kernel_rfl, by (intro W hW; go_simp)⟩) hS9 ?_
      refine wpAnyP_take (i := 5) (v := .slice p.sm.X p.m.ex.length p.sm.xc) rfl (by kernel_rfl) (by kernel_rfl) (by kernel_rfl) (by kernel_rfl) (by kernel_rfl) (fun _ _ _ h => h) (Or.inl ⟨by kernel_rfl, by (intro W hW; have c0 := (TRow.cellsM hW.1).2.2.2.2.1; go_simp)⟩) hS9 ?_
      refine wpAnyP_take (i := 6) (v := .pointer (some ⟨bd, 1, none⟩)) rfl (by kernel_rfl) (by kernel_rfl) (by kernel_rfl) (by kernel_rfl) (by kernel_rfl) (fun _ _ _ h => h) (Or.inl ⟨by kernel_rfl, by (intro W hW; go_simp)⟩) hS9 ?_
      refine wpAnyP_take (i := 7) (v := .slice e1.A1 d.host.length e1.c1) rfl (by kernel_rfl) (by kernel_rfl) (by kernel_rfl) (by kernel_rfl) (by kernel_rfl) (fun _ _ _ h => h) (Or.inl ⟨by kernel_rfl, by (intro W hW; have c0 := hW.2; go_simp)⟩) hS9 ?_
      refine wpAnyP_one (i := 8) rfl (by kernel_rfl) fun K hK => ?_
      go_simp
      refine HHX.out.mono ?_
      rintro e w10 ⟨r10, v10, out10, rfl, hT10, hX10, b10, rfl, hol10, hg10⟩
      refine hK _ _ (fun h => absurd h (by rw [show needS _ _ _ = false from by kernel_rfl]; decide)) ?_
      clear hK
      refine wpAnyP_done (by kernel_rfl) ?_ _
      have STa : Hid (RfSt p B Y t w v out bq s x SA ds (1 + 2 * j + 1) w10 v10 out10) := ST9.out.found hT10 hX10 hol10 (fun f hf => (hg10 f hf).imp id (fun h => .inr ⟨_, _, h⟩))
      have HNMa : Hid (NmIn w10 (fun b => b = t ∨ v10.ownBlock = some b) e1.A1 e1.c1 d.host) := HNM9.out.tx hX10
      have HDa : Hid (w10.heap[bd]? = w8.heap[bd]?) := (hX10.keep HBD9.out HDT.out.1 HDT.out.2).trans HD9.out
      have HDTa : Hid (∀ z, v10.ownBlock = some z → bd ≠ z) := fun z hz => (hX10.N z hz).elim (fun e => HDT.out.2 z e) (fun e => by have := HBD9.out; omega)
      clear hT10 hX10 hol10 hg10 hS9
      have hS10 : p.row w10.drew t v10 ∧ w10.drew.cell? ⟨bd, 1, none⟩ = some (.slice e1.A1 d.host.length e1.c1) := ⟨STa.out.T.T, (cell_of_row _ _ _ _ _ _ (HDa.out.trans HD8.out)).trans rfl⟩
      have hb10 : Below w10.heap.size w10 w10.drew := bl.drew
      have STb : Hid (RfSt p B Y t w v out bq s x SA ds (1 + 2 * j + 1) w10.drew v10 out10) := STa.out.below hb10
      have HNMb : Hid (NmIn w10.drew (fun b => b = t ∨ v10.ownBlock = some b) e1.A1 e1.c1 d.host) := HNMa.out.below hb10
      have HHY : Hid (Calls Try.prog 121 #[.pointer (some ⟨t, 0, none⟩), .slice p.sm.X p.m.ex.length p.sm.xc, .slice e1.A1 d.host.length e1.c1, .int .i64 28, .int .i64 1, .int .i64 64] w10.drew (TCall p B Y t w10.drew v10 (fun r out2 => ∃ b : Bool, r = .bool b ∧ out2.length ≤ out10.length + 1 ∧ ∀ f ∈ out2, f ∈ out10 ∨ HasF p p.m.ex d.host 28 f))) :=
        has_any p B t Y v10 out10 w10.drew STb.out.T p.sm.X e1.A1 p.m.ex.length p.sm.xc d.host.length e1.c1 p.m.ex d.host 28 1 64 STb.out.T.G.m.x HNMb.out.rd HNMb.out.c HNMb.out.l (by have := HEX.out; omega) HSX.out ⟨by omega, by omega⟩ ⟨by omega, by omega⟩ (by omega) (by omega) HZ.out (by have h1 := STb.out.ol; have h2 := HOL.out; have h3 := HNN.out.2; omega)
      clear hb10
      go_wp2
      refine wp_region_any (by kernel_rfl) ?_
      change wpAny _ _ _ _ _ _ _ (World.drew w10)
      refine wpAny_of_P (S := fun W => p.row W t v10 ∧ W.cell? ⟨bd, 1, none⟩ = some (.slice e1.A1 d.host.length e1.c1)) (dem := fun _ => true) _ _ _ _ ?_
      refine wpAnyP_take (i := 0) (v := .pointer (some ⟨t, 0, none⟩)) rfl (by kernel_rfl) (by kernel_rfl) (by kernel_rfl) (by kernel_rfl) (by kernel_rfl) (fun _ _ _ h => h) (Or.inl ⟨by kernel_rfl, by (intro W hW; go_simp)⟩) hS10 ?_
      refine wpAnyP_take (i := 1) (v := .pointer (some ⟨t, 0, none⟩)) rfl (by kernel_rfl) (by kernel_rfl) (by kernel_rfl) (by kernel_rfl) (by kernel_rfl) (fun _ _ _ h => h) (Or.inl ⟨by kernel_rfl, by (intro W hW; go_simp)⟩) hS10 ?_
      refine wpAnyP_take (i := 2) (v := .pointer (some ⟨t, 0, none⟩)) rfl (by kernel_rfl) (by kernel_rfl) (by kernel_rfl) (by kernel_rfl) (by kernel_rfl) (fun _ _ _ h => h) (Or.inl ⟨by kernel_rfl, by (intro W hW; go_simp)⟩) hS10 ?_
      refine wpAnyP_take (i := 3) (v := .pointer (some ⟨t, 3, none⟩)) rfl (by kernel_rfl) (by kernel_rfl) (by kernel_rfl) (by kernel_rfl) (by kernel_rfl) (fun _ _ _ h => h) (Or.inl ⟨by kernel_rfl, by (intro W hW; go_simp)⟩) hS10 ?_
      refine wpAnyP_take (i := 4) (v := .pointer (some ⟨t, 14, none⟩)) rfl (by kernel_rfl) (by kernel_rfl) (by kernel_rfl) (by kernel_rfl) (by kernel_rfl) (fun _ _ _ h => h) (Or.inl ⟨by kernel_rfl, by (intro W hW; go_simp)⟩) hS10 ?_
      refine wpAnyP_take (i := 5) (v := .slice p.sm.X p.m.ex.length p.sm.xc) rfl (by kernel_rfl) (by kernel_rfl) (by kernel_rfl) (by kernel_rfl) (by kernel_rfl) (fun _ _ _ h => h) (Or.inl ⟨by kernel_rfl, by (intro W hW; have c0 := (TRow.cellsM hW.1).2.2.2.2.1; go_simp)⟩) hS10 ?_
      refine wpAnyP_take (i := 6) (v := .pointer (some ⟨bd, 1, none⟩)) rfl (by kernel_rfl) (by kernel_rfl) (by kernel_rfl) (by kernel_rfl) (by kernel_rfl) (fun _ _ _ h => h) (Or.inl ⟨by kernel_rfl, by (intro W hW; go_simp)⟩) hS10 ?_
      refine wpAnyP_take (i := 7) (v := .slice e1.A1 d.host.length e1.c1) rfl (by kernel_rfl) (by kernel_rfl) (by kernel_rfl) (by kernel_rfl) (by kernel_rfl) (fun _ _ _ h => h) (Or.inl ⟨by kernel_rfl, by (intro W hW; have c0 := hW.2; go_simp)⟩) hS10 ?_
      refine wpAnyP_one (i := 8) rfl (by kernel_rfl) fun K hK => ?_
      go_simp
      refine HHY.out.mono ?_
      rintro e w12 ⟨r12, v12, out12, rfl, hT12, hX12, b12, rfl, hol12, hg12⟩
      refine hK _ _ (fun h => absurd h (by rw [show needS _ _ _ = false from by kernel_rfl]; decide)) ?_
      clear hK
      refine wpAnyP_done (by kernel_rfl) ?_ _
      have STc : Hid (RfSt p B Y t w v out bq s x SA ds (1 + 2 * j + 1 + 1) w12 v12 out12) := STb.out.found hT12 hX12 hol12 (fun f hf => (hg12 f hf).imp id (fun h => .inr ⟨_, _, h⟩))
      clear hT12 hX12 hol12 hg12 hS10
      go_wp2
      go_roundw
      case rel => exact ⟨j + 1, v12, out12, by go_num, by omega, by have h := STc.out.more (j := 1 + 2 * (j + 1)) (by omega); rw [HSA.out] at h; exact h⟩
      case measure => simp [intOf]; omega
end Go.Proofs.Ytimkdpkhdbiniaa
