/- Parts of a proof, joined: Tel1, Tel2. -/
import Derived.Test.YtimkdpkhdbiniaaZDF04r
import Derived.Test.YtimkdpkhdbiniaaZDF03
import Derived.Test.YtimkdpkhdbiniaaZDX7
/- The teller and the facts that it has found, loosely; teller.rank, teller.add (printed by gen/tel1.py). -/
namespace Go.Proofs.Ytimkdpkhdbiniaa
open Go.RowKit
set_option maxRecDepth 100000
set_option linter.unusedVariables false

/-- Facts whose rows lie from B on and may be written into. -/
def encFaL (B : Nat) : Enc Fa where
  size := 13
  R := fun S w r f => ∃ s, r = (faCells s f).toList ∧ FaIn (fun b => S b ∧ B ≤ b ∧ Loose w b) w s f
  pos := by decide
  len := by rintro _ _ r x ⟨s, rfl, _⟩; rfl
  mono := by rintro S S' w r x hS ⟨s, rfl, h⟩; exact ⟨s, rfl, h.mono (fun b hb => ⟨hS b hb.1, hb.2⟩)⟩
  keep := by
    rintro S w w' r x hS ⟨s, rfl, h⟩
    exact ⟨s, rfl, (h.keep (fun b hb => hS b hb.1)).mono (fun b hb => ⟨hb.1, hb.2.1, hb.2.2.keep (hS b hb.1)⟩)⟩
  one := by
    rintro S w r x ⟨s, rfl, _⟩ u hu
    simp [faCells] at hu
    rcases hu with rfl | rfl | rfl | rfl | rfl | rfl | rfl | rfl | rfl | rfl | rfl | rfl | rfl <;> rfl
theorem elFa (B : Nat) : ElT Try.prog 65 48 (encFaL B) 232 := ElT.mk Try.underlying65 (.agg (faCells FS.nil Fa.zero)) 13 (by kernel_rfl) rfl rfl
/-- What a teller is about. -/
structure TP where
  sq : QS
  q : Qu
  sm : MS
  m : Ms
  Z : Option Addr
  nz : Nat
  cz : Nat
  zs : List (List UInt8)
  now : Int
abbrev TP.row (p : TP) (w : World) (t : Nat) (v : Value) : Prop := TRow w t p.sq p.q p.sm p.m p.Z p.nz p.cz p.now v
/-- What the teller reads, in blocks below B. -/
structure TArg (p : TP) (B : Nat) (u : World) : Prop where
  m : MIn (fun b => b < B) u p.sm p.m
  q : QIn (fun b => b < B) u p.sq p.q
  z : Els encS (fun b => b < B) (fun b => b < B) u p.Z p.nz p.zs
  cz : p.nz ≤ p.cz ∧ p.cz ≤ maxLen
  i : i64S p.now
theorem TArg.keep {p : TP} {B : Nat} {u u' : World} (h : TArg p B u) (k : ∀ b, b < B → u'.heap[b]? = u.heap[b]?) : TArg p B u' := ⟨h.m.keep k, h.q.keep k, h.z.keep k k, h.cz, h.i⟩
/-- A teller that has found facts; Y: blocks that others may write into (its own is one). -/
structure TSt (p : TP) (B : Nat) (Y : Nat → Prop) (u : World) (t : Nat) (v : Value) (out : List Fa) : Prop where
  T : p.row u t v
  O : ∃ S, OwnE (encFaL B) 48 S u B v out ∧ ∀ b, S b → ¬ Y b
  G : TArg p B u
  tB : B ≤ t
  tv : ∀ k, v.ownBlock = some k → ¬ Y k
  Yt : Y t
  Yl : ∀ b, Y b → b < u.heap.size
/-- What calls of the teller change: its own block, and the row of facts. -/
structure TX (t : Nat) (u : World) (v : Value) (u' : World) (v' : Value) : Prop where
  C : Chg (fun z => z = t ∨ v.ownBlock = some z) u u'
  N : ∀ k, v'.ownBlock = some k → v.ownBlock = some k ∨ u.heap.size ≤ k
section
variable {p : TP} {B t : Nat} {u u1 u' : World} {v v1 v' : Value} {out : List Fa} {Y Y' : Nat → Prop}
theorem TX.refl : TX t u v u v := ⟨Chg.refl _ _, fun _ h => .inl h⟩
theorem TX.trans (h : TX t u v u1 v1) (k : TX t u1 v1 u' v') : TX t u v u' v' :=
  ⟨h.C.trans k.C (fun z hz => hz.elim (fun e => .inl (.inl e)) (fun e => (h.N z e).elim (fun e => .inl (.inr e)) .inr)), fun z hz => (k.N z hz).elim (fun e => h.N z e) (fun e => .inr (Nat.le_trans h.C.size e))⟩
theorem TX.of_below (h : Below u.heap.size u u') : TX t u v u' v := ⟨Chg.of_below h, fun _ h => .inl h⟩
theorem TX.nx (h : TX t u v u1 v1) (k : Below u1.heap.size u1 u') : TX t u v u' v1 := h.trans (TX.of_below k)
theorem TSt.lt (h : TSt p B Y u t v out) : t < u.heap.size := (h.T).lt
theorem TSt.own (h : TSt p B Y u t v out) : ∀ k, v.ownBlock = some k → B ≤ k ∧ k < u.heap.size := by
  obtain ⟨S, ho, _⟩ := h.O
  exact ho.lt
theorem TSt.below (h : TSt p B Y u t v out) (hb : Below u.heap.size u u') : TSt p B Y u' t v out := by
  obtain ⟨S, ho, hS⟩ := h.O
  exact ⟨h.T.below hb, ⟨S, ho.below hb, hS⟩, h.G.keep (fun b hb2 => hb.block b (Nat.lt_of_lt_of_le hb2 (Nat.le_of_lt (Nat.lt_of_le_of_lt h.tB h.lt)))), h.tB, h.tv, h.Yt, fun b hb2 => Nat.lt_of_lt_of_le (h.Yl b hb2) hb.size⟩
theorem TSt.size (h : TSt p B Y u t v out) : B < u.heap.size := Nat.lt_of_le_of_lt h.tB h.lt
/-- More, or fewer, blocks that others may write into. -/
theorem TSt.more (h : TSt p B Y u t v out) (hb : Below u.heap.size u u') (hY : ∀ b, Y' b → Y b ∨ u.heap.size ≤ b) (hl : ∀ b, Y' b → b < u'.heap.size) (ht : Y' t) : TSt p B Y' u' t v out := by
  have h2 := h.below hb
  obtain ⟨S, ho, hS⟩ := h.O
  have hSl := ho.S_lt
  refine ⟨h2.T, ⟨S, ho.below hb, fun b hSb hYb => ?_⟩, h2.G, h.tB, fun k hk hYk => ?_, ht, hl⟩
  · rcases hY b hYb with h1 | h1
    · exact hS b hSb h1
    · have := (hSl b hSb).1; omega
  · rcases hY k hYk with h1 | h1
    · exact h.tv k hk h1
    · have := (h.own k hk).2; omega
/-- Behind a store into one of those. -/
theorem TSt.chg {F : Nat → Prop} (h : TSt p B Y u t v out) (hc : Chg F u u') (hF : ∀ b, F b → Y b ∧ b ≠ t ∧ B ≤ b) : TSt p B Y u' t v out := by
  obtain ⟨S, ho, hS⟩ := h.O
  exact ⟨hc.heap h.T (fun e => (hF t e).2.1 rfl), ⟨S, ho.chg hc (fun k hk e => h.tv k hk (hF k e).1) (fun b hb e => hS b hb (hF b e).1), hS⟩, h.G.keep (fun b hb => hc.block b (Nat.lt_trans hb h.size) (fun e => by have := (hF b e).2.2; omega)), h.tB, h.tv, h.Yt, fun b hb => Nat.lt_of_lt_of_le (h.Yl b hb) hc.size⟩
/-- What lies below B is as it was. -/
theorem TX.lowB (h : TX t u v u' v') (hs : TSt p B Y u t v out) : ∀ b, b < B → u'.heap[b]? = u.heap[b]? := fun b hb => h.C.block b (Nat.lt_trans hb hs.size) (fun e => by
  rcases e with e | e
  · have := hs.tB; omega
  · have := (hs.own b e).1; omega)
end
theorem TRow.cells20 {w : World} {t : Nat} {p : TP} {v : Value} (h : p.row w t v) : w.cell? ⟨t, 17, none⟩ = some (.slice p.Z p.nz p.cz) ∧ w.cell? ⟨t, 18, none⟩ = some (.int .i64 p.now) ∧ w.cell? ⟨t, 19, none⟩ = some v ∧ w.cell? ⟨t, 6, none⟩ = some (.bool p.m.aa) := ⟨(h.cell 17).trans rfl, (h.cell 18).trans rfl, (h.cell 19).trans rfl, (h.cell 6).trans rfl⟩

theorem rank_any (p : TP) (t : Nat) (v : Value) (w : World) (h : p.row w t v) (a b : Int) :
    Calls Try.prog 122 #[.pointer (some ⟨t, 0, none⟩), .int .i64 a, .int .i64 b] w (Ret (.int .i64 (if p.m.aa = true then a else b)) w) := by
  have c6 := (TRow.cells20 h).2.2.2
  clear h
  cases hx : p.m.aa with
  | true =>
    rw [hx] at c6
    go_enter Try.func122, Try.ntmps122
    go_wp2
    go_ret
    exact ⟨rfl, rfl⟩
  | false =>
    rw [hx] at c6
    go_enter Try.func122, Try.ntmps122
    go_wp2
    go_ret
    exact ⟨rfl, rfl⟩

end Go.Proofs.Ytimkdpkhdbiniaa

/- teller.add (printed by gen/tel2.py). -/
namespace Go.Proofs.Ytimkdpkhdbiniaa
open Go.RowKit
set_option maxRecDepth 100000
set_option linter.unusedVariables false

theorem FaIn.got {S : Nat → Prop} {w : World} {s : FS} {f : Fa} (h : FaIn S w s f) {n : Int} (hn : i64S n) : FaIn S w s { f with got := n } := ⟨h.n, h.l, h.z, h.d, h.cn, h.cl, h.cz, h.it, h.ik, h.ir, hn, h.il⟩
theorem FaRow.fcell {w : World} {q : Nat} {s : FS} {f : Fa} (h : FaRow w q s f) : w.cell? ⟨q, 0, none⟩ = some (.slice s.A f.name.length s.ac) := (h.cell 0).trans rfl
/-- A call of the teller that may find facts. -/
def TCall (p : TP) (B : Nat) (Y : Nat → Prop) (t : Nat) (w : World) (v : Value) (R : Value → List Fa → Prop) (e : Ending) (w' : World) : Prop := ∃ r v' out', e = .returned r ∧ TSt p B Y w' t v' out' ∧ TX t w v w' v' ∧ R r out'

set_option maxHeartbeats 16000000 in
theorem add_any (p : TP) (B t : Nat) (Y : Nat → Prop) (v : Value) (out : List Fa) (w : World) (h : TSt p B Y w t v out) (s : FS) (f : Fa) {S : Nat → Prop} (hf : FaIn S w s f) (hS : ∀ b, S b → b < w.heap.size) (hL : LtF f) (hG : LtG f) (hz : p.nz ≤ 1000000000) (hol : out.length ≤ 100000) :
    Calls Try.prog 128 #[.pointer (some ⟨t, 0, none⟩), faV s f] w (TCall p B Y t w v (fun r out' => r = .tuple #[] ∧ (out' = out ∨ (out' = out ++ [{ f with got := p.now }] ∧ fineF { f with got := p.now } = true ∧ underB f.name p.zs = true)))) := by
  obtain ⟨q, hq⟩ : ∃ q, q = w.heap.size := ⟨_, rfl⟩
  obtain ⟨w1, hw1⟩ : ∃ w1, w1 = w.alloc (.cells (faCells s f) 48) := ⟨_, rfl⟩
  have hb1 : Below w.heap.size w w1 := by rw [hw1]; exact bl.alloc (Nat.le_refl _) _
  have hR1 : FaRow w1 q s f := by rw [hw1, hq]; exact FaRow.made w s f
  have H1 := h.below hb1
  have c18 := (TRow.cells20 H1.T).2.1
  have x4 : w1.cell? ⟨q, 4, none⟩ = some (.int .i64 f.got) := (hR1.cell 4).trans rfl
  have kf := hR1.free
  have HVQ : Hid (∀ k, v.ownBlock = some k → k < q) := fun k hk => by rw [hq]; exact (h.own k hk).2
  have HTQ : Hid (t < q) := by show _ < _; rw [hq]; exact h.lt
  obtain ⟨g, hg⟩ : ∃ g, g = { f with got := p.now } := ⟨_, rfl⟩
  have HGE := Lib.hid hg
  obtain ⟨w2, hw2⟩ : ∃ w2, w2 = w1.setCell ⟨q, 4, none⟩ (.int .i64 p.now) := ⟨_, rfl⟩
  have hc2 : Chg (fun k => k = q) w1 w2 := by rw [hw2]; exact chg_g1 _ _ _ _
  have HB2 : Hid (Below w.heap.size w w2) := hb1.trans (hc2.below (fun x hx => by omega) hb1.size)
  have HR2 : Hid (FaRow w2 q s g) := by show FaRow _ _ _ _; rw [hw2, hg]; exact FaRow.put hR1 4 _ _ _ rfl
  have HT2 : Hid (TSt p B Y w2 t v out) := h.below HB2.out
  have HI2 : Hid (FaIn S w2 s g) := by show FaIn _ _ _ _; rw [hg]; exact (hf.below HB2.out hS).got h.G.i
  have HSS : Hid (∀ b, S b → b < q) := fun b hb => by rw [hq]; exact hS b hb
  have HLF : Hid (LtF g) := by show LtF _; rw [hg]; exact ⟨hL.n, hL.z, hL.l, hL.s, hL.d⟩
  have HLG : Hid (LtG g) := by show LtG _; rw [hg]; exact ⟨hG.n, hG.z, hG.l, hG.s, hG.d⟩
  have HQ := Lib.hid hq
  have HZ := Lib.hid hz
  have HOL := Lib.hid hol
  have HQ2 : Hid (q < w2.heap.size) := HR2.out.lt
  unfold faV
  unfold faCells at hw1 ⊢
  clear h hf hS hL hG hz hol H1 hb1 hc2 hR1 hg
  go_enter Try.func128, Try.ntmps128
  go_upto_region 1 with (fail)
  rw [← hw1]
  clear hw1
  rw [← hq]
  clear hq
  go_upto_region 2 with (fail)
  rw [← hw2]
  clear hw2 c18 x4 kf
  have hS2 : FaRow w2.drew q s g ∧ p.row w2.drew t v := ⟨HR2.out, HT2.out.T⟩
  have hSN := psoundF_any s g w2.drew (HI2.out.below bl.drew (fun b hb => by have h1 := HSS.out b hb; have h2 := HQ2.out; omega)) (fun b hb => by have h1 := HSS.out b hb; have h2 := HQ2.out; show b < w2.heap.size; omega) HLF.out
  unfold faV at hSN
  have HSN := Lib.hid hSN
  clear hSN
  cases hfine : fineF g with
  | false =>
    rw [hfine] at HSN
    refine wp_region_any (by kernel_rfl) ?_
    change wpAny _ _ _ _ _ _ _ (World.drew w2)
    refine wpAny_of_P (S := fun W => FaRow W q s g ∧ p.row W t v) (dem := fun _ => true) _ _ _ _ ?_
    refine wpAnyP_take (i := 0) (v := .agg (faCells s g)) rfl (by kernel_rfl) (by kernel_rfl) (by kernel_rfl) (by kernel_rfl) (by kernel_rfl) (fun _ _ _ h => h) (yields_row rowFa (by rfl) (.tmp 3) rfl q rfl (faCells s g) (fun W hW => hW.1) rfl) hS2 ?_
    refine wpAnyP_one (i := 1) rfl (by kernel_rfl) fun K hK => ?_
    go_simp
    refine HSN.out.mono ?_
    rintro e w3 ⟨v3, rfl, rfl, hb3'⟩
    have hb3 : Below w2.heap.size w2 w3 := bl.drew.trans hb3'
    have hS3 : FaRow w3 q s g ∧ p.row w3 t v := ⟨HR2.out.below hb3, (HT2.out.below hb3).T⟩
    refine hK _ _ (fun _ => hS3) ?_
    clear hK
    refine wpAnyP_take (i := 2) (v := .bool false) rfl (by kernel_rfl) (by kernel_rfl) (by kernel_rfl) (by kernel_rfl) (by kernel_rfl) (fun _ _ _ h => h) (Or.inl ⟨by rfl, by (intro W hW; go_simp)⟩) hS3 ?_
    refine wpAnyP_take (i := 3) (v := undef) rfl (by kernel_rfl) (by kernel_rfl) (by kernel_rfl) (by kernel_rfl) (by kernel_rfl) (fun _ _ _ h => h) (Or.inr ⟨by rfl, rfl⟩) hS3 ?_
    refine wpAnyP_take (i := 4) (v := undef) rfl (by kernel_rfl) (by kernel_rfl) (by kernel_rfl) (by kernel_rfl) (by kernel_rfl) (fun _ _ _ h => h) (Or.inr ⟨by rfl, rfl⟩) hS3 ?_
    refine wpAnyP_take (i := 5) (v := undef) rfl (by kernel_rfl) (by kernel_rfl) (by kernel_rfl) (by kernel_rfl) (by kernel_rfl) (fun _ _ _ h => h) (Or.inr ⟨by rfl, rfl⟩) hS3 ?_
    refine wpAnyP_take (i := 6) (v := undef) rfl (by kernel_rfl) (by kernel_rfl) (by kernel_rfl) (by kernel_rfl) (by kernel_rfl) (fun _ _ _ h => h) (Or.inr ⟨by rfl, rfl⟩) hS3 ?_
    refine wpAnyP_take (i := 7) (v := undef) rfl (by kernel_rfl) (by kernel_rfl) (by kernel_rfl) (by kernel_rfl) (by kernel_rfl) (fun _ _ _ h => h) (Or.inr ⟨by rfl, rfl⟩) hS3 ?_
    refine wpAnyP_take (i := 8) (v := undef) rfl (by kernel_rfl) (by kernel_rfl) (by kernel_rfl) (by kernel_rfl) (by kernel_rfl) (fun _ _ _ h => h) (Or.inr ⟨by rfl, rfl⟩) hS3 ?_
    refine wpAnyP_take (i := 9) (v := undef) rfl (by kernel_rfl) (by kernel_rfl) (by kernel_rfl) (by kernel_rfl) (by kernel_rfl) (fun _ _ _ h => h) (Or.inr ⟨by rfl, rfl⟩) hS3 ?_
    refine wpAnyP_one (i := 10) rfl (by kernel_rfl) fun K hK => ?_
    go_simp
    refine hK _ _ (fun _ => hS3) ?_
    clear hK
    refine wpAnyP_done (by kernel_rfl) ?_ _
    go_wp2
    go_end0
    exact ⟨_, v, out, rfl, HT2.out.below hb3, TX.of_below (by have h := HB2.out.trans (hb3.mono HB2.out.size); exact h), rfl, .inl rfl⟩
  | true =>
    rw [hfine] at HSN
    have HFINE := Lib.hid hfine
    clear hfine
    refine wp_region_any (by kernel_rfl) ?_
    change wpAny _ _ _ _ _ _ _ (World.drew w2)
    refine wpAny_of_P (S := fun W => FaRow W q s g ∧ p.row W t v) (dem := fun _ => true) _ _ _ _ ?_
    refine wpAnyP_take (i := 0) (v := .agg (faCells s g)) rfl (by kernel_rfl) (by kernel_rfl) (by kernel_rfl) (by kernel_rfl) (by kernel_rfl) (fun _ _ _ h => h) (yields_row rowFa (by rfl) (.tmp 3) rfl q rfl (faCells s g) (fun W hW => hW.1) rfl) hS2 ?_
    refine wpAnyP_one (i := 1) rfl (by kernel_rfl) fun K hK => ?_
    go_simp
    refine HSN.out.mono ?_
    rintro e w3 ⟨v3, rfl, rfl, hb3'⟩
    have hb3 : Below w2.heap.size w2 w3 := bl.drew.trans hb3'
    have hS3 : FaRow w3 q s g ∧ p.row w3 t v := ⟨HR2.out.below hb3, (HT2.out.below hb3).T⟩
    refine hK _ _ (fun _ => hS3) ?_
    clear hK
    refine wpAnyP_take (i := 2) (v := .bool true) rfl (by kernel_rfl) (by kernel_rfl) (by kernel_rfl) (by kernel_rfl) (by kernel_rfl) (fun _ _ _ h => h) (Or.inl ⟨by rfl, by (intro W hW; go_simp)⟩) hS3 ?_
    refine wpAnyP_take (i := 3) (v := .pointer (some ⟨q, 0, none⟩)) rfl (by kernel_rfl) (by kernel_rfl) (by kernel_rfl) (by kernel_rfl) (by kernel_rfl) (fun _ _ _ h => h) (Or.inl ⟨by rfl, by (intro W hW; go_simp)⟩) hS3 ?_
    refine wpAnyP_take (i := 4) (v := .slice s.A g.name.length s.ac) rfl (by kernel_rfl) (by kernel_rfl) (by kernel_rfl) (by kernel_rfl) (by kernel_rfl) (fun _ _ _ h => h) (Or.inl ⟨by rfl, by (intro W hW; have c0 := FaRow.fcell hW.1; go_simp)⟩) hS3 ?_
    refine wpAnyP_take (i := 5) (v := .pointer (some ⟨t, 0, none⟩)) rfl (by kernel_rfl) (by kernel_rfl) (by kernel_rfl) (by kernel_rfl) (by kernel_rfl) (fun _ _ _ h => h) (Or.inl ⟨by rfl, by (intro W hW; go_simp)⟩) hS3 ?_
    refine wpAnyP_take (i := 6) (v := .pointer (some ⟨t, 0, none⟩)) rfl (by kernel_rfl) (by kernel_rfl) (by kernel_rfl) (by kernel_rfl) (by kernel_rfl) (fun _ _ _ h => h) (Or.inl ⟨by rfl, by (intro W hW; go_simp)⟩) hS3 ?_
    refine wpAnyP_take (i := 7) (v := .pointer (some ⟨t, 17, none⟩)) rfl (by kernel_rfl) (by kernel_rfl) (by kernel_rfl) (by kernel_rfl) (by kernel_rfl) (fun _ _ _ h => h) (Or.inl ⟨by rfl, by (intro W hW; go_simp)⟩) hS3 ?_
    refine wpAnyP_take (i := 8) (v := .slice p.Z p.nz p.cz) rfl (by kernel_rfl) (by kernel_rfl) (by kernel_rfl) (by kernel_rfl) (by kernel_rfl) (fun _ _ _ h => h) (Or.inl ⟨by rfl, by (intro W hW; have c0 := (TRow.cells20 hW.2).1; go_simp)⟩) hS3 ?_
    have HB3 := Lib.hid hb3
    have hT3 := HT2.out.below hb3
    have hi3 := HI2.out.below hb3 (fun b hb => by have h1 := HSS.out b hb; have h2 := HQ2.out; omega)
    have HUN := Lib.hid (nunder_any s.A p.Z g.name.length s.ac p.nz p.cz g.name p.zs w3 (hi3.n.mono (fun b hb => by have h1 := HSS.out b hb; have h2 := HQ2.out; have h3 := hb3.size; show b < w3.heap.size; omega) (fun b hb => by have h1 := HSS.out b hb; have h2 := HQ2.out; have h3 := hb3.size; show b < w3.heap.size; omega)) (hT3.G.z.mono (fun b hb => by have h1 := hT3.size; show b < w3.heap.size; omega) (fun b hb => by have h1 := hT3.size; show b < w3.heap.size; omega)) (by have h1 := HLF.out.n; omega) HZ.out hi3.cn.1)
    clear hT3 hi3
    obtain ⟨un, hun⟩ : ∃ b, b = underB g.name p.zs := ⟨_, rfl⟩
    rw [← hun] at HUN
    have HUNE := Lib.hid hun
    clear hun
    cases un with
    | false =>
      refine wpAnyP_one (i := 9) rfl (by kernel_rfl) fun K hK => ?_
      go_simp
      refine HUN.out.mono ?_
      rintro e w4 ⟨v4, rfl, rfl, hb4⟩
      have HB4 := Lib.hid (nx HB3.out hb4)
      have hS4 : FaRow w4 q s g ∧ p.row w4 t v := ⟨HR2.out.below HB4.out, (HT2.out.below HB4.out).T⟩
      refine hK _ _ (fun _ => hS4) ?_
      clear hK
      refine wpAnyP_one (i := 10) rfl (by kernel_rfl) fun K hK => ?_
      go_simp
      refine hK _ _ (fun _ => hS4) ?_
      clear hK
      refine wpAnyP_done (by kernel_rfl) ?_ _
      go_wp2
      go_end0
      exact ⟨_, v, out, rfl, HT2.out.below HB4.out, TX.of_below (HB2.out.trans (HB4.out.mono HB2.out.size)), rfl, .inl rfl⟩
    | true =>
    refine wpAnyP_one (i := 9) rfl (by kernel_rfl) fun K hK => ?_
    go_simp
    refine HUN.out.mono ?_
    rintro e w4 ⟨v4, rfl, rfl, hb4⟩
    have HB4 := Lib.hid (nx HB3.out hb4)
    have hS4 : FaRow w4 q s g ∧ p.row w4 t v := ⟨HR2.out.below HB4.out, (HT2.out.below HB4.out).T⟩
    refine hK _ _ (fun _ => hS4) ?_
    clear hK
    refine wpAnyP_one (i := 10) rfl (by kernel_rfl) fun K hK => ?_
    go_simp
    refine hK _ _ (fun _ => hS4) ?_
    clear hK
    refine wpAnyP_done (by kernel_rfl) ?_ _
    have HUNT : Hid (underB g.name p.zs = true) := HUNE.out.symm
    clear HUNE HUN
    go_upto_region 3 with (fail)
    have hS5 : FaRow w4.drew q s g ∧ p.row w4.drew t v := hS4
    have hOW := pownF_any s g w4.drew (HI2.out.below (HB4.out.trans (Below.mono bl.drew HB4.out.size)) (fun b hb => by have h1 := HSS.out b hb; have h2 := HQ2.out; omega)) (fun b hb => by have h1 := HSS.out b hb; have h2 := HQ2.out; have h3 := HB4.out.size; show b < w4.heap.size; omega) HLG.out
    unfold faV at hOW
    have HOW := Lib.hid hOW
    clear hOW
    refine wp_region_any (by kernel_rfl) ?_
    change wpAny _ _ _ _ _ _ _ (World.drew w4)
    refine wpAny_of_P (S := fun W => FaRow W q s g ∧ p.row W t v) (dem := fun j => j == 4 || j == 5 || j == 6 || j == 7 || j == 8) _ _ _ _ ?_
    refine wpAnyP_pure (i := 0) (v := .pointer (some ⟨t, 0, none⟩)) rfl (by kernel_rfl) (by kernel_rfl) (by kernel_rfl) rfl (fun _ _ _ h => h) (Or.inl ⟨by rfl, by (intro W _; go_simp)⟩) (fun _ => hS5) ?_
    refine wpAnyP_pure (i := 1) (v := .pointer (some ⟨t, 0, none⟩)) rfl (by kernel_rfl) (by kernel_rfl) (by kernel_rfl) rfl (fun _ _ _ h => h) (Or.inl ⟨by rfl, by (intro W _; go_simp)⟩) (fun _ => hS5) ?_
    refine wpAnyP_pure (i := 2) (v := .pointer (some ⟨t, 0, none⟩)) rfl (by kernel_rfl) (by kernel_rfl) (by kernel_rfl) rfl (fun _ _ _ h => h) (Or.inl ⟨by rfl, by (intro W _; go_simp)⟩) (fun _ => hS5) ?_
    refine wpAnyP_pure (i := 3) (v := .pointer (some ⟨t, 19, none⟩)) rfl (by kernel_rfl) (by kernel_rfl) (by kernel_rfl) rfl (fun _ _ _ h => h) (Or.inl ⟨by rfl, by (intro W _; go_simp)⟩) (fun _ => hS5) ?_
    refine wpAnyP_take (i := 4) (v := v) rfl (by kernel_rfl) (by kernel_rfl) (by kernel_rfl) (by kernel_rfl) (by kernel_rfl) (fun _ _ _ h => h) (Or.inl ⟨by rfl, by (intro W hW; have c0 := (TRow.cells20 hW.2).2.2.1; go_simp)⟩) hS5 ?_
    refine wpAnyP_take (i := 5) (v := .agg (faCells s g)) rfl (by kernel_rfl) (by kernel_rfl) (by kernel_rfl) (by kernel_rfl) (by kernel_rfl) (fun _ _ _ h => h) (yields_row rowFa (by rfl) (.tmp 3) rfl q rfl (faCells s g) (fun W hW => hW.1) rfl) hS5 ?_
    refine wpAnyP_one (i := 6) rfl (by kernel_rfl) fun K hK => ?_
    go_simp
    refine HOW.out.mono ?_
    rintro e w6 ⟨v6, rfl, ⟨s6, rfl, hi6⟩, hb6'⟩
    unfold faCells
    have hb6 : Below w4.heap.size w4 w6 := bl.drew.trans hb6'
    have HB6 := Lib.hid (nx HB4.out hb6)
    have hS6 : FaRow w6 q s g ∧ p.row w6 t v := ⟨HR2.out.below HB6.out, (HT2.out.below HB6.out).T⟩
    refine hK _ _ (fun _ => hS6) ?_
    clear hK
    refine wpAnyP_one (i := 7) rfl (by kernel_rfl) fun K hK => ?_
    go_simp
    have hbA : ∀ o, Below w6.heap.size w6 (w6.alloc o) := fun o => bl.alloc (Nat.le_refl _) _
    refine hK _ _ (fun _ => ⟨(HR2.out.below HB6.out).below (hbA _), ((HT2.out.below HB6.out).below (hbA _)).T⟩) ?_
    clear hK hS3 hS4 hS5
    have hT6 := HT2.out.below HB6.out
    obtain ⟨SO, hso, hSOt⟩ := hT6.O
    have HLT := Lib.hid hso.lt
    have HSL := Lib.hid hso.S_lt
    have hz4 : w4.drew.heap.size = w4.heap.size := rfl
    rw [hz4] at hi6
    have HQ4 : Hid (q < w4.heap.size) := Nat.lt_of_lt_of_le HQ2.out HB4.out.size
    have HT4B : Hid (B ≤ w4.heap.size) := by have h1 := (HT2.out.below HB4.out).size; show _ ≤ _; omega
    have hrow : (encFaL B).R (fun b => lsS w4.heap.size w6 b) w6 [.slice s6.A g.name.length s6.ac, .int .i64 g.type, .int .i64 g.kind, .int .i64 g.rank, .int .i64 g.got, .int .i64 g.ttl, .slice s6.S g.set.length s6.sc, .slice s6.Z g.zone.length s6.zc, .slice s6.d.A0 g.soa.bytes.length s6.d.c0, .slice s6.d.A1 g.soa.host.length s6.d.c1, .slice s6.d.A2 g.soa.mail.length s6.d.c2, .slice s6.d.A3 g.soa.nums.length s6.d.c3, .slice s6.d.A4 g.soa.texts.length s6.d.c4] g := ⟨s6, rfl, hi6.mono (fun b hb => ⟨hb, Nat.le_trans HT4B.out hb.1, hb.2.2⟩)⟩
    have hS3 : ∀ b, (fun b => lsS w4.heap.size w6 b) b → b < w6.heap.size ∧ some b ≠ v.ownBlock := fun b hb => ⟨hb.2.1, fun e => by
      have h0 := ((HT2.out.below HB4.out).own b e.symm).2
      have h2 := hb.1
      omega⟩
    refine wpAnyP_one (i := 8) rfl (by kernel_rfl) fun K hK => ?_
    refine step_pushE (elFa B) (by rfl) (.tmp 24) (.tmp 27) (by rfl) B v out (by rfl) hso [.slice s6.A g.name.length s6.ac, .int .i64 g.type, .int .i64 g.kind, .int .i64 g.rank, .int .i64 g.got, .int .i64 g.ttl, .slice s6.S g.set.length s6.sc, .slice s6.Z g.zone.length s6.zc, .slice s6.d.A0 g.soa.bytes.length s6.d.c0, .slice s6.d.A1 g.soa.host.length s6.d.c1, .slice s6.d.A2 g.soa.mail.length s6.d.c2, .slice s6.d.A3 g.soa.nums.length s6.d.c3, .slice s6.d.A4 g.soa.texts.length s6.d.c4] g (S' := fun b => lsS w4.heap.size w6 b) hrow hS3 (by rfl) (by have := HOL.out; omega) (by have := HOL.out; unfold maxLen; omega) (Nat.le_of_lt hT6.size) ?_ (by rfl)
    intro v8 w8 hown8 hg8 hv8
    obtain ⟨n8, hn8⟩ : ∃ n, n = (out ++ [g]).length := ⟨_, rfl⟩
    obtain ⟨A8, c8, hv8e, _⟩ := OwnE.form hown8
    rw [← hn8] at hv8e
    subst hv8e
    clear hn8
    have hch8 : Chg (fun z => v.ownBlock = some z) w6 w8 := (Chg.refl _ _).grown hg8 (fun k hk => .inl hk)
    have hqv : ¬ v.ownBlock = some q := fun e => Nat.lt_irrefl _ (HVQ.out q e)
    have htv : ¬ v.ownBlock = some t := fun e => HT2.out.tv t e HT2.out.Yt
    have hS8 : FaRow w8 q s g ∧ p.row w8 t v := ⟨hch8.heap (HR2.out.below HB6.out) hqv, hch8.heap hT6.T htv⟩
    refine hK _ _ (fun _ => hS8) ?_
    clear hK
    refine wpAnyP_one (i := 9) rfl (by kernel_rfl) fun K hK => ?_
    go_simp
    refine hK _ _ (fun _ => hS8) ?_
    clear hK
    refine wpAnyP_one (i := 10) rfl (by kernel_rfl) fun K hK => ?_
    go_simp
    refine hK _ _ (fun _ => hS8) ?_
    clear hK
    have kt := hS8.2.free
    have c19 := (TRow.cells20 hS8.2).2.2.1
    refine wpAnyP_one (i := 11) rfl (by kernel_rfl) fun K hK => ?_
    go_simp
    refine hK _ _ (fun h => absurd h (by rw [show needS _ _ _ = false from by kernel_rfl]; decide)) ?_
    clear hK
    refine wpAnyP_done (by kernel_rfl) ?_ _
    obtain ⟨w9, hw9⟩ : ∃ u, u = w8.setCell ⟨t, 19, none⟩ (.slice A8 n8 c8) := ⟨_, rfl⟩
    have hc9 : Chg (fun k => k = t) w8 w9 := by rw [hw9]; exact chg_g1 _ _ _ _
    have hT9 : p.row w9 t (.slice A8 n8 c8) := by rw [hw9]; exact (heap_setCell_same _ _ _ _ _ _ hS8.2).trans rfl
    have ht6 : t < w6.heap.size := hT6.lt
    have hvt8 : ∀ k, (Value.slice A8 n8 c8).ownBlock = some k → v.ownBlock = some k ∨ w6.heap.size ≤ k := fun k hk => by
      rcases hv8 with e | e
      · exact .inl (by rw [← e]; exact hk)
      · rw [e] at hk; injection hk with hk; exact .inr (by omega)
    have hv8Y : ∀ k, (Value.slice A8 n8 c8).ownBlock = some k → ¬ Y k := fun k hk hYk => by
      rcases hvt8 k hk with h1 | h1
      · exact HT2.out.tv k h1 hYk
      · have := hT6.Yl k hYk; omega
    have hv8t : (Value.slice A8 n8 c8).ownBlock ≠ some t := fun e => hv8Y t e HT2.out.Yt
    have hSY : ∀ b, (orS SO (fun b => lsS w4.heap.size w6 b)) b → ¬ Y b := fun b hb hYb => by
      rcases hb with hb | hb
      · exact hSOt b hb hYb
      · have h1 := hb.1; have h2 := (HT2.out.below HB4.out).Yl b hYb; omega
    have hSt : ∀ b, (orS SO (fun b => lsS w4.heap.size w6 b)) b → b ≠ t := fun b hb e => hSY b hb (by rw [e]; exact HT2.out.Yt)
    have hBt := hT6.tB
    have hG9 : TArg p B w9 := hT6.G.keep (fun b hb => (hc9.block b (Nat.lt_of_lt_of_le (Nat.lt_trans hb hT6.size) hch8.size) (by omega)).trans (hch8.block b (Nat.lt_trans hb hT6.size) (fun e => by have h1 := (hT6.own b e).1; omega)))
    have hO9 : OwnE (encFaL B) 48 (orS SO (fun b => lsS w4.heap.size w6 b)) w9 B (.slice A8 n8 c8) (out ++ [g]) := hown8.chg hc9 (fun k hk e => hv8t (by rw [← e]; exact hk)) (fun b hb e => hSt b hb e)
    have HF : Hid (TSt p B Y w9 t (.slice A8 n8 c8) (out ++ [g])) := ⟨hT9, ⟨_, hO9, hSY⟩, hG9, hBt, hv8Y, hT6.Yt, fun b hb => Nat.lt_of_lt_of_le (hT6.Yl b hb) (Nat.le_trans hch8.size hc9.size)⟩
    have HX : Hid (TX t w v w9 (.slice A8 n8 c8)) := by
      have hb26 : Below w.heap.size w w6 := HB2.out.trans (HB6.out.mono HB2.out.size)
      refine ⟨((Chg.of_below hb26).trans hch8 (fun z hz => .inl (.inr hz))).trans hc9 (fun z hz => .inl (.inl hz)), fun k hk => (hvt8 k hk).elim .inl (fun h => .inr (Nat.le_trans hb26.size h))⟩
    rw [← hw9]
    clear hw9 hS8 hS6 kt c19 hown8 hg8 hv8
    go_wp2
    go_end0
    refine ⟨_, _, out ++ [g], rfl, HF.out, HX.out, rfl, .inr ?_⟩
    have hge := HGE.out
    have h1 := HFINE.out
    have h2 := HUNT.out
    rw [hge] at h1 h2 ⊢
    exact ⟨rfl, h1, h2⟩
end Go.Proofs.Ytimkdpkhdbiniaa
