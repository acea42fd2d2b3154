/- Parts of a proof, joined: Zn8, Zn9. -/
import Derived.Test.YtimkdpkhdbiniaaZADZ3
import Derived.Test.YtimkdpkhdbiniaaZADM05
/- The message that Zone.fill and Zone.refer write into (printed by gen/zn8.py). -/
namespace Go.Proofs.Ytimkdpkhdbiniaa
open Go.RowKit
set_option maxRecDepth 100000
set_option linter.unusedVariables false

/-- The blocks of a row, and those that it leads to. -/
def Blk (v : Value) (S : Nat → Prop) (b : Nat) : Prop := v.ownBlock = some b ∨ S b
def Apart (v : Value) (S : Nat → Prop) (v' : Value) (S' : Nat → Prop) : Prop := ∀ b, Blk v S b → ¬ Blk v' S' b
/-- A row of records of the message's own, with what it leads to from B on. -/
structure RB (B : Nat) (w : World) (v : Value) (xs : List RR) (S : Nat → Prop) : Prop where
  o : OwnE (encRRL B) 84 S w B v xs
  ge : ∀ b, S b → B ≤ b
/-- Three lists of records, apart from one another. -/
def ZL (B : Nat) (w : World) (va vu vx : Value) (m : Ms) : Prop := ∃ Sa Su Sx, RB B w va m.an Sa ∧ RB B w vu m.au Su ∧ RB B w vx m.ex Sx ∧ Apart va Sa vu Su ∧ Apart va Sa vx Sx ∧ Apart vu Su vx Sx
structure ZM (B : Nat) (w : World) (pm : Nat) (s : MS) (m : Ms) : Prop where
  row : MRow w pm s m
  pB : pm < B
  L : ZL B w (.slice s.A m.an.length s.ac) (.slice s.U m.au.length s.uc) (.slice s.X m.ex.length s.xc) m
section
variable {B : Nat} {w w' : World} {pm : Nat} {s : MS} {m : Ms} {va vu vx v : Value} {xs : List RR} {S : Nat → Prop}
theorem RB.lt (h : RB B w v xs S) {b : Nat} (hb : Blk v S b) : b < w.heap.size := hb.elim (fun e => (OwnE.lt h.o b e).2) (fun e => (OwnE.S_lt h.o b e).1)
theorem RB.geB (h : RB B w v xs S) {b : Nat} (hb : Blk v S b) : B ≤ b := hb.elim (fun e => (OwnE.lt h.o b e).1) (fun e => h.ge b e)
theorem RB.below (h : RB B w v xs S) (hb : Below w.heap.size w w') : RB B w' v xs S := ⟨h.o.below hb, h.ge⟩
theorem RB.chg {F : Nat → Prop} (h : RB B w v xs S) (hc : Chg F w w') (hF : ∀ b, Blk v S b → ¬ F b) : RB B w' v xs S := ⟨h.o.chg hc (fun k hk => hF k (.inl hk)) (fun b hb => hF b (.inr hb)), h.ge⟩
theorem ZL.below (h : ZL B w va vu vx m) (hb : Below w.heap.size w w') : ZL B w' va vu vx m := by
  obtain ⟨Sa, Su, Sx, h1, h2, h3, h4⟩ := h
  exact ⟨Sa, Su, Sx, h1.below hb, h2.below hb, h3.below hb, h4⟩
theorem ZM.below (h : ZM B w pm s m) (hb : Below w.heap.size w w') : ZM B w' pm s m := ⟨h.row.below hb, h.pB, h.L.below hb⟩
theorem ZM.lt (h : ZM B w pm s m) : pm < w.heap.size := h.row.lt
/-- Behind a row of the call's own, all of it new: the same, from a lower block on. -/
theorem lsE_low {B' : Nat} (h : LsE B' w v xs) (hB : B ≤ B') : ∃ S, RB B w v xs S ∧ ∀ b, Blk v S b → B' ≤ b := by
  obtain ⟨S, h0⟩ := h
  have hlt := OwnE.lt h0
  obtain ⟨cells, ho, hr, hS⟩ := OwnE.base_le h0 hB
  refine ⟨fun b => S b ∧ B' ≤ b, ⟨⟨cells, ho, fun i x hx => ?_, fun b hb => hS b hb.1⟩, fun b hb => Nat.le_trans hB hb.2⟩, fun b hb => hb.elim (fun e => (hlt b e).1) (fun e => e.2)⟩
  obtain ⟨s, hc, hi⟩ := hr i x hx
  exact ⟨s, hc, hi.mono (fun b hb => ⟨⟨hb.1, hb.2.1⟩, Nat.le_trans hB hb.2.1, hb.2.2⟩)⟩
/-- The authority section is written. -/
theorem ZM.auth {w1 w2 : World} {A : Option Addr} {c : Nat} (h1 : ZM B w1 pm s m) (hb : Below w1.heap.size w1 w2) (hB : B ≤ w1.heap.size) (hl : LsE w1.heap.size w2 (.slice A xs.length c) xs) : ZM B (w2.setCell ⟨pm, 10, none⟩ (.slice A xs.length c)) pm { s with U := A, uc := c } { m with au := xs } := by
  have hc : Chg (fun k => k = pm) w2 (w2.setCell ⟨pm, 10, none⟩ (.slice A xs.length c)) := chg_g1 _ _ _ _
  obtain ⟨Sa, Su, Sx, ha, hu, hx, _, hax, _⟩ := h1.L
  obtain ⟨S2, ho2, hf2⟩ := lsE_low hl hB
  have hp := h1.pB
  have n1 : ∀ {v : Value} {xs : List RR} {S : Nat → Prop} {u : World}, RB B u v xs S → ∀ b, Blk v S b → ¬ b = pm := fun h b hb e => by have := h.geB hb; omega
  refine ⟨MRow.put (h1.row.below hb) 10 _ _ _ rfl, hp, Sa, S2, Sx, (ha.below hb).chg hc (n1 ha), ho2.chg hc (n1 ho2), (hx.below hb).chg hc (n1 hx), fun b h e => ?_, hax, fun b h e => ?_⟩
  · have h3 := ha.lt h; have h4 := hf2 b e; omega
  · have h3 := hx.lt e; have h4 := hf2 b h; omega
/-- A record more beside. -/
theorem ZM.extra {w4 w5 : World} {A : Option Addr} {c : Nat} {r : RR} {Sx S' : Nat → Prop} {Sa Su : Nat → Prop} (h : MRow w4 pm s m) (hp : pm < B) (ha : RB B w4 (.slice s.A m.an.length s.ac) m.an Sa) (hu : RB B w4 (.slice s.U m.au.length s.uc) m.au Su) (hau : Apart (.slice s.A m.an.length s.ac) Sa (.slice s.U m.au.length s.uc) Su) (hax : Apart (.slice s.A m.an.length s.ac) Sa (.slice s.X m.ex.length s.xc) Sx) (hux : Apart (.slice s.U m.au.length s.uc) Su (.slice s.X m.ex.length s.xc) Sx)
    (hgx : ∀ b, Sx b → B ≤ b) (hS' : ∀ b, S' b → B ≤ b ∧ ¬ Blk (.slice s.A m.an.length s.ac) Sa b ∧ ¬ Blk (.slice s.U m.au.length s.uc) Su b)
    (ho : OwnE (encRRL B) 84 (orS Sx S') w5 B (.slice A (m.ex ++ [r]).length c) (m.ex ++ [r])) (hg : w4.grownBy w5 (Value.slice s.X m.ex.length s.xc).ownBlock) (hat : (Value.slice A (m.ex ++ [r]).length c).ownBlock = (Value.slice s.X m.ex.length s.xc).ownBlock ∨ (Value.slice A (m.ex ++ [r]).length c).ownBlock = some (w4.heap.size + 1)) (hlx : ∀ k, (Value.slice s.X m.ex.length s.xc).ownBlock = some k → B ≤ k) : ZM B (w5.setCell ⟨pm, 11, none⟩ (.slice A (m.ex ++ [r]).length c)) pm { s with X := A, xc := c } { m with ex := m.ex ++ [r] } := by
  have hc5 : Chg (fun b => (Value.slice s.X m.ex.length s.xc).ownBlock = some b) w4 w5 := (Chg.refl _ _).grown hg (fun k hk => .inl hk)
  have hc : Chg (fun k => k = pm) w5 (w5.setCell ⟨pm, 11, none⟩ (.slice A (m.ex ++ [r]).length c)) := chg_g1 _ _ _ _
  have n1 : ∀ {v : Value} {xs : List RR} {S : Nat → Prop} {u : World}, RB B u v xs S → ∀ b, Blk v S b → ¬ b = pm := fun h b hb e => by have := h.geB hb; omega
  have ha5 := ha.chg hc5 (fun b hb e => hax b hb (.inl e))
  have hu5 := hu.chg hc5 (fun b hb e => hux b hb (.inl e))
  have hx5 : RB B w5 (.slice A (m.ex ++ [r]).length c) (m.ex ++ [r]) (orS Sx S') := ⟨ho, fun b hb => hb.elim (hgx b) (fun h => (hS' b h).1)⟩
  have hr5 : MRow w5 pm s m := hc5.heap h (fun e => by have := hlx pm e; omega)
  refine ⟨MRow.put hr5 11 _ _ _ rfl, hp, Sa, Su, orS Sx S', ha5.chg hc (n1 ha5), hu5.chg hc (n1 hu5), hx5.chg hc (n1 hx5), hau, fun b h1 e => ?_, fun b h1 e => ?_⟩
  · rcases e with e | e | e
    · rcases hat with h2 | h2
      · exact hax b h1 (.inl (by rw [← h2]; exact e))
      · have h3 : some b = some (w4.heap.size + 1) := e.symm.trans h2
        have h4 := ha.lt h1
        injection h3 with h3
        omega
    · exact hax b h1 (.inr e)
    · exact (hS' b e).2.1 h1
  · rcases e with e | e | e
    · rcases hat with h2 | h2
      · exact hux b h1 (.inl (by rw [← h2]; exact e))
      · have h3 : some b = some (w4.heap.size + 1) := e.symm.trans h2
        have h4 := hu.lt h1
        injection h3 with h3
        omega
    · exact hux b h1 (.inr e)
    · exact (hS' b e).2.2 h1
end
end Go.Proofs.Ytimkdpkhdbiniaa

/- Zone.refer: the servers of a cut (printed by gen/zn9.py). -/
namespace Go.Proofs.Ytimkdpkhdbiniaa
open Go.RowKit
set_option maxRecDepth 100000
set_option linter.unusedVariables false

/-- Is a record an address of one of these servers? -/
def hostB (au : List RR) (r : RR) : Bool := (au.any fun a => decide (lowN a.data.host = lowN r.name)) && (decide (r.type = 1) || decide (r.type = 28))
def exP (au rs : List RR) : List RR := rs.filter (hostB au)
theorem exP_take {au rs : List RR} {j : Nat} {r : RR} (h : rs[j]? = some r) : exP au (rs.take (j + 1)) = if hostB au r = true then exP au (rs.take j) ++ [r] else exP au (rs.take j) := by
  unfold exP
  rw [List.take_add_one, h, Option.toList_some, List.filter_append]
  cases hs : hostB au r <;> simp [hs]
def referP (rs : List RR) (cn : List (List UInt8)) (m : Ms) : Ms := { m with au := ofP rs cn 2, ex := m.ex ++ exP (ofP rs cn 2) rs, aa := decide (0 < m.an.length) }
/-- What a call of Zone.refer or Zone.fill leaves. -/
def ZCall (B pm : Nat) (w : World) (s : MS) (M : Ms) (e : Ending) (w' : World) : Prop := ∃ s', e = .returned (.tuple #[]) ∧ ZM B w' pm s' M ∧ Chg (fun z => z = pm ∨ B ≤ z) w w' ∧ s'.Q = s.Q ∧ s'.qc = s.qc

theorem ZM.keepL {B pm j : Nat} {v : Value} {w : World} {s : MS} {m m' : Ms} (h : ZM B w pm s m) (hr : (mCells s m).setIfInBounds j v = mCells s m') (ha : m'.an = m.an) (hu : m'.au = m.au) (hx : m'.ex = m.ex) : ZM B (w.setCell ⟨pm, j, none⟩ v) pm s m' := by
  have hc : Chg (fun k => k = pm) w (w.setCell ⟨pm, j, none⟩ v) := chg_g1 _ _ _ _
  have hp := h.pB
  obtain ⟨Sa, Su, Sx, a1, u1, x1, r1⟩ := h.L
  have n1 : ∀ {v : Value} {xs : List RR} {S : Nat → Prop} {u : World}, RB B u v xs S → ∀ b, Blk v S b → ¬ b = pm := fun h b hb e => by have := h.geB hb; omega
  refine ⟨MRow.put h.row j _ _ _ hr, hp, ?_⟩
  rw [ha, hu, hx]
  refine ⟨Sa, Su, Sx, ?_, ?_, ?_, r1⟩
  · rw [ha]; exact a1.chg hc (n1 a1)
  · rw [hu]; exact u1.chg hc (n1 u1)
  · rw [hx]; exact x1.chg hc (n1 x1)

set_option maxHeartbeats 16000000 in
theorem refer_any (zA RA : Option Addr) (zn zc rn rc : Nat) (rs : List RR) (cA : Option Addr) (cl cc : Nat) (cn : List (List UInt8)) (B pm : Nat) (s : MS) (m : Ms) (w : World) (h : Els encRR (fun b => b < B ∧ b ≠ pm) (fun b => b < B ∧ b ≠ pm) w RA rn rs) (hcn : RdE encS w cA cl cn) (hcl : cl ≤ maxLen) (hZ : ZM B w pm s m) (hBw : B ≤ w.heap.size) (hn : rn ≤ 1000000) (hex : m.ex.length ≤ 1000000) (hL : ∀ r ∈ rs, LightR r) :
    Calls Try.prog 139 #[.agg #[.slice zA zn zc, .slice RA rn rc], .pointer (some ⟨pm, 0, none⟩), .slice cA cl cc] w (ZCall B pm w s (referP rs cn m)) := by
  have hl := h.len
  subst hl
  obtain ⟨w1, hw1⟩ : ∃ w1, w1 = w.alloc (.cells #[.slice zA zn zc, .slice RA rs.length rc] 75) := ⟨_, rfl⟩
  obtain ⟨g, hg⟩ : ∃ g, g = w.heap.size := ⟨_, rfl⟩
  have hb1 : Below w.heap.size w w1 := by rw [hw1]; exact bl.alloc (Nat.le_refl _) _
  have z0 : w1.cell? ⟨g, 0, none⟩ = some (.slice zA zn zc) := by rw [hw1, hg]; exact new_cell w _ _ 0
  have z1 : w1.cell? ⟨g, 1, none⟩ = some (.slice RA rs.length rc) := by rw [hw1, hg]; exact new_cell w _ _ 1
  have hlt : ∀ b, (b < B ∧ b ≠ pm) → b < w.heap.size := fun b hb => Nat.lt_of_lt_of_le hb.1 hBw
  have HOF := Lib.hid (of_any zA RA zn zc rs.length rc rs cA cl cc cn 2 w1 ((h.below hb1 hlt hlt).mono (fun b hb => Nat.lt_of_lt_of_le (hlt b hb) hb1.size) (fun b hb => Nat.lt_of_lt_of_le (hlt b hb) hb1.size)) (hcn.below hb1) hn hcl hL)
  have H := Lib.hid h
  have HZ := Lib.hid hZ
  have HZ1 : Hid (ZM B w1 pm s m) := hZ.below hb1
  have HBW := Lib.hid hBw
  have HB1 := Lib.hid hb1
  have HL := Lib.hid hL
  have HRN : Hid (rs.length ≤ 1000000 ∧ m.ex.length ≤ 1000000) := ⟨hn, hex⟩
  have HGE := Lib.hid hg
  have HZC : Hid (w1.cell? ⟨g, 1, none⟩ = some (.slice RA rs.length rc)) := z1
  have hrb : rs.length ≤ 1000000 := hn
  clear h hZ hBw hb1 hL hn hex hcn hcl hlt
  go_enter Try.func139, Try.ntmps139
  go_upto_region 1 with (fail)
  rw [← hw1]
  clear hw1
  rw [← hg]
  clear hg
  obtain ⟨au, hau⟩ : ∃ l, l = ofP rs cn 2 := ⟨_, rfl⟩
  rw [← hau] at HOF
  have HAU := Lib.hid hau
  clear hau
  go_upto_region 2 with (go_at_call 140; refine HOF.out.mono ?_; rintro e w2 ⟨v2, rfl, ho2, hb2⟩; obtain ⟨A2, c2, hv2, _, _, _⟩ := ho2.rd; obtain ⟨L, hL⟩ : ∃ L, L = au.length := ⟨_, rfl⟩; have HLE := Lib.hid hL; have HO2 := Lib.hid ho2; have HB2 := Lib.hid hb2; rw [← hL] at hv2; subst hv2; have x10 : w2.cell? ⟨pm, 10, none⟩ = some (.slice s.U m.au.length s.uc) := ((HZ1.out.row.below hb2).cell 10).trans rfl; have f10 : w2.frozen? ⟨pm, 10, none⟩ = false := (HZ1.out.row.below hb2).free 10; have z1' := below_cell hb2 z1; clear ho2 hb2 hL)
  obtain ⟨w3, hw3⟩ : ∃ w3, w3 = w2.setCell ⟨pm, 10, none⟩ (.slice A2 L c2) := ⟨_, rfl⟩
  have HZ3 : Hid (ZM B w3 pm { s with U := A2, uc := c2 } { m with au := au }) := by
    show ZM _ _ _ _ _
    rw [hw3, HLE.out]
    exact HZ1.out.auth HB2.out (Nat.le_trans HBW.out HB1.out.size) (by have h0 := HO2.out; rw [HLE.out] at h0; exact h0)
  have hc3 : Chg (fun k => k = pm) w2 w3 := by rw [hw3]; exact chg_g1 _ _ _ _
  have HC3 : Hid (Chg (fun z => z = pm ∨ B ≤ z) w w3) := ((Chg.of_below (nx HB1.out HB2.out)).trans hc3 (fun z hz => .inl (.inl hz)))
  have hgp : g ≠ pm := by have := HGE.out; have := HZ.out.pB; have := HBW.out; omega
  have z1 : w3.cell? ⟨g, 1, none⟩ = some (.slice RA rs.length rc) := by rw [hw3]; exact (World.cell?_setCell_other _ _ _ _ (by intro e; simp at e)).trans z1'
  rw [← hw3]
  clear hw3 hc3 hgp x10 f10 z1' z0
  go_upto_region 3 with (fail)
  clear z1
  go_loopw [18] (fun iv wr => ∃ (k : Nat) (s' : MS), iv = .int .i64 (k : Int) ∧ k ≤ rs.length ∧ Hid (ZM B wr pm s' { m with au := au, ex := m.ex ++ exP au (rs.take k) }) ∧ Hid (Chg (fun z => z = pm ∨ B ≤ z) w wr) ∧ Hid (s'.Q = s.Q ∧ s'.qc = s.qc)) (fun iv _ => rs.length - (intOf iv).toNat)
  case atStart => exact ⟨0, { s with U := A2, uc := c2 }, rfl, Nat.zero_le _, by have h0 := HZ3.out; show ZM _ _ _ _ _; simpa [exP] using h0, HC3, ⟨rfl, rfl⟩⟩
  case round =>
    clear HZ3 HC3
    obtain ⟨k, s', rfl, hk, HZM, HC, HSQ⟩ := hrel
    by_cases hlt : k < rs.length
    rotate_left
    · have hkl : k = rs.length := by omega
      have hlt' : ¬ (k : Int) < (rs.length : Int) := by omega
      rw [hkl, List.take_length] at HZM
      clear hkl hlt
      have x9 : wr.cell? ⟨pm, 9, none⟩ = some (.slice s'.A m.an.length s'.ac) := (HZM.out.row.cell 9).trans rfl
      have x3 : wr.cell? ⟨pm, 3, none⟩ = some (.bool m.aa) := (HZM.out.row.cell 3).trans rfl
      have f3 : wr.frozen? ⟨pm, 3, none⟩ = false := MRow.free HZM.out.row 3
      have HFIN : Hid (∀ b : Bool, b = decide (0 < m.an.length) → ZCall B pm w s (referP rs cn m) (.returned (.tuple #[])) (wr.setCell ⟨pm, 3, none⟩ (.bool b))) := fun b hb => by
        refine ⟨s', rfl, ?_, HC.out.trans (chg_g1 wr pm 3 (.bool b)) (fun z hz => .inl (.inl hz)), HSQ.out⟩
        rw [hb]
        have h0 := HZM.out.keepL (j := 3) (v := .bool (decide (0 < m.an.length))) (m' := { m with au := au, ex := m.ex ++ exP au rs, aa := decide (0 < m.an.length) }) rfl rfl rfl rfl
        unfold referP
        rw [← HAU.out]
        exact h0
      have HF := Lib.hid (HFIN.out _ rfl)
      go_wp2
      go_end0
      exact HF.out
    have hlt' : (k : Int) < (rs.length : Int) := by omega
    obtain ⟨r, hr⟩ : ∃ r, rs[k]? = some r := ⟨_, List.getElem?_eq_getElem hlt⟩
    have HLR := Lib.hid (HL.out r (List.mem_of_getElem? hr))
    have hkeep : ∀ b, (b < B ∧ b ≠ pm) → wr.heap[b]? = w.heap[b]? := fun b hb => HC.out.block b (Nat.lt_of_lt_of_le hb.1 HBW.out) (fun e => by rcases e with e | e; exact hb.2 e; omega)
    obtain ⟨b, off, t, hA, hb0, hri, hrc⟩ := rr_at (H.out.keep hkeep hkeep) hr
    have HEQ := Lib.hid (exP_take (au := au) hr)
    have HRI := Lib.hid hri
    have hAA := Lib.hid hA
    rw [hA]
    obtain ⟨d0, d1, d2, d3, d4, d5, d6, d7, d8⟩ := hrc
    obtain ⟨w4, hw4⟩ : ∃ w4, w4 = wr.alloc (.cells #[.slice t.A r.name.length t.c, .int .i64 r.type, .int .i64 r.cls, .int .i64 r.ttl, .slice t.d.A0 r.data.bytes.length t.d.c0, .slice t.d.A1 r.data.host.length t.d.c1, .slice t.d.A2 r.data.mail.length t.d.c2, .slice t.d.A3 r.data.nums.length t.d.c3, .slice t.d.A4 r.data.texts.length t.d.c4] 84) := ⟨_, rfl⟩
    obtain ⟨q, hq⟩ : ∃ g, g = wr.heap.size := ⟨_, rfl⟩
    have hb4 : Below wr.heap.size wr w4 := by rw [hw4]; exact bl.alloc (Nat.le_refl _) _
    have HR4 : Hid (RRow w4 q t r) := by show RRow _ _ _ _; rw [hw4, hq]; exact heap_alloc_new wr _
    have HB4 := Lib.hid hb4
    have HZM4 : Hid (ZM B w4 pm s' { m with au := au, ex := m.ex ++ exP au (rs.take k) }) := HZM.out.below hb4
    have HWS : Hid (B ≤ w4.heap.size) := Nat.le_trans HBW.out (Nat.le_trans HC.out.size hb4.size)
    have HRI4 : Hid (RIn (fun b => b < B ∧ b ≠ pm) w4 t r) := hri.below hb4 (fun b hb => Nat.lt_of_lt_of_le (Nat.lt_of_lt_of_le hb.1 HBW.out) HC.out.size)
    clear hr hri hA hb0 hb4 hkeep
    go_upto_region 5 with (fail)
    rw [← hw4]
    clear hw4 d0 d1 d2 d3 d4 d5 d6 d7 d8
    rw [← hq]
    clear hq
    have HAL : Hid (au.length ≤ rs.length) := by show _ ≤ _; rw [HAU.out]; exact List.length_filter_le _ _
    obtain ⟨xs, hxs⟩ : ∃ xs, xs = m.ex ++ exP au (rs.take k) := ⟨_, rfl⟩
    have HXL : Hid (xs.length ≤ 2000000) := by
      show _ ≤ _
      have h1 := List.length_filter_le (hostB au) (rs.take k)
      rw [List.length_take] at h1
      have h2 := HRN.out
      rw [hxs, List.length_append]
      show m.ex.length + ((rs.take k).filter (hostB au)).length ≤ _
      omega
    rw [← hxs] at HZM4
    have HXE := Lib.hid hxs
    clear hxs
    obtain ⟨Sa, Su, Sx, ha, hu, hx, hau, hax, hux⟩ := HZM4.out.L
    have HA := Lib.hid ha
    have HU := Lib.hid hu
    have HXX := Lib.hid hx
    have HAP : Hid (Apart (.slice s'.A m.an.length s'.ac) Sa (.slice s'.U au.length s'.uc) Su ∧ Apart (.slice s'.A m.an.length s'.ac) Sa (.slice s'.X xs.length s'.xc) Sx ∧ Apart (.slice s'.U au.length s'.uc) Su (.slice s'.X xs.length s'.xc) Sx) := ⟨hau, hax, hux⟩
    obtain ⟨A5, c5, hv5, he5, _, _⟩ := LsE.rd ⟨Su, hu.o⟩
    injection hv5 with e1 e2 e3
    subst e1
    subst e3
    have hmf : ∀ (fn : Fn) (first cap : Array Value) (w : World), (Instr.makeFunc fn first cap).run Try.prog w = .ok (.func fn first cap) w := fun _ _ _ _ => rfl
    have hlt4 : ∀ b, (b < B ∧ b ≠ pm) → b < w4.heap.size := fun b hb => Nat.lt_of_lt_of_le hb.1 HWS.out
    have HCT := Lib.hid (hasZr_any q (fun a => decide (lowN a.data.host = lowN r.name)) s'.U au.length s'.uc au w4 he5 (fun b hb => hb.2) (by have := HAL.out; omega) (fun s2 x W hxx hW hi => zreferC_any q s2 t x r W hi (HRI4.out.below hW hlt4) (fun b hb => Nat.lt_of_lt_of_le hb.2 hW.size) (fun b hb => Nat.lt_of_lt_of_le (hlt4 b hb) hW.size) (RRow.below HR4.out hW)))
    have x10 : w4.cell? ⟨pm, 10, none⟩ = some (.slice s'.U au.length s'.uc) := (HZM4.out.row.cell 10).trans rfl
    obtain ⟨ho, hho⟩ : ∃ b, b = au.any (fun a => decide (lowN a.data.host = lowN r.name)) := ⟨_, rfl⟩
    rw [← hho] at HCT
    have HHB : Hid (hostB au r = (ho && (decide (r.type = 1) || decide (r.type = 28)))) := by show _ = _; unfold hostB; rw [← hho]
    clear ha hu hx hau hax hux he5 hlt4 hho e2
    go_upto_region 6 with (go_at_call 135; refine HCT.out.mono ?_; rintro e w5 ⟨v5, rfl, rfl, hb5⟩; have HB5 := Lib.hid hb5; clear hb5)
    clear x10
    obtain ⟨x0, x1, x2, x3, x4, x5, x6, x7, x8⟩ := (RRow.below HR4.out HB5.out).cells
    have HC5 : Hid (Chg (fun z => z = pm ∨ B ≤ z) w w5) := HC.out.trans (Chg.of_below (F := fun _ => False) (nx HB4.out HB5.out)) (fun _ h => h.elim)
    have HNO : Hid (hostB au r = false → ∀ u, Below w5.heap.size w5 u → ZM B u pm s' { m with au := au, ex := m.ex ++ exP au (rs.take (k + 1)) }) := fun e u hu => by
      rw [HEQ.out, if_neg (by rw [e]; decide), ← HXE.out]
      exact (HZM4.out.below HB5.out).below hu
    cases ho with
    | false =>
      have HHN : Hid (hostB au r = false) := by show _ = _; rw [HHB.out]; rfl
      go_wp2
      go_roundw
      case rel => exact ⟨k + 1, s', by go_num, by omega, HNO.out HHN.out w5 bl, HC5, HSQ⟩
      case measure => simp [intOf]; omega
    | true =>
    by_cases ht : r.type = 1 ∨ r.type = 28
    rotate_left
    · have h1 : (r.type == 1) = false := beq_eq_false_iff_ne.2 (fun e => ht (.inl e))
      have h2 : (r.type == 28) = false := beq_eq_false_iff_ne.2 (fun e => ht (.inr e))
      have HHN : Hid (hostB au r = false) := by show _ = _; rw [HHB.out, decide_eq_false (fun e => ht (.inl e)), decide_eq_false (fun e => ht (.inr e))]; rfl
      clear ht
      go_wp2
      go_roundw
      case rel => exact ⟨k + 1, s', by go_num, by omega, HNO.out HHN.out w5 bl, HC5, HSQ⟩
      case measure => simp [intOf]; omega
    have HYES : Hid (hostB au r = true) := by show _ = _; rw [HHB.out]; rcases ht with e | e <;> rw [decide_eq_true e] <;> simp
    have hS5 : MRow w5.drew pm s' { m with au := au, ex := xs } ∧ RRow w5.drew q t r := ⟨(HZM4.out.below HB5.out).row, RRow.below HR4.out HB5.out.drew⟩
    have hxb : ∀ u, MRow u pm s' { m with au := au, ex := xs } → u.cell? ⟨pm, 11, none⟩ = some (.slice s'.X xs.length s'.xc) := fun u hu => (hu.cell 11).trans rfl
    have HX11 := Lib.hid hxb
    clear hxb x0 x2 x3 x4 x5 x6 x7 x8
    have hgo : (r.type == 1) = true ∨ ((r.type == 1) = false ∧ (r.type == 28) = true) := by
      by_cases e : r.type = 1
      · exact .inl (beq_iff_eq.2 e)
      · exact .inr ⟨beq_eq_false_iff_ne.2 e, beq_iff_eq.2 (ht.resolve_left e)⟩
    clear ht
    have HWD : Hid (Below w4.heap.size w4 w5.drew) := HB5.out.drew
    have HZ5 : Hid (ZM B w5.drew pm s' { m with au := au, ex := xs }) := HZM4.out.below HWD.out
    have HRI5 : Hid (RIn (fun b => b < B ∧ b ≠ pm) w5.drew t r) := HRI4.out.below HWD.out (fun b hb => Nat.lt_of_lt_of_le hb.1 HWS.out)
    have HOWN := Lib.hid (zown_any t r w5.drew HRI5.out (fun b hb => Nat.lt_of_lt_of_le (Nat.lt_of_lt_of_le hb.1 HWS.out) HWD.out.size) HLR.out.1 HLR.out.2)
    rcases hgo with h1 | ⟨h1, h2⟩
    · go_upto_region 7 with (fail)
      clear h1 x1
      refine wp_region_any (by kernel_rfl) ?_
      change wpAny _ _ _ _ _ _ _ (World.drew w5)
      refine wpAny_of_P (S := fun W => MRow W pm s' { m with au := au, ex := xs } ∧ RRow W q t r) (dem := fun j => decide (1 ≤ j) && decide (j ≤ 8)) _ _ _ _ ?_
      refine wpAnyP_pure (i := 0) (v := .pointer (some ⟨pm, 0, none⟩)) rfl (by kernel_rfl) (by kernel_rfl) (by kernel_rfl) (by kernel_rfl) (fun _ _ _ h => h) (Or.inl ⟨by kernel_rfl, by (intro W hW; go_simp)⟩) (fun _ => hS5) ?_
      refine wpAnyP_take (i := 1) (v := .pointer (some ⟨pm, 0, none⟩)) rfl (by kernel_rfl) (by kernel_rfl) (by kernel_rfl) (by kernel_rfl) (by kernel_rfl) (fun _ _ _ h => h) (Or.inl ⟨by kernel_rfl, by (intro W hW; go_simp)⟩) hS5 ?_
      refine wpAnyP_take (i := 2) (v := .pointer (some ⟨pm, 0, none⟩)) rfl (by kernel_rfl) (by kernel_rfl) (by kernel_rfl) (by kernel_rfl) (by kernel_rfl) (fun _ _ _ h => h) (Or.inl ⟨by kernel_rfl, by (intro W hW; go_simp)⟩) hS5 ?_
      refine wpAnyP_take (i := 3) (v := .pointer (some ⟨pm, 11, none⟩)) rfl (by kernel_rfl) (by kernel_rfl) (by kernel_rfl) (by kernel_rfl) (by kernel_rfl) (fun _ _ _ h => h) (Or.inl ⟨by kernel_rfl, by (intro W hW; go_simp)⟩) hS5 ?_
      refine wpAnyP_take (i := 4) (v := .slice s'.X xs.length s'.xc) rfl (by kernel_rfl) (by kernel_rfl) (by kernel_rfl) (by kernel_rfl) (by kernel_rfl) (fun _ _ _ h => h) (Or.inl ⟨by kernel_rfl, by (intro W hW; have c0 := HX11.out W hW.1; go_simp)⟩) hS5 ?_
      refine wpAnyP_take (i := 5) (v := .agg (rrCells t r)) rfl (by kernel_rfl) (by kernel_rfl) (by kernel_rfl) (by kernel_rfl) (by kernel_rfl) (fun _ _ _ h => h) (yields_row rowRR (by rfl) (.tmp 7) rfl q rfl (rrCells t r) (fun W hW => hW.2) rfl) hS5 ?_
      refine wpAnyP_one (i := 6) rfl (by kernel_rfl) fun K hK => ?_
      go_simp
      refine HOWN.out.mono ?_
      rintro e w6 ⟨v6, rfl, ⟨s4, rfl, hi6⟩, hb6⟩
      have HB6 : Hid (Below w5.drew.heap.size w5.drew w6) := hb6
      have HI6 := Lib.hid hi6
      refine hK _ _ (fun _ => ⟨MRow.below (w := w5.drew) hS5.1 hb6, RRow.below (w := w5.drew) hS5.2 hb6⟩) ?_
      clear hK hi6 hb6
      unfold rrV rrCells
      have hba : ∀ (o : Obj), Below w6.heap.size w6 (w6.alloc o) := fun o => bl.alloc (Nat.le_refl _) _
      have HBA := Lib.hid hba
      clear hba
      refine wpAnyP_one (i := 7) rfl (by kernel_rfl) fun K hK => ?_
      go_simp
      refine hK _ _ (fun _ => ⟨MRow.below (MRow.below (w := w5.drew) hS5.1 HB6.out) (HBA.out _), RRow.below (RRow.below (w := w5.drew) hS5.2 HB6.out) (HBA.out _)⟩) ?_
      clear hK
      have hown : OwnE (encRRL B) 84 Sx w6 B (.slice s'.X xs.length s'.xc) xs := (HXX.out.o.below HWD.out).below HB6.out
      have HOX := Lib.hid hown
      have HR6 : Hid (MRow w6 pm s' { m with au := au, ex := xs }) := MRow.below (w := w5.drew) hS5.1 HB6.out
      have HA6 : Hid (RB B w6 (.slice s'.A m.an.length s'.ac) m.an Sa) := (HA.out.below HWD.out).below HB6.out
      have HU6 : Hid (RB B w6 (.slice s'.U au.length s'.uc) au Su) := (HU.out.below HWD.out).below HB6.out
      have hbB : B ≤ w5.drew.heap.size := Nat.le_trans HWS.out HWD.out.size
      have hS' : ∀ b, lsS w5.drew.heap.size w6 b → b < w6.heap.size ∧ some b ≠ (Value.slice s'.X xs.length s'.xc).ownBlock := fun b hb => ⟨hb.2.1, fun e => by
        have h3 := (OwnE.lt (HXX.out.o.below HWD.out) b e.symm).2
        have h4 := hb.1
        omega⟩
      have HSF : Hid (∀ b, lsS w5.drew.heap.size w6 b → B ≤ b ∧ ¬ Blk (.slice s'.A m.an.length s'.ac) Sa b ∧ ¬ Blk (.slice s'.U au.length s'.uc) Su b) := fun b hb => ⟨Nat.le_trans hbB hb.1, fun e => by have h3 := (HA.out.below HWD.out).lt e; have h4 := hb.1; omega, fun e => by have h3 := (HU.out.below HWD.out).lt e; have h4 := hb.1; omega⟩
      have hrow : (encRRL B).R (lsS w5.drew.heap.size w6) w6 [.slice s4.A r.name.length s4.c, .int .i64 r.type, .int .i64 r.cls, .int .i64 r.ttl, .slice s4.d.A0 r.data.bytes.length s4.d.c0, .slice s4.d.A1 r.data.host.length s4.d.c1, .slice s4.d.A2 r.data.mail.length s4.d.c2, .slice s4.d.A3 r.data.nums.length s4.d.c3, .slice s4.d.A4 r.data.texts.length s4.d.c4] r := ⟨s4, rfl, HI6.out.mono (fun b hb => ⟨hb, Nat.le_trans hbB hb.1, hb.2.2⟩)⟩
      have hb6B : B ≤ w6.heap.size := Nat.le_trans hbB HB6.out.size
      refine wpAnyP_one (i := 8) rfl (by kernel_rfl) fun K hK => ?_
      refine step_pushE (w := w6) (elRRL B) (by kernel_rfl) (.tmp 43) (.tmp 46) (by rfl) B (.slice s'.X xs.length s'.xc) xs (by rfl) HOX.out [.slice s4.A r.name.length s4.c, .int .i64 r.type, .int .i64 r.cls, .int .i64 r.ttl, .slice s4.d.A0 r.data.bytes.length s4.d.c0, .slice s4.d.A1 r.data.host.length s4.d.c1, .slice s4.d.A2 r.data.mail.length s4.d.c2, .slice s4.d.A3 r.data.nums.length s4.d.c3, .slice s4.d.A4 r.data.texts.length s4.d.c4] r hrow hS' (by rfl) (by have := HXL.out; omega) (by have := HXL.out; unfold maxLen; omega) hb6B ?_ (by rfl)
      intro v8 w8 hown8 hg8 hat8
      obtain ⟨A8, c8, hv8, _, _, _⟩ := OwnE.form hown8
      rw [hv8] at hown8 hat8
      have hZ9 := ZM.extra (m := { m with au := au, ex := xs }) HR6.out HZ5.out.pB HA6.out HU6.out HAP.out.1 HAP.out.2.1 HAP.out.2.2 HXX.out.ge HSF.out hown8 hg8 hat8 (fun k hk => (OwnE.lt HOX.out k hk).1)
      have hc8 : Chg (fun b => (Value.slice s'.X xs.length s'.xc).ownBlock = some b) w6 w8 := (Chg.refl _ _).grown hg8 (fun k hk => .inl hk)
      have hr8 : MRow w8 pm s' { m with au := au, ex := xs } := hc8.heap HR6.out (fun e => by have h3 := (OwnE.lt HOX.out pm e).1; have h4 := HZ5.out.pB; omega)
      obtain ⟨L8, hL8⟩ : ∃ L, L = (xs ++ [r]).length := ⟨_, rfl⟩
      have hZ9' : ZM B (w8.setCell ⟨pm, 11, none⟩ (.slice A8 L8 c8)) pm { s' with X := A8, xc := c8 } { m with au := au, ex := xs ++ [r] } := by rw [hL8]; exact hZ9
      rw [← hL8] at hv8
      subst hv8
      have HZ9 := Lib.hid hZ9'
      have HC9 : Hid (Chg (fun z => z = pm ∨ B ≤ z) w (w8.setCell ⟨pm, 11, none⟩ (.slice A8 L8 c8))) := by
        have h1 : Chg (fun z => z = pm ∨ B ≤ z) w w6 := HC5.out.trans (Chg.of_below (F := fun _ => False) ((bl.drew : Below w5.heap.size w5 w5.drew).trans HB6.out)) (fun _ h => h.elim)
        have h2 := h1.trans hc8 (fun z hz => .inl (.inr (OwnE.lt HOX.out z hz).1))
        exact h2.trans (chg_g1 w8 pm 11 (.slice A8 L8 c8)) (fun z hz => .inl (.inl hz))
      have x11 : w8.cell? ⟨pm, 11, none⟩ = some (.slice s'.X xs.length s'.xc) := HX11.out w8 hr8
      have f11 : w8.frozen? ⟨pm, 11, none⟩ = false := MRow.free hr8 11
      refine hK _ _ (fun h => absurd h (by rw [show needS _ _ _ = false from by kernel_rfl]; decide)) ?_
      clear hK hown8 hg8 hat8 hZ9 hZ9' hc8 hr8 hL8 hrow hS' hbB hb6B hown
      refine wpAnyP_one (i := 9) rfl (by kernel_rfl) fun K hK => ?_
      go_simp
      refine hK _ _ (fun h => absurd h (by rw [show needS _ _ _ = false from by kernel_rfl]; decide)) ?_
      clear hK
      refine wpAnyP_one (i := 10) rfl (by kernel_rfl) fun K hK => ?_
      go_simp
      refine hK _ _ (fun h => absurd h (by rw [show needS _ _ _ = false from by kernel_rfl]; decide)) ?_
      clear hK
      refine wpAnyP_one (i := 11) rfl (by kernel_rfl) fun K hK => ?_
      go_simp
      refine hK _ (w8.setCell ⟨pm, 11, none⟩ (.slice A8 L8 c8)) (fun h => absurd h (by rw [show needS _ _ _ = false from by kernel_rfl]; decide)) ?_
      clear hK x11 f11
      refine wpAnyP_done (by kernel_rfl) ?_ _
      go_wp2
      go_roundw
      case rel => exact ⟨k + 1, { s' with X := A8, xc := c8 }, by go_num, by omega, by have h0 := HZ9.out; show ZM _ _ _ _ _; rw [HEQ.out, if_pos HYES.out, ← List.append_assoc, ← HXE.out]; exact h0, HC9.out, HSQ.out⟩
      case measure => simp [intOf]; omega
    · go_upto_region 7 with (fail)
      clear h1 h2 x1
      refine wp_region_any (by kernel_rfl) ?_
      change wpAny _ _ _ _ _ _ _ (World.drew w5)
      refine wpAny_of_P (S := fun W => MRow W pm s' { m with au := au, ex := xs } ∧ RRow W q t r) (dem := fun j => decide (1 ≤ j) && decide (j ≤ 8)) _ _ _ _ ?_
      refine wpAnyP_pure (i := 0) (v := .pointer (some ⟨pm, 0, none⟩)) rfl (by kernel_rfl) (by kernel_rfl) (by kernel_rfl) (by kernel_rfl) (fun _ _ _ h => h) (Or.inl ⟨by kernel_rfl, by (intro W hW; go_simp)⟩) (fun _ => hS5) ?_
      refine wpAnyP_take (i := 1) (v := .pointer (some ⟨pm, 0, none⟩)) rfl (by kernel_rfl) (by kernel_rfl) (by kernel_rfl) (by kernel_rfl) (by kernel_rfl) (fun _ _ _ h => h) (Or.inl ⟨by kernel_rfl, by (intro W hW; go_simp)⟩) hS5 ?_
      refine wpAnyP_take (i := 2) (v := .pointer (some ⟨pm, 0, none⟩)) rfl (by kernel_rfl) (by kernel_rfl) (by kernel_rfl) (by kernel_rfl) (by kernel_rfl) (fun _ _ _ h => h) (Or.inl ⟨by kernel_rfl, by (intro W hW; go_simp)⟩) hS5 ?_
      refine wpAnyP_take (i := 3) (v := .pointer (some ⟨pm, 11, none⟩)) rfl (by kernel_rfl) (by kernel_rfl) (by kernel_rfl) (by kernel_rfl) (by kernel_rfl) (fun _ _ _ h => h) (Or.inl ⟨by kernel_rfl, by (intro W hW; go_simp)⟩) hS5 ?_
      refine wpAnyP_take (i := 4) (v := .slice s'.X xs.length s'.xc) rfl (by kernel_rfl) (by kernel_rfl) (by kernel_rfl) (by kernel_rfl) (by kernel_rfl) (fun _ _ _ h => h) (Or.inl ⟨by kernel_rfl, by (intro W hW; have c0 := HX11.out W hW.1; go_simp)⟩) hS5 ?_
      refine wpAnyP_take (i := 5) (v := .agg (rrCells t r)) rfl (by kernel_rfl) (by kernel_rfl) (by kernel_rfl) (by kernel_rfl) (by kernel_rfl) (fun _ _ _ h => h) (yields_row rowRR (by rfl) (.tmp 7) rfl q rfl (rrCells t r) (fun W hW => hW.2) rfl) hS5 ?_
      refine wpAnyP_one (i := 6) rfl (by kernel_rfl) fun K hK => ?_
      go_simp
      refine HOWN.out.mono ?_
      rintro e w6 ⟨v6, rfl, ⟨s4, rfl, hi6⟩, hb6⟩
      have HB6 : Hid (Below w5.drew.heap.size w5.drew w6) := hb6
      have HI6 := Lib.hid hi6
      refine hK _ _ (fun _ => ⟨MRow.below (w := w5.drew) hS5.1 hb6, RRow.below (w := w5.drew) hS5.2 hb6⟩) ?_
      clear hK hi6 hb6
      unfold rrV rrCells
      have hba : ∀ (o : Obj), Below w6.heap.size w6 (w6.alloc o) := fun o => bl.alloc (Nat.le_refl _) _
      have HBA := Lib.hid hba
      clear hba
      refine wpAnyP_one (i := 7) rfl (by kernel_rfl) fun K hK => ?_
      go_simp
      refine hK _ _ (fun _ => ⟨MRow.below (MRow.below (w := w5.drew) hS5.1 HB6.out) (HBA.out _), RRow.below (RRow.below (w := w5.drew) hS5.2 HB6.out) (HBA.out _)⟩) ?_
      clear hK
      have hown : OwnE (encRRL B) 84 Sx w6 B (.slice s'.X xs.length s'.xc) xs := (HXX.out.o.below HWD.out).below HB6.out
      have HOX := Lib.hid hown
      have HR6 : Hid (MRow w6 pm s' { m with au := au, ex := xs }) := MRow.below (w := w5.drew) hS5.1 HB6.out
      have HA6 : Hid (RB B w6 (.slice s'.A m.an.length s'.ac) m.an Sa) := (HA.out.below HWD.out).below HB6.out
      have HU6 : Hid (RB B w6 (.slice s'.U au.length s'.uc) au Su) := (HU.out.below HWD.out).below HB6.out
      have hbB : B ≤ w5.drew.heap.size := Nat.le_trans HWS.out HWD.out.size
      have hS' : ∀ b, lsS w5.drew.heap.size w6 b → b < w6.heap.size ∧ some b ≠ (Value.slice s'.X xs.length s'.xc).ownBlock := fun b hb => ⟨hb.2.1, fun e => by
        have h3 := (OwnE.lt (HXX.out.o.below HWD.out) b e.symm).2
        have h4 := hb.1
        omega⟩
      have HSF : Hid (∀ b, lsS w5.drew.heap.size w6 b → B ≤ b ∧ ¬ Blk (.slice s'.A m.an.length s'.ac) Sa b ∧ ¬ Blk (.slice s'.U au.length s'.uc) Su b) := fun b hb => ⟨Nat.le_trans hbB hb.1, fun e => by have h3 := (HA.out.below HWD.out).lt e; have h4 := hb.1; omega, fun e => by have h3 := (HU.out.below HWD.out).lt e; have h4 := hb.1; omega⟩
      have hrow : (encRRL B).R (lsS w5.drew.heap.size w6) w6 [.slice s4.A r.name.length s4.c, .int .i64 r.type, .int .i64 r.cls, .int .i64 r.ttl, .slice s4.d.A0 r.data.bytes.length s4.d.c0, .slice s4.d.A1 r.data.host.length s4.d.c1, .slice s4.d.A2 r.data.mail.length s4.d.c2, .slice s4.d.A3 r.data.nums.length s4.d.c3, .slice s4.d.A4 r.data.texts.length s4.d.c4] r := ⟨s4, rfl, HI6.out.mono (fun b hb => ⟨hb, Nat.le_trans hbB hb.1, hb.2.2⟩)⟩
      have hb6B : B ≤ w6.heap.size := Nat.le_trans hbB HB6.out.size
      refine wpAnyP_one (i := 8) rfl (by kernel_rfl) fun K hK => ?_
      refine step_pushE (w := w6) (elRRL B) (by kernel_rfl) (.tmp 43) (.tmp 46) (by rfl) B (.slice s'.X xs.length s'.xc) xs (by rfl) HOX.out [.slice s4.A r.name.length s4.c, .int .i64 r.type, .int .i64 r.cls, .int .i64 r.ttl, .slice s4.d.A0 r.data.bytes.length s4.d.c0, .slice s4.d.A1 r.data.host.length s4.d.c1, .slice s4.d.A2 r.data.mail.length s4.d.c2, .slice s4.d.A3 r.data.nums.length s4.d.c3, .slice s4.d.A4 r.data.texts.length s4.d.c4] r hrow hS' (by rfl) (by have := HXL.out; omega) (by have := HXL.out; unfold maxLen; omega) hb6B ?_ (by rfl)
      intro v8 w8 hown8 hg8 hat8
      obtain ⟨A8, c8, hv8, _, _, _⟩ := OwnE.form hown8
      rw [hv8] at hown8 hat8
      have hZ9 := ZM.extra (m := { m with au := au, ex := xs }) HR6.out HZ5.out.pB HA6.out HU6.out HAP.out.1 HAP.out.2.1 HAP.out.2.2 HXX.out.ge HSF.out hown8 hg8 hat8 (fun k hk => (OwnE.lt HOX.out k hk).1)
      have hc8 : Chg (fun b => (Value.slice s'.X xs.length s'.xc).ownBlock = some b) w6 w8 := (Chg.refl _ _).grown hg8 (fun k hk => .inl hk)
      have hr8 : MRow w8 pm s' { m with au := au, ex := xs } := hc8.heap HR6.out (fun e => by have h3 := (OwnE.lt HOX.out pm e).1; have h4 := HZ5.out.pB; omega)
      obtain ⟨L8, hL8⟩ : ∃ L, L = (xs ++ [r]).length := ⟨_, rfl⟩
      have hZ9' : ZM B (w8.setCell ⟨pm, 11, none⟩ (.slice A8 L8 c8)) pm { s' with X := A8, xc := c8 } { m with au := au, ex := xs ++ [r] } := by rw [hL8]; exact hZ9
      rw [← hL8] at hv8
      subst hv8
      have HZ9 := Lib.hid hZ9'
      have HC9 : Hid (Chg (fun z => z = pm ∨ B ≤ z) w (w8.setCell ⟨pm, 11, none⟩ (.slice A8 L8 c8))) := by
        have h1 : Chg (fun z => z = pm ∨ B ≤ z) w w6 := HC5.out.trans (Chg.of_below (F := fun _ => False) ((bl.drew : Below w5.heap.size w5 w5.drew).trans HB6.out)) (fun _ h => h.elim)
        have h2 := h1.trans hc8 (fun z hz => .inl (.inr (OwnE.lt HOX.out z hz).1))
        exact h2.trans (chg_g1 w8 pm 11 (.slice A8 L8 c8)) (fun z hz => .inl (.inl hz))
      have x11 : w8.cell? ⟨pm, 11, none⟩ = some (.slice s'.X xs.length s'.xc) := HX11.out w8 hr8
      have f11 : w8.frozen? ⟨pm, 11, none⟩ = false := MRow.free hr8 11
      refine hK _ _ (fun h => absurd h (by rw [show needS _ _ _ = false from by kernel_rfl]; decide)) ?_
      clear hK hown8 hg8 hat8 hZ9 hZ9' hc8 hr8 hL8 hrow hS' hbB hb6B hown
      refine wpAnyP_one (i := 9) rfl (by kernel_rfl) fun K hK => ?_
      go_simp
      refine hK _ _ (fun h => absurd h (by rw [show needS _ _ _ = false from by kernel_rfl]; decide)) ?_
      clear hK
      refine wpAnyP_one (i := 10) rfl (by kernel_rfl) fun K hK => ?_
      go_simp
      refine hK _ _ (fun h => absurd h (by rw [show needS _ _ _ = false from by kernel_rfl]; decide)) ?_
      clear hK
      refine wpAnyP_one (i := 11) rfl (by kernel_rfl) fun K hK => ?_
      go_simp
      refine hK _ (w8.setCell ⟨pm, 11, none⟩ (.slice A8 L8 c8)) (fun h => absurd h (by rw [show needS _ _ _ = false from by kernel_rfl]; decide)) ?_
      clear hK x11 f11
      refine wpAnyP_done (by kernel_rfl) ?_ _
      go_wp2
      go_roundw
      case rel => exact ⟨k + 1, { s' with X := A8, xc := c8 }, by go_num, by omega, by have h0 := HZ9.out; show ZM _ _ _ _ _; rw [HEQ.out, if_pos HYES.out, ← List.append_assoc, ← HXE.out]; exact h0, HC9.out, HSQ.out⟩
      case measure => simp [intOf]; omega
end Go.Proofs.Ytimkdpkhdbiniaa
