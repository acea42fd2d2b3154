/- Parts of a proof, joined: Zn2, Zn3. -/
import Derived.Test.YtimkdpkhdbiniaaZADZ1
import Derived.Test.YtimkdpkhdbiniaaZADX7
/- zone.own: a record that shares nothing (printed by gen/zn2.py). -/
namespace Go.Proofs.Ytimkdpkhdbiniaa
open Go.RowKit
set_option maxRecDepth 100000
set_option linter.unusedVariables false

theorem lsS.chg {w w' : World} {B b : Nat} {F : Nat → Prop} (h : lsS B w b) (hc : Chg F w w') (hF : ¬ F b) : lsS B w' b := h.keep hc.size (hc.block b h.2.1 hF)
theorem rr_one (s : RS) (x : RR) : (rrCells s x).all (·.oneCell') = true := by simp [rrCells, Value.oneCell']

set_option maxHeartbeats 8000000 in
theorem zown_any (s : RS) (x : RR) (w : World) {S : Nat → Prop} (hx : RIn S w s x) (hS : ∀ b, S b → b < w.heap.size) (hL : LightB x.data) (hn : x.name.length ≤ 8796093022208) :
    Calls Try.prog 178 #[rrV s x] w (RetP (fun v w' => ∃ s', v = rrV s' x ∧ RIn (lsS w.heap.size w') w' s' x) w) := by
  obtain ⟨w1, hw1⟩ : ∃ w1, w1 = w.alloc (.cells (rrCells s x) 84) := ⟨_, rfl⟩
  obtain ⟨w2, hw2⟩ : ∃ w2, w2 = w1.alloc (.cells #[.slice none 0 0, .int .i64 0, .int .i64 0, .int .i64 0, .slice none 0 0, .slice none 0 0, .slice none 0 0, .slice none 0 0, .slice none 0 0] 84) := ⟨_, rfl⟩
  have hb1 : Below w.heap.size w w1 := by rw [hw1]; exact bl.alloc (Nat.le_refl _) _
  have hb2 : Below w1.heap.size w1 w2 := by rw [hw2]; exact bl.alloc (Nat.le_refl _) _
  have hz1 : w1.heap.size = w.heap.size + 1 := by rw [hw1]; simp
  have hz2 : w2.heap.size = w.heap.size + 2 := by rw [hw2]; simp; omega
  obtain ⟨g, hg⟩ : ∃ g, g = w.heap.size := ⟨_, rfl⟩
  have HA : Hid (RRow w2 g s x) := by
    have h : RRow w1 g s x := by show _ = _; rw [hw1, hg]; exact heap_alloc_new w _
    exact RRow.below h hb2
  have HZ : Hid (w2.heap[g + 1]? = some (.cells #[.slice none 0 0, .int .i64 0, .int .i64 0, .int .i64 0, .slice none 0 0, .slice none 0 0, .slice none 0 0, .slice none 0 0, .slice none 0 0] 84 (0, 0))) := by show _ = _; rw [hw2, hg, ← hz1]; exact heap_alloc_new w1 _
  have HW : Hid (Below w.heap.size w w2) := nx hb1 hb2
  have HI : Hid (∀ u, Below w.heap.size w u → RIn (ltS u) u s x) := fun u hu => (hx.below hu hS).mono (fun k hk => Nat.lt_of_lt_of_le (hS k hk) hu.size)
  have HL := Lib.hid hL
  have HN := Lib.hid hn
  have HGE := Lib.hid hg
  have HS2 := Lib.hid hz2
  have hg1 : w1.heap.size = g + 1 := by omega
  unfold rrV
  unfold rrCells at hw1 ⊢
  clear hx hS hL hn hb1 hb2 hz1 hz2
  go_enter Try.func178, Try.ntmps178
  go_upto_region 1 with (fail)
  rw [← hw1, ← hw2]
  clear hw1 hw2
  clear hg1
  first | rw [← hg] | skip
  clear hg
  have hS3 : RRow w2.drew g s x := HA.out
  refine wp_region_any (by kernel_rfl) ?_
  change wpAny _ _ _ _ _ _ _ (World.drew w2)
  refine wpAny_of_P (S := fun W => RRow W g s x) (dem := fun j => decide (j ≤ 5)) _ _ _ _ ?_
  refine wpAnyP_take (i := 0) (v := .pointer (some ⟨g, 0, none⟩)) rfl (by kernel_rfl) (by kernel_rfl) (by kernel_rfl) (by kernel_rfl) (by kernel_rfl) (fun _ _ _ h => h) (Or.inl ⟨by kernel_rfl, by (intro W hW; go_simp)⟩) hS3 ?_
  refine wpAnyP_take (i := 1) (v := .slice s.A x.name.length s.c) rfl (by kernel_rfl) (by kernel_rfl) (by kernel_rfl) (by kernel_rfl) (by kernel_rfl) (fun _ _ _ h => h) (Or.inl ⟨by kernel_rfl, by (intro W hW; have c0 := hW.cells; obtain ⟨x0, x1, x2, x3, x4, x5, x6, x7, x8⟩ := c0; go_simp)⟩) hS3 ?_
  refine wpAnyP_take (i := 3) (v := .pointer (some ⟨g, 4, none⟩)) rfl (by kernel_rfl) (by kernel_rfl) (by kernel_rfl) (by kernel_rfl) (by kernel_rfl) (fun _ _ _ h => h) (Or.inl ⟨by kernel_rfl, by (intro W hW; go_simp)⟩) hS3 ?_
  refine wpAnyP_take (i := 4) (v := .agg #[.slice s.d.A0 x.data.bytes.length s.d.c0, .slice s.d.A1 x.data.host.length s.d.c1, .slice s.d.A2 x.data.mail.length s.d.c2, .slice s.d.A3 x.data.nums.length s.d.c3, .slice s.d.A4 x.data.texts.length s.d.c4]) rfl (by kernel_rfl) (by kernel_rfl) (by kernel_rfl) (by kernel_rfl) (by kernel_rfl) (fun _ _ _ h => h) (Or.inl ⟨by kernel_rfl, by (intro W hW; have c0 := hW.cells; obtain ⟨x0, x1, x2, x3, x4, x5, x6, x7, x8⟩ := c0; go_simp)⟩) hS3 ?_
  refine wpAnyP_one (i := 2) rfl (by kernel_rfl) fun K hK => ?_
  go_simp
  refine (cloneS_any s.A x.name.length s.c x.name w2.drew (HI.out w2.drew HW.out.drew).n HN.out).mono ?_
  rintro e w3 ⟨v3, rfl, ho3, hb3⟩
  obtain ⟨A3, c3, rfl, _⟩ := OwnE.form ho3
  have HE3 := Lib.hid (ownE_ls ho3 rfl)
  have HB3 : Hid (Below w2.drew.heap.size w2.drew w3) := hb3
  have HW3 : Hid (Below w.heap.size w w3) := nx HW.out.drew hb3
  have hS4 : RRow w3 g s x := RRow.below (w := w2.drew) hS3 hb3
  refine hK _ _ (fun _ => hS4) ?_
  clear hK ho3 hb3
  refine wpAnyP_pure (i := 6) (v := .pointer (some ⟨g, 0, none⟩)) rfl (by kernel_rfl) (by kernel_rfl) (by kernel_rfl) (by kernel_rfl) (fun _ _ _ h => h) (Or.inl ⟨by kernel_rfl, by (intro W hW; go_simp)⟩) (fun _ => hS4) ?_
  refine wpAnyP_one (i := 5) rfl (by kernel_rfl) fun K hK => ?_
  go_simp
  refine (pown_got s.d x.data w3 (HI.out w3 HW3.out).d (fun b hb => hb) HL.out).mono ?_
  rintro e w4 ⟨v4, rfl, ⟨s4, rfl, hd4⟩, hb4⟩
  have HD4 := Lib.hid hd4.ls
  have HB4 := Lib.hid hb4
  have HA4 : Hid (RRow w4 g s x) := RRow.below hS4 hb4
  have HW4 : Hid (Below w.heap.size w w4) := nx HW3.out hb4
  refine hK _ _ (fun _ => HA4.out) ?_
  clear hK hd4 hb4
  have x0 : w4.cell? ⟨g, 0, none⟩ = some (.slice s.A x.name.length s.c) := HA4.out.cells.1
  have f0 : w4.frozen? ⟨g, 0, none⟩ = false := RRow.free HA4.out 0
  obtain ⟨w5, hw5⟩ : ∃ w5, w5 = w4.setCell ⟨g, 0, none⟩ (.slice A3 x.name.length c3) := ⟨_, rfl⟩
  have HA5 : Hid (RRow w5 g ⟨A3, c3, s.d⟩ x) := by show RRow _ _ _ _; rw [hw5]; exact RRow.put HA4.out 0 _ _ _ rfl
  have HW5 := Lib.hid hw5
  refine wpAnyP_one (i := 7) rfl (by kernel_rfl) fun K hK => ?_
  go_simp
  refine hK _ (w4.setCell ⟨g, 0, none⟩ (.slice A3 x.name.length c3)) (fun h => absurd h (by rw [show needS _ _ _ = false from by kernel_rfl]; decide)) ?_
  clear hK hw5 x0 f0
  rw [← HW5.out]
  refine wpAnyP_one (i := 8) rfl (by kernel_rfl) fun K hK => ?_
  go_simp
  refine hK _ _ (fun h => absurd h (by rw [show needS _ _ _ = false from by kernel_rfl]; decide)) ?_
  clear hK
  obtain ⟨x0, x1, x2, x3, x4, x5, x6, x7, x8⟩ := HA5.out.cells
  have kf : ∀ j, w5.frozen? ⟨g, j, none⟩ = false := fun j => RRow.free HA5.out j
  obtain ⟨w6, hw6⟩ : ∃ w6, w6 = (((((w5.setCell ⟨g, 4, none⟩ (.slice s4.A0 x.data.bytes.length s4.c0)).setCell ⟨g, 5, none⟩ (.slice s4.A1 x.data.host.length s4.c1)).setCell ⟨g, 6, none⟩ (.slice s4.A2 x.data.mail.length s4.c2)).setCell ⟨g, 7, none⟩ (.slice s4.A3 x.data.nums.length s4.c3)).setCell ⟨g, 8, none⟩ (.slice s4.A4 x.data.texts.length s4.c4)) := ⟨_, rfl⟩
  have HA6 : Hid (RRow w6 g ⟨A3, c3, s4⟩ x) := by
    show RRow _ _ _ _
    rw [hw6]
    exact RRow.put (RRow.put (RRow.put (RRow.put (RRow.put HA5.out 4 _ ⟨A3, c3, { s.d with A0 := s4.A0, c0 := s4.c0 }⟩ x rfl) 5 _ ⟨A3, c3, { s.d with A0 := s4.A0, c0 := s4.c0, A1 := s4.A1, c1 := s4.c1 }⟩ x rfl) 6 _ ⟨A3, c3, { s.d with A0 := s4.A0, c0 := s4.c0, A1 := s4.A1, c1 := s4.c1, A2 := s4.A2, c2 := s4.c2 }⟩ x rfl) 7 _ ⟨A3, c3, { s.d with A0 := s4.A0, c0 := s4.c0, A1 := s4.A1, c1 := s4.c1, A2 := s4.A2, c2 := s4.c2, A3 := s4.A3, c3 := s4.c3 }⟩ x rfl) 8 _ ⟨A3, c3, s4⟩ x rfl
  have hC6 : Chg (fun k => k = g) w4 w6 := by
    rw [hw6, HW5.out]
    have k : ∀ {u : World} (j : Nat) (v : Value), Chg (fun k => k = g) w4 u → Chg (fun k => k = g) w4 (u.setCell ⟨g, j, none⟩ v) := fun j v h => h.setCell (p := ⟨g, j, none⟩) (Or.inl rfl) v
    exact k 8 _ (k 7 _ (k 6 _ (k 5 _ (k 4 _ (k 0 _ (Chg.refl _ w4))))))
  have HC6 := Lib.hid hC6
  have HW6 := Lib.hid hw6
  clear hw6 hC6
  unfold dsV
  refine wpAnyP_one (i := 9) rfl (by kernel_rfl) fun K hK => ?_
  go_simp
  refine hK _ (((((w5.setCell ⟨g, 4, none⟩ (.slice s4.A0 x.data.bytes.length s4.c0)).setCell ⟨g, 5, none⟩ (.slice s4.A1 x.data.host.length s4.c1)).setCell ⟨g, 6, none⟩ (.slice s4.A2 x.data.mail.length s4.c2)).setCell ⟨g, 7, none⟩ (.slice s4.A3 x.data.nums.length s4.c3)).setCell ⟨g, 8, none⟩ (.slice s4.A4 x.data.texts.length s4.c4)) (fun h => absurd h (by rw [show needS _ _ _ = false from by kernel_rfl]; decide)) ?_
  clear hK x0 x1 x2 x3 x4 x5 x6 x7 x8 kf
  rw [← HW6.out]
  refine wpAnyP_done (by kernel_rfl) ?_ _
  have HZ6 : Hid (w6.heap[g + 1]? = some (.cells #[.slice none 0 0, .int .i64 0, .int .i64 0, .int .i64 0, .slice none 0 0, .slice none 0 0, .slice none 0 0, .slice none 0 0, .slice none 0 0] 84 (0, 0))) := by
    have h4 : w4.heap[g + 1]? = w2.heap[g + 1]? := ((nx (w := w2.drew) HB3.out HB4.out).block (g + 1) (Array.getElem?_eq_some_iff.1 HZ.out).1)
    exact (HC6.out.block (g + 1) (by have h1 := (Array.getElem?_eq_some_iff.1 HZ.out).1; have h2 := (nx (w := w2.drew) HB3.out HB4.out).size; exact Nat.lt_of_lt_of_le h1 h2) (by omega)).trans (h4.trans HZ.out)
  obtain ⟨w7, hw7⟩ : ∃ w7, w7 = w6.setRow (g + 1) (rrCells ⟨A3, c3, s4⟩ x) := ⟨_, rfl⟩
  go_wp2_with (first
    | ((with_reducible show wpList _ _ _ (⟨some 11, _, _, _, _, _⟩ :: _) _ _); refine wpL_loadR rowRR rfl (.tmp 1) rfl g rfl (rrCells ⟨A3, c3, s4⟩ x) HA6.out rfl ?_)
    | ((with_reducible show wpList _ _ _ (⟨none, _, _, _, _, _⟩ :: _) _ _); refine wpL_storeR rowRR rfl (.tmp 2) (.tmp 11) rfl (g + 1) rfl (rrCells ⟨A3, c3, s4⟩ x) rfl _ HZ6.out rfl rfl (rr_one _ _) ?_; intro w9 hr9 hc9)
    | fail)
  have HR9 := Lib.hid hr9
  have HC9 := Lib.hid hc9
  have hin : RIn (lsS w.heap.size w9) w9 ⟨A3, c3, s4⟩ x := by
    have hge := HGE.out
    have h3 : w.heap.size + 2 ≤ w3.heap.size := by have h1 := HB3.out.size; have h2 := HS2.out; have h4 : w2.drew.heap.size = w2.heap.size := rfl; omega
    have h0 : w.heap.size + 2 ≤ w2.drew.heap.size := by have h2 := HS2.out; have h4 : w2.drew.heap.size = w2.heap.size := rfl; omega
    have hn4 : Els encS (lsS w2.drew.heap.size w3) (lsS w2.drew.heap.size w3) w4 A3 x.name.length x.name := HE3.out.1.below HB4.out (fun b hb => hb.2.1) (fun b hb => hb.2.1)
    have hk : ∀ b, w2.drew.heap.size ≤ b → b < w4.heap.size → w9.heap[b]? = w4.heap[b]? := fun b h1 h2 => (HC9.out.block b (Nat.lt_of_lt_of_le h2 HC6.out.size) (by omega)).trans (HC6.out.block b h2 (by omega))
    have hs9 : w4.heap.size ≤ w9.heap.size := Nat.le_trans HC6.out.size HC9.out.size
    have k1 : ∀ b, lsS w2.drew.heap.size w3 b → lsS w.heap.size w9 b := fun b hb => by
      have e1 : w4.heap[b]? = w3.heap[b]? := HB4.out.block b hb.2.1
      have hb4 : b < w4.heap.size := Nat.lt_of_lt_of_le hb.2.1 HB4.out.size
      exact ⟨by have := hb.1; omega, Nat.lt_of_lt_of_le hb4 hs9, hb.2.2.keep ((hk b hb.1 hb4).trans e1)⟩
    have k2 : ∀ b, lsS w3.heap.size w4 b → lsS w.heap.size w9 b := fun b hb => by
      have h5 : w2.drew.heap.size ≤ w3.heap.size := HB3.out.size
      exact ⟨by have := hb.1; omega, Nat.lt_of_lt_of_le hb.2.1 hs9, hb.2.2.keep (hk b (Nat.le_trans h5 hb.1) hb.2.1)⟩
    have hi2 := HI.out w2 HW.out
    refine ⟨(hn4.keep (fun b hb => hk b hb.1 (Nat.lt_of_lt_of_le hb.2.1 HB4.out.size)) (fun b hb => hk b hb.1 (Nat.lt_of_lt_of_le hb.2.1 HB4.out.size))).mono k1 k1, HE3.out.2, (HD4.out.keep (fun b hb => hk b (Nat.le_trans HB3.out.size hb.1) hb.2.1)).mono k2, hi2.it, hi2.ic, hi2.il⟩
  refine bodyPost_ret (v := rrV ⟨A3, c3, s4⟩ x) ?_ rfl ⟨_, rfl, ⟨_, rfl, hin⟩, ?_⟩
  · exact res_row rowRR Try.results178 _ _ (g + 1) _ rfl rfl HR9.out
  · have h6 : Below w.heap.size w w6 := HW4.out.trans (HC6.out.below (fun b hb => by have := HGE.out; omega) HW4.out.size)
    exact h6.trans (HC9.out.below (fun b hb => by have := HGE.out; omega) h6.size)
end Go.Proofs.Ytimkdpkhdbiniaa

/- Zone.of: the records of a name and a type (printed by gen/zn3.py). -/
namespace Go.Proofs.Ytimkdpkhdbiniaa
open Go.RowKit
set_option maxRecDepth 100000
set_option linter.unusedVariables false

/-- Records whose rows lie from B on and may be written into. -/
def encRRL (B : Nat) : Enc RR where
  size := 9
  R := fun S w r x => ∃ s, r = (rrCells s x).toList ∧ RIn (fun b => S b ∧ B ≤ b ∧ Loose w b) w s x
  pos := by decide
  len := by rintro _ _ r x ⟨s, rfl, _⟩; rfl
  mono := by rintro S S' w r x hS ⟨s, rfl, h⟩; exact ⟨s, rfl, h.mono (fun b hb => ⟨hS b hb.1, hb.2⟩)⟩
  keep := by
    rintro S w w' r x hS ⟨s, rfl, h⟩
    exact ⟨s, rfl, (h.keep (fun b hb => hS b hb.1)).mono (fun b hb => ⟨hb.1, hb.2.1, hb.2.2.keep (hS b hb.1)⟩)⟩
  one := by
    rintro S w r x ⟨s, rfl, _⟩ u hu
    simp [rrCells] at hu
    rcases hu with rfl | rfl | rfl | rfl | rfl | rfl | rfl | rfl | rfl <;> rfl
theorem elRRL (B : Nat) : ElT Try.prog 29 84 (encRRL B) 168 := ElT.mk Try.underlying29 (.agg #[.slice none 0 0, .int .i64 0, .int .i64 0, .int .i64 0, .slice none 0 0, .slice none 0 0, .slice none 0 0, .slice none 0 0, .slice none 0 0]) 9 (by kernel_rfl) rfl rfl
/-- A row of such records, the call's own. -/
def LsE (B : Nat) (w : World) (v : Value) (xs : List RR) : Prop := ∃ S, OwnE (encRRL B) 84 S w B v xs
theorem LsE.below {B : Nat} {w w' : World} {v : Value} {xs : List RR} (h : LsE B w v xs) (hb : Below w.heap.size w w') : LsE B w' v xs := by
  obtain ⟨S, ho⟩ := h
  exact ⟨S, ho.below hb⟩
def LightR (r : RR) : Prop := LightB r.data ∧ r.name.length ≤ 8796093022208
/-- Is a record of a name and a type? -/
def selB (ns : List (List UInt8)) (k : Int) (r : RR) : Bool := (decide (k = 255) || decide (r.type = k)) && decide (lowN r.name = lowN ns)
def ofP (rs : List RR) (ns : List (List UInt8)) (k : Int) : List RR := rs.filter (selB ns k)
theorem ofP_take {rs : List RR} {ns : List (List UInt8)} {k : Int} {j : Nat} {r : RR} (h : rs[j]? = some r) : ofP (rs.take (j + 1)) ns k = if selB ns k r = true then ofP (rs.take j) ns k ++ [r] else ofP (rs.take j) ns k := by
  unfold ofP
  rw [List.take_add_one, h, Option.toList_some, List.filter_append]
  cases hs : selB ns k r <;> simp [hs]
theorem ofP_len (rs : List RR) (ns : List (List UInt8)) (k : Int) (j : Nat) : (ofP (rs.take j) ns k).length ≤ j := by
  unfold ofP
  have h1 := List.length_filter_le (selB ns k) (rs.take j)
  rw [List.length_take] at h1
  omega

set_option maxHeartbeats 8000000 in
theorem of_any (zA RA : Option Addr) (zn zc rn rc : Nat) (rs : List RR) (A' : Option Addr) (n' c' : Nat) (ns : List (List UInt8)) (kd : Int) (w : World) (h : RdE encRR w RA rn rs) (hns : RdE encS w A' n' ns) (hn : rn ≤ 1000000) (hn' : n' ≤ maxLen) (hL : ∀ r ∈ rs, LightR r) :
    Calls Try.prog 140 #[.agg #[.slice zA zn zc, .slice RA rn rc], .slice A' n' c', .int .i64 kd] w (RetP (fun v w' => LsE w.heap.size w' v (ofP rs ns kd)) w) := by
  have hl := h.len
  subst hl
  obtain ⟨w1, hw1⟩ : ∃ w1, w1 = w.alloc (.cells #[.slice zA zn zc, .slice RA rs.length rc] 75) := ⟨_, rfl⟩
  have hb1 : Below w.heap.size w w1 := by rw [hw1]; exact bl.alloc (Nat.le_refl _) _
  have z1 : w1.cell? ⟨w.heap.size, 1, none⟩ = some (.slice RA rs.length rc) := by rw [hw1]; exact new_cell w _ _ 1
  have H := Lib.hid h
  have HN := Lib.hid hns
  have HL := Lib.hid hL
  have HM := Lib.hid hn'
  have HB1 := Lib.hid hb1
  have HRN := Lib.hid hn
  clear h hns hL hn' hb1
  go_enter Try.func140, Try.ntmps140
  go_upto_region 2 with (fail)
  rw [← hw1]
  clear hw1
  go_upto_region 3 with (fail)
  clear z1
  go_loopw [7, 13] (fun ov iv wr => ∃ k : Nat, iv = .int .i64 (k : Int) ∧ k ≤ rs.length ∧ Hid (LsE w.heap.size wr ov (ofP (rs.take k) ns kd)) ∧ Hid (Below w.heap.size w wr)) (fun _ iv _ => rs.length - (intOf iv).toNat)
  case atStart => exact ⟨0, rfl, Nat.zero_le _, ⟨noS, OwnE.nil _ _ _ _⟩, HB1⟩
  case round =>
    obtain ⟨k, rfl, hk, HOWN, HBW⟩ := hrel
    by_cases hlt : k < rs.length
    rotate_left
    · have hkl : k = rs.length := by omega
      have hlt' : ¬ (k : Int) < (rs.length : Int) := by omega
      rw [hkl, List.take_length] at HOWN
      clear hkl hlt
      go_wp2
      go_ret
      exact ⟨_, rfl, HOWN.out, HBW.out⟩
    have hlt' : (k : Int) < (rs.length : Int) := by omega
    obtain ⟨r, hr⟩ : ∃ r, rs[k]? = some r := ⟨_, List.getElem?_eq_getElem hlt⟩
    have HLR := Lib.hid (HL.out r (List.mem_of_getElem? hr))
    obtain ⟨b, off, s, hA, hb0, hri, hrc⟩ := rr_at H.out hr
    have HEQ := Lib.hid (ofP_take (ns := ns) (k := kd) hr)
    have HRI := Lib.hid hri
    have hAA := Lib.hid hA
    rw [hA]
    have hpl : (ofP (rs.take k) ns kd).length ≤ k := ofP_len rs ns kd k
    have HPL := Lib.hid hpl
    obtain ⟨d0, d1, d2, d3, d4, d5, d6, d7, d8⟩ := hrc.below HBW.out
    obtain ⟨w2, hw2⟩ : ∃ w2, w2 = wr.alloc (.cells #[.slice s.A r.name.length s.c, .int .i64 r.type, .int .i64 r.cls, .int .i64 r.ttl, .slice s.d.A0 r.data.bytes.length s.d.c0, .slice s.d.A1 r.data.host.length s.d.c1, .slice s.d.A2 r.data.mail.length s.d.c2, .slice s.d.A3 r.data.nums.length s.d.c3, .slice s.d.A4 r.data.texts.length s.d.c4] 84) := ⟨_, rfl⟩
    obtain ⟨g, hg⟩ : ∃ g, g = wr.heap.size := ⟨_, rfl⟩
    have hb2 : Below wr.heap.size wr w2 := by rw [hw2]; exact bl.alloc (Nat.le_refl _) _
    have HR2 : Hid (RRow w2 g s r) := by show RRow _ _ _ _; rw [hw2, hg]; exact heap_alloc_new wr _
    have HB2 := Lib.hid hb2
    clear hr hri hrc hA hb0 hb2 hpl
    generalize ofP (rs.take k) ns kd = p at HOWN HEQ HPL ⊢
    go_upto_region 5 with (fail)
    rw [← hw2]
    clear hw2 d0 d1 d2 d3 d4 d5 d6 d7 d8
    rw [← hg]
    clear hg
    have HW2 := Lib.hid (nx HBW.out HB2.out)
    have HI2 := Lib.hid (HRI.out.below HW2.out (fun b hb => hb))
    have HLS : Hid (∀ b, ltS w b → b < w2.heap.size) := fun b (hb : b < w.heap.size) => Nat.lt_of_lt_of_le hb HW2.out.size
    obtain ⟨x0, x1, x2, x3, x4, x5, x6, x7, x8⟩ := HR2.out.cells
    have HEN := Lib.hid (nequal_any s.A A' r.name.length s.c n' c' r.name ns w2 (HI2.out.n.mono HLS.out HLS.out) (HN.out.below HW2.out) (Nat.le_trans HI2.out.cn.1 HI2.out.cn.2) HM.out)
    by_cases h255 : kd = 255
    · subst h255
      by_cases he : lowN r.name = lowN ns
      rotate_left
      · have HNO : Hid ((if selB ns 255 r = true then p ++ [r] else p) = p) := if_neg (by unfold selB; rw [decide_eq_false he, Bool.and_false]; simp)
        rw [decide_eq_false he] at HEN
        clear he
        go_wp2_with (go_at_call 55; refine HEN.out.mono ?_; rintro e w3 ⟨v3, rfl, rfl, hb3⟩; have HB3 := Lib.hid hb3; clear hb3)
        go_roundw
        case rel => exact ⟨k + 1, by go_num, by omega, by rw [HEQ.out, HNO.out]; exact HOWN.out.below (nx HB2.out HB3.out), nx HBW.out (nx HB2.out HB3.out)⟩
        case measure => simp [intOf]; omega
      have HYES : Hid ((if selB ns 255 r = true then p ++ [r] else p) = p ++ [r]) := if_pos (by unfold selB; rw [decide_eq_true he]; simp)
      rw [decide_eq_true he] at HEN
      clear he
      go_wp2_with (first
        | ((with_reducible show wpList _ _ _ (⟨some 35, _, _, _, _, _⟩ :: _) _ _); refine wpL_pushE (elRRL w.heap.size) rfl (.tmp 31) (.tmp 34) rfl w.heap.size _ p rfl hown _ r hrow ?hS rfl ?hb ?hl ?hbase ?_; rotate_right; intro v5 w5 hown5 hg5 hat5)
        | (go_at_call 178; refine (zown_any s r w3 (HI2.out.below hb3 HLS.out) (fun b hb => Nat.lt_of_lt_of_le (HLS.out b hb) hb3.size) HLR.out.1 HLR.out.2).mono ?_; rintro e w4 ⟨v4, rfl, ⟨s4, rfl, hi4⟩, hb4⟩; unfold rrV rrCells; obtain ⟨S, hoS⟩ := HOWN.out; have hb04 := nx (nx HB2.out hb3) hb4; have hown := OwnE.below hoS hb04; have hlto := hoS.lt; have hbz : w.heap.size ≤ w3.heap.size := (nx HW2.out hb3).size; have hz3 : wr.heap.size ≤ w3.heap.size := (nx HB2.out hb3).size; have hbase0 := HBW.out.size; have hrow : (encRRL w.heap.size).R (lsS w3.heap.size w4) w4 [.slice s4.A r.name.length s4.c, .int .i64 r.type, .int .i64 r.cls, .int .i64 r.ttl, .slice s4.d.A0 r.data.bytes.length s4.d.c0, .slice s4.d.A1 r.data.host.length s4.d.c1, .slice s4.d.A2 r.data.mail.length s4.d.c2, .slice s4.d.A3 r.data.nums.length s4.d.c3, .slice s4.d.A4 r.data.texts.length s4.d.c4] r := ⟨s4, rfl, hi4.mono (fun b hb => ⟨hb, Nat.le_trans hbz hb.1, hb.2.2⟩)⟩)
        | (go_at_call 55; refine HEN.out.mono ?_; rintro e w3 ⟨v3, rfl, rfl, hb3⟩; obtain ⟨y0, y1, y2, y3, y4, y5, y6, y7, y8⟩ := (HR2.out.below hb3).cells)
        | fail)
      · go_roundw
        case rel => exact ⟨k + 1, by go_num, by omega, by rw [HEQ.out, HYES.out]; exact ⟨_, hown5⟩, (nx HBW.out hb04).grown hg5 (by have := hb04.size; omega) (fun j hj => (hown.lt j hj).1)⟩
        case measure => simp [intOf]; omega
      case hS =>
        intro b hb
        refine ⟨hb.2.1, fun he => ?_⟩
        have := (hlto b he.symm).2
        have := hb.1
        omega
      case hb => have := HPL.out; have := HRN.out; omega
      case hl => have := HPL.out; have := HRN.out; unfold maxLen; omega
      case hbase => have := hb04.size; omega
    have h255' : (kd == 255) = false := beq_eq_false_iff_ne.2 h255
    by_cases ht : r.type = kd
    rotate_left
    · have ht' : (r.type == kd) = false := beq_eq_false_iff_ne.2 ht
      have HNO : Hid ((if selB ns kd r = true then p ++ [r] else p) = p) := if_neg (by unfold selB; rw [decide_eq_false h255, decide_eq_false ht]; simp)
      clear h255 ht
      go_wp2
      go_roundw
      case rel => exact ⟨k + 1, by go_num, by omega, by rw [HEQ.out, HNO.out]; exact HOWN.out.below HB2.out, nx HBW.out HB2.out⟩
      case measure => simp [intOf]; omega
    have ht' : (r.type == kd) = true := beq_iff_eq.2 ht
    by_cases he : lowN r.name = lowN ns
    rotate_left
    · have HNO : Hid ((if selB ns kd r = true then p ++ [r] else p) = p) := if_neg (by unfold selB; rw [decide_eq_false he, Bool.and_false]; simp)
      rw [decide_eq_false he] at HEN
      clear he h255 ht
      go_wp2_with (go_at_call 55; refine HEN.out.mono ?_; rintro e w3 ⟨v3, rfl, rfl, hb3⟩; have HB3 := Lib.hid hb3; clear hb3)
      go_roundw
      case rel => exact ⟨k + 1, by go_num, by omega, by rw [HEQ.out, HNO.out]; exact HOWN.out.below (nx HB2.out HB3.out), nx HBW.out (nx HB2.out HB3.out)⟩
      case measure => simp [intOf]; omega
    have HYES : Hid ((if selB ns kd r = true then p ++ [r] else p) = p ++ [r]) := if_pos (by unfold selB; rw [decide_eq_true he, decide_eq_true ht]; simp)
    rw [decide_eq_true he] at HEN
    clear he h255 ht
    go_wp2_with (first
      | ((with_reducible show wpList _ _ _ (⟨some 35, _, _, _, _, _⟩ :: _) _ _); refine wpL_pushE (elRRL w.heap.size) rfl (.tmp 31) (.tmp 34) rfl w.heap.size _ p rfl hown _ r hrow ?hS rfl ?hb ?hl ?hbase ?_; rotate_right; intro v5 w5 hown5 hg5 hat5)
      | (go_at_call 178; refine (zown_any s r w3 (HI2.out.below hb3 HLS.out) (fun b hb => Nat.lt_of_lt_of_le (HLS.out b hb) hb3.size) HLR.out.1 HLR.out.2).mono ?_; rintro e w4 ⟨v4, rfl, ⟨s4, rfl, hi4⟩, hb4⟩; unfold rrV rrCells; obtain ⟨S, hoS⟩ := HOWN.out; have hb04 := nx (nx HB2.out hb3) hb4; have hown := OwnE.below hoS hb04; have hlto := hoS.lt; have hbz : w.heap.size ≤ w3.heap.size := (nx HW2.out hb3).size; have hz3 : wr.heap.size ≤ w3.heap.size := (nx HB2.out hb3).size; have hbase0 := HBW.out.size; have hrow : (encRRL w.heap.size).R (lsS w3.heap.size w4) w4 [.slice s4.A r.name.length s4.c, .int .i64 r.type, .int .i64 r.cls, .int .i64 r.ttl, .slice s4.d.A0 r.data.bytes.length s4.d.c0, .slice s4.d.A1 r.data.host.length s4.d.c1, .slice s4.d.A2 r.data.mail.length s4.d.c2, .slice s4.d.A3 r.data.nums.length s4.d.c3, .slice s4.d.A4 r.data.texts.length s4.d.c4] r := ⟨s4, rfl, hi4.mono (fun b hb => ⟨hb, Nat.le_trans hbz hb.1, hb.2.2⟩)⟩)
      | (go_at_call 55; refine HEN.out.mono ?_; rintro e w3 ⟨v3, rfl, rfl, hb3⟩; obtain ⟨y0, y1, y2, y3, y4, y5, y6, y7, y8⟩ := (HR2.out.below hb3).cells)
      | fail)
    · go_roundw
      case rel => exact ⟨k + 1, by go_num, by omega, by rw [HEQ.out, HYES.out]; exact ⟨_, hown5⟩, (nx HBW.out hb04).grown hg5 (by have := hb04.size; omega) (fun j hj => (hown.lt j hj).1)⟩
      case measure => simp [intOf]; omega
    case hS =>
      intro b hb
      refine ⟨hb.2.1, fun he => ?_⟩
      have := (hlto b he.symm).2
      have := hb.1
      omega
    case hb => have := HPL.out; have := HRN.out; omega
    case hl => have := HPL.out; have := HRN.out; unfold maxLen; omega
    case hbase => have := hb04.size; omega
end Go.Proofs.Ytimkdpkhdbiniaa
