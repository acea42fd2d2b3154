/- Parts of a proof, joined: Law17C. -/
import Derived.Test.YtimkdpkhdbiniaaZCDZ13
import Derived.Test.YtimkdpkhdbiniaaZCDZ11
import Derived.Test.YtimkdpkhdbiniaaZCDM02c
import Derived.Test.YtimkdpkhdbiniaaZCDM23r
/- ZoneCases: the law's walk (printed by gen/law17c.py). -/
namespace Go.Proofs.Ytimkdpkhdbiniaa
open Go.RowKit
set_option maxRecDepth 100000
set_option linter.unusedVariables false

/-- The question with capital letters, some of its labels. -/
structure UpSt (w5 wr : World) (ub B : Nat) (ty cl : Int) (qs : List (List UInt8)) (Au : Option Addr) (cu k : Nat) : Prop where
  row : wr.heap[ub]? = some (.cells #[.slice Au k cu, .int .i64 ty, .int .i64 cl] 25 (0, 0))
  own : OwnS wr B (.slice Au k cu) ((qs.take k).map upL)
  C : Chg (fun z => z = ub ∨ B ≤ z) w5 wr
  lt : ub < B ∧ B ≤ w5.heap.size
theorem UpSt.below {w5 wr w' : World} {ub B : Nat} {ty cl : Int} {qs : List (List UInt8)} {Au : Option Addr} {cu k : Nat} (h : UpSt w5 wr ub B ty cl qs Au cu k) (hb : Below wr.heap.size wr w') : UpSt w5 w' ub B ty cl qs Au cu k :=
  ⟨(hb.block ub (Array.getElem?_eq_some_iff.1 h.row).1).trans h.row, h.own.below hb, h.C.trans (Chg.of_below (F := fun _ => False) hb) (fun _ h => h.elim), h.lt⟩
theorem ownS_in {S : Nat → Prop} {w : World} {B : Nat} {v : Value} {xs : List (List UInt8)} (h : OwnE encS 9 S w B v xs) : OwnS w B v xs := by
  obtain ⟨cells, h1, h2, h3⟩ := h
  exact ⟨cells, h1, h2, fun b hb => hb.elim⟩
theorem str_len {So Si : Nat → Prop} {w : World} {A : Option Addr} {n : Nat} {ns : List (List UInt8)} (h : Els encS So Si w A n ns) {k : Nat} {x : List UInt8} (hx : ns[k]? = some x) : x.length ≤ maxLen := by
  obtain ⟨b, off, rfl, hb, hat⟩ := Els.flat h (by rw [← h.len]; exact Nat.lt_of_le_of_lt (Nat.zero_le k) (List.getElem?_eq_some_iff.1 hx).1)
  obtain ⟨r, ⟨rfl, hl⟩, hc⟩ := hat k x hx
  exact hl
theorem UpSt.push {w5 wr w6 : World} {ub B : Nat} {ty cl : Int} {qs : List (List UInt8)} {Au A' : Option Addr} {cu c' k L : Nat} {l : List UInt8} {S : Nat → Prop} (h : UpSt w5 wr ub B ty cl qs Au cu k) (hl : qs[k]? = some l) (ho : OwnE encS 9 S w6 B (.slice A' L c') ((qs.take k).map upL ++ [upL l])) (hg : wr.grownBy w6 (Value.slice Au k cu).ownBlock) (hL : L = k + 1) : UpSt w5 (w6.setCell ⟨ub, 0, none⟩ (.slice A' (k + 1) c')) ub B ty cl qs A' c' (k + 1) := by
  subst hL
  have hc6 : Chg (fun z => (Value.slice Au k cu).ownBlock = some z) wr w6 := (Chg.refl _ _).grown hg (fun k hk => .inl hk)
  have hc : Chg (fun z => z = ub) w6 (w6.setCell ⟨ub, 0, none⟩ (.slice A' (k + 1) c')) := chg_g1 _ _ _ _
  have hlt := OwnE.lt h.own
  have hlt2 := OwnE.lt ho
  have hub := h.lt.1
  have e : (qs.take (k + 1)).map upL = (qs.take k).map upL ++ [upL l] := by rw [List.take_add_one, hl, Option.toList_some, List.map_append]; rfl
  refine ⟨(heap_setCell_same _ _ _ _ _ _ (hc6.heap h.row (fun e => by have := (hlt ub e).1; omega))).trans rfl, ?_, (h.C.trans hc6 (fun z hz => .inl (.inr (hlt z hz).1))).trans hc (fun z hz => .inl (.inl hz)), h.lt⟩
  rw [e]
  exact (ownS_in ho).chg hc (fun b hb e => by have := (hlt2 b hb).1; omega) (fun b hb => hb.elim)
/-- What each operation of the region leaves. -/
def PsiC (zA RA qA : Option Addr) (zn zc rc qn qc : Nat) (zs : List (List UInt8)) (rs : List RR) (ty cl : Int) (Au : Option Addr) (cu : Nat) (Ma Mb : Ms) (qa qb : Qu) : Nat → Value → Nat → Nat → World → Prop
  | 0, v, _, _, _ => v = .agg #[.slice zA zn zc, .slice RA rs.length rc]
  | 1, v, lo, hi, u => ∃ A c R k, v = .agg #[.slice A zn c, .slice R rs.length k] ∧ ZIv lo hi u A zn c R rs.length k zs rs
  | 2, v, _, _, _ => v = .agg #[.slice qA qn qc, .int .i64 ty, .int .i64 cl]
  | 3, v, lo, hi, u => ∃ s, v = msV s Ma ∧ AIv lo hi u s Ma qa
  | 4, v, _, _, _ => v = .agg #[.slice zA zn zc, .slice RA rs.length rc]
  | 5, v, lo, hi, u => ∃ A c R k, v = .agg #[.slice A zn c, .slice R rs.length k] ∧ ZIv lo hi u A zn c R rs.length k zs rs
  | 6, v, _, _, _ => v = .agg #[.slice Au qn cu, .int .i64 ty, .int .i64 cl]
  | 7, v, lo, hi, u => ∃ s, v = msV s Mb ∧ AIv lo hi u s Mb qb
  | 8, v, lo, hi, u => v = .pointer (some ⟨lo, 0, none⟩) ∧ lo < hi ∧ MRow u lo MS.nil msNone
  | 9, v, lo, hi, u => v = .pointer (some ⟨lo, 0, none⟩) ∧ lo < hi ∧ MRow u lo MS.nil msNone
  | _, _, _, _, _ => True
theorem psiC_below {zA RA qA : Option Addr} {zn zc rc qn qc : Nat} {zs : List (List UInt8)} {rs : List RR} {ty cl : Int} {Au : Option Addr} {cu : Nat} {Ma Mb : Ms} {qa qb : Qu} (j : Nat) (v : Value) (lo hi : Nat) (w w' : World) (hh : hi ≤ w.heap.size) (hb : Below w.heap.size w w') (h : PsiC zA RA qA zn zc rc qn qc zs rs ty cl Au cu Ma Mb qa qb j v lo hi w) : PsiC zA RA qA zn zc rc qn qc zs rs ty cl Au cu Ma Mb qa qb j v lo hi w' := by
  have k : ∀ b, btS lo hi b → w'.heap[b]? = w.heap[b]? := fun b hb' => hb.block b (Nat.lt_of_lt_of_le hb'.2 hh)
  match j, h with
  | 0, h => exact h
  | 1, h => obtain ⟨A, c, R, m, e, h⟩ := h; exact ⟨A, c, R, m, e, h.keep k⟩
  | 2, h => exact h
  | 3, h => obtain ⟨s, e, h⟩ := h; exact ⟨s, e, h.keep k⟩
  | 4, h => exact h
  | 5, h => obtain ⟨A, c, R, m, e, h⟩ := h; exact ⟨A, c, R, m, e, h.keep k⟩
  | 6, h => exact h
  | 7, h => obtain ⟨s, e, h⟩ := h; exact ⟨s, e, h.keep k⟩
  | 8, h => exact ⟨h.1, h.2.1, h.2.2.below hb⟩
  | 9, h => exact ⟨h.1, h.2.1, h.2.2.below hb⟩
  | _ + 10, _ => trivial
set_option maxHeartbeats 4000000 in
theorem zZoneCases_heavy (zA RA qA : Option Addr) (zn zc rn rc qn qc : Nat) (zs qs : List (List UInt8)) (rs : List RR) (ty cl : Int) (w : World) (h : RdE encRR w RA rn rs) (hz : RdE encS w zA zn zs) (hq : RdE encS w qA qn qs) (hzc : zn ≤ zc ∧ zc ≤ maxLen) (hrc : rn ≤ rc ∧ rc ≤ maxLen) (hqc : qn ≤ qc ∧ qc ≤ maxLen) (hL : ltZ zs rs = false) :
    Calls Try.prog 12 #[.agg #[.slice zA zn zc, .slice RA rn rc], .agg #[.slice qA qn qc, .int .i64 ty, .int .i64 cl]] w (LawT w) := by
  have er := h.len
  subst er
  have eq := hq.len
  have ez := hz.len
  obtain ⟨w1, hw1⟩ : ∃ w1, w1 = w.alloc (.cells #[.slice zA zn zc, .slice RA rs.length rc] 75) := ⟨_, rfl⟩
  obtain ⟨w2, hw2⟩ : ∃ w2, w2 = w1.alloc (.cells #[.slice qA qn qc, .int .i64 ty, .int .i64 cl] 25) := ⟨_, rfl⟩
  obtain ⟨zb, hzb⟩ : ∃ g, g = w.heap.size := ⟨_, rfl⟩
  obtain ⟨qb, hqb⟩ : ∃ g, g = zb + 1 := ⟨_, rfl⟩
  have hb1 : Below w.heap.size w w1 := by rw [hw1]; exact bl.alloc (Nat.le_refl _) _
  have hb2 : Below w1.heap.size w1 w2 := by rw [hw2]; exact bl.alloc (Nat.le_refl _) _
  have hs1 : w1.heap.size = qb := by rw [hqb, hzb, hw1]; simp
  have hs2 : w2.heap.size = zb + 2 := by rw [hw2]; simp; omega
  have hc0 : w2.cell? ⟨zb, 0, none⟩ = some (.slice zA zn zc) := below_cell hb2 (by rw [hw1, hzb]; exact new_cell w _ _ 0)
  have hc1 : w2.cell? ⟨zb, 1, none⟩ = some (.slice RA rs.length rc) := below_cell hb2 (by rw [hw1, hzb]; exact new_cell w _ _ 1)
  have hc2 : w2.cell? ⟨qb, 0, none⟩ = some (.slice qA qn qc) := by rw [hw2, ← hs1]; exact new_cell w1 _ _ 0
  have hc3 : w2.cell? ⟨qb, 1, none⟩ = some (.int .i64 ty) := by rw [hw2, ← hs1]; exact new_cell w1 _ _ 1
  have hc4 : w2.cell? ⟨qb, 2, none⟩ = some (.int .i64 cl) := by rw [hw2, ← hs1]; exact new_cell w1 _ _ 2
  have HC : Hid (∀ u, Below w2.heap.size w2 u → u.cell? ⟨zb, 0, none⟩ = some (.slice zA zn zc) ∧ u.cell? ⟨zb, 1, none⟩ = some (.slice RA rs.length rc) ∧ u.cell? ⟨qb, 0, none⟩ = some (.slice qA qn qc) ∧ u.cell? ⟨qb, 1, none⟩ = some (.int .i64 ty) ∧ u.cell? ⟨qb, 2, none⟩ = some (.int .i64 cl)) := fun u hu => ⟨below_cell hu hc0, below_cell hu hc1, below_cell hu hc2, below_cell hu hc3, below_cell hu hc4⟩
  have HB2 : Hid (Below w.heap.size w w2) := nx hb1 hb2
  have HS : Hid (zb = w.heap.size ∧ qb = zb + 1 ∧ w2.heap.size = zb + 2) := ⟨hzb, hqb, hs2⟩
  have HR : Hid (∀ u, Below w.heap.size w u → Els encRR (ltS w) (ltS w) u RA rs.length rs) := fun u hu => h.keep (fun b hb => hu.block b hb) (fun b hb => hu.block b hb)
  have HZ : Hid (∀ u, Below w.heap.size w u → Els encS (ltS w) (ltS w) u zA zn zs) := fun u hu => hz.keep (fun b hb => hu.block b hb) (fun b hb => hu.block b hb)
  have HQ : Hid (∀ u, Below w.heap.size w u → Els encS (ltS w) (ltS w) u qA qn qs) := fun u hu => hq.keep (fun b hb => hu.block b hb) (fun b hb => hu.block b hb)
  have HLI : Hid (∀ u, Below w2.heap.size w2 u → Calls Try.prog 39 #[.agg #[.slice zA zn zc, .slice RA rs.length rc]] u (RetP (fun v _ => v = .bool (ltZ zs rs)) u)) := fun u hu => lightZ_any zA RA zn zc rs.length rc zs rs u (HR.out u (nx HB2.out hu)) (fun b hb => Nat.lt_of_lt_of_le hb (nx HB2.out hu).size) ez hrc (Nat.le_trans hzc.1 hzc.2)
  have HLE : Hid (zs.length = zn ∧ qs.length = qn) := ⟨ez, eq⟩
  have HCC : Hid ((zn ≤ zc ∧ zc ≤ maxLen) ∧ (rs.length ≤ rc ∧ rc ≤ maxLen) ∧ (qn ≤ qc ∧ qc ≤ maxLen)) := ⟨hzc, hrc, hqc⟩
  rw [hL] at HLI
  clear h hL hz hq hzc hrc hqc eq ez hb1 hb2 hc0 hc1 hc2 hc3 hc4
  go_enter Try.func12, Try.ntmps12
  go_upto_region 1 with (fail)
  rw [← hw1]
  rw [← hw2]
  clear hw1 hw2
  rw [← hzb]
  rw [← hqb]
  clear hzb hqb hs1 hs2
  obtain ⟨x0, x1, x2, x3, x4⟩ := HC.out w2 bl
  go_wp2_with (first | (go_at_call 38; (with_reducible refine (answers17_any w4).mono ?_); rintro e w5 ⟨rfl, hb5⟩; have HB5 := Lib.hid hb5; clear hb5) | (go_at_call 39; (with_reducible refine (HLI.out w3 HB3.out).mono ?_); rintro e w4 ⟨v4, rfl, rfl, hb4⟩; have HB4 := Lib.hid hb4; obtain ⟨y0, y1, y2, y3, y4⟩ := HC.out w4 (nx HB3.out hb4); clear hb4) | (go_at_call 38; (with_reducible refine (answers17_any w2).mono ?_); rintro e w3 ⟨rfl, hb3⟩; have HB3 := Lib.hid hb3; obtain ⟨a0, a1, a2, a3, a4⟩ := HC.out w3 hb3; clear hb3) | fail)
  go_ret
  exact ⟨rfl, (nx (nx (nx HB2.out HB3.out) HB4.out) HB5.out)⟩
set_option maxHeartbeats 4000000 in
theorem zZoneCases_name (zA RA qA : Option Addr) (zn zc rn rc qn qc : Nat) (zs qs : List (List UInt8)) (rs : List RR) (ty cl : Int) (w : World) (h : RdE encRR w RA rn rs) (hz : RdE encS w zA zn zs) (hq : RdE encS w qA qn qs) (hzc : zn ≤ zc ∧ zc ≤ maxLen) (hrc : rn ≤ rc ∧ rc ≤ maxLen) (hqc : qn ≤ qc ∧ qc ≤ maxLen) (hL : ltZ zs rs = true) (hl : ¬ qn ≤ 130) :
    Calls Try.prog 12 #[.agg #[.slice zA zn zc, .slice RA rn rc], .agg #[.slice qA qn qc, .int .i64 ty, .int .i64 cl]] w (LawT w) := by
  have er := h.len
  subst er
  have eq := hq.len
  have ez := hz.len
  obtain ⟨w1, hw1⟩ : ∃ w1, w1 = w.alloc (.cells #[.slice zA zn zc, .slice RA rs.length rc] 75) := ⟨_, rfl⟩
  obtain ⟨w2, hw2⟩ : ∃ w2, w2 = w1.alloc (.cells #[.slice qA qn qc, .int .i64 ty, .int .i64 cl] 25) := ⟨_, rfl⟩
  obtain ⟨zb, hzb⟩ : ∃ g, g = w.heap.size := ⟨_, rfl⟩
  obtain ⟨qb, hqb⟩ : ∃ g, g = zb + 1 := ⟨_, rfl⟩
  have hb1 : Below w.heap.size w w1 := by rw [hw1]; exact bl.alloc (Nat.le_refl _) _
  have hb2 : Below w1.heap.size w1 w2 := by rw [hw2]; exact bl.alloc (Nat.le_refl _) _
  have hs1 : w1.heap.size = qb := by rw [hqb, hzb, hw1]; simp
  have hs2 : w2.heap.size = zb + 2 := by rw [hw2]; simp; omega
  have hc0 : w2.cell? ⟨zb, 0, none⟩ = some (.slice zA zn zc) := below_cell hb2 (by rw [hw1, hzb]; exact new_cell w _ _ 0)
  have hc1 : w2.cell? ⟨zb, 1, none⟩ = some (.slice RA rs.length rc) := below_cell hb2 (by rw [hw1, hzb]; exact new_cell w _ _ 1)
  have hc2 : w2.cell? ⟨qb, 0, none⟩ = some (.slice qA qn qc) := by rw [hw2, ← hs1]; exact new_cell w1 _ _ 0
  have hc3 : w2.cell? ⟨qb, 1, none⟩ = some (.int .i64 ty) := by rw [hw2, ← hs1]; exact new_cell w1 _ _ 1
  have hc4 : w2.cell? ⟨qb, 2, none⟩ = some (.int .i64 cl) := by rw [hw2, ← hs1]; exact new_cell w1 _ _ 2
  have HC : Hid (∀ u, Below w2.heap.size w2 u → u.cell? ⟨zb, 0, none⟩ = some (.slice zA zn zc) ∧ u.cell? ⟨zb, 1, none⟩ = some (.slice RA rs.length rc) ∧ u.cell? ⟨qb, 0, none⟩ = some (.slice qA qn qc) ∧ u.cell? ⟨qb, 1, none⟩ = some (.int .i64 ty) ∧ u.cell? ⟨qb, 2, none⟩ = some (.int .i64 cl)) := fun u hu => ⟨below_cell hu hc0, below_cell hu hc1, below_cell hu hc2, below_cell hu hc3, below_cell hu hc4⟩
  have HB2 : Hid (Below w.heap.size w w2) := nx hb1 hb2
  have HS : Hid (zb = w.heap.size ∧ qb = zb + 1 ∧ w2.heap.size = zb + 2) := ⟨hzb, hqb, hs2⟩
  have HR : Hid (∀ u, Below w.heap.size w u → Els encRR (ltS w) (ltS w) u RA rs.length rs) := fun u hu => h.keep (fun b hb => hu.block b hb) (fun b hb => hu.block b hb)
  have HZ : Hid (∀ u, Below w.heap.size w u → Els encS (ltS w) (ltS w) u zA zn zs) := fun u hu => hz.keep (fun b hb => hu.block b hb) (fun b hb => hu.block b hb)
  have HQ : Hid (∀ u, Below w.heap.size w u → Els encS (ltS w) (ltS w) u qA qn qs) := fun u hu => hq.keep (fun b hb => hu.block b hb) (fun b hb => hu.block b hb)
  have HLI : Hid (∀ u, Below w2.heap.size w2 u → Calls Try.prog 39 #[.agg #[.slice zA zn zc, .slice RA rs.length rc]] u (RetP (fun v _ => v = .bool (ltZ zs rs)) u)) := fun u hu => lightZ_any zA RA zn zc rs.length rc zs rs u (HR.out u (nx HB2.out hu)) (fun b hb => Nat.lt_of_lt_of_le hb (nx HB2.out hu).size) ez hrc (Nat.le_trans hzc.1 hzc.2)
  have HLE : Hid (zs.length = zn ∧ qs.length = qn) := ⟨ez, eq⟩
  have HCC : Hid ((zn ≤ zc ∧ zc ≤ maxLen) ∧ (rs.length ≤ rc ∧ rc ≤ maxLen) ∧ (qn ≤ qc ∧ qc ≤ maxLen)) := ⟨hzc, hrc, hqc⟩
  rw [hL] at HLI
  have h1d : decide ((130 : Int) < (qn : Int)) = true := decide_eq_true (by omega)
  clear h hL hl hz hq hzc hrc hqc eq ez hb1 hb2 hc0 hc1 hc2 hc3 hc4
  go_enter Try.func12, Try.ntmps12
  go_upto_region 1 with (fail)
  rw [← hw1]
  rw [← hw2]
  clear hw1 hw2
  rw [← hzb]
  rw [← hqb]
  clear hzb hqb hs1 hs2
  obtain ⟨x0, x1, x2, x3, x4⟩ := HC.out w2 bl
  go_wp2_with (first | (go_at_call 38; (with_reducible refine (answers17_any w4).mono ?_); rintro e w5 ⟨rfl, hb5⟩; have HB5 := Lib.hid hb5; clear hb5) | (go_at_call 39; (with_reducible refine (HLI.out w3 HB3.out).mono ?_); rintro e w4 ⟨v4, rfl, rfl, hb4⟩; have HB4 := Lib.hid hb4; obtain ⟨y0, y1, y2, y3, y4⟩ := HC.out w4 (nx HB3.out hb4); clear hb4) | (go_at_call 38; (with_reducible refine (answers17_any w2).mono ?_); rintro e w3 ⟨rfl, hb3⟩; have HB3 := Lib.hid hb3; obtain ⟨a0, a1, a2, a3, a4⟩ := HC.out w3 hb3; clear hb3) | fail)
  go_ret
  exact ⟨rfl, (nx (nx (nx HB2.out HB3.out) HB4.out) HB5.out)⟩
set_option maxHeartbeats 16000000 in
theorem zZoneCases_main (zA RA qA : Option Addr) (zn zc rn rc qn qc : Nat) (zs qs : List (List UInt8)) (rs : List RR) (ty cl : Int) (w : World) (h : RdE encRR w RA rn rs) (hz : RdE encS w zA zn zs) (hq : RdE encS w qA qn qs) (hzc : zn ≤ zc ∧ zc ≤ maxLen) (hrc : rn ≤ rc ∧ rc ≤ maxLen) (hqc : qn ≤ qc ∧ qc ≤ maxLen) (hty : -9223372036854775808 ≤ ty ∧ ty ≤ 9223372036854775807) (hcl : -9223372036854775808 ≤ cl ∧ cl ≤ 9223372036854775807) (hL : LtZ zs rs) (hl : qn ≤ 130) :
    Calls Try.prog 12 #[.agg #[.slice zA zn zc, .slice RA rn rc], .agg #[.slice qA qn qc, .int .i64 ty, .int .i64 cl]] w (LawT w) := by
  have er := h.len
  subst er
  have eq := hq.len
  have ez := hz.len
  obtain ⟨w1, hw1⟩ : ∃ w1, w1 = w.alloc (.cells #[.slice zA zn zc, .slice RA rs.length rc] 75) := ⟨_, rfl⟩
  obtain ⟨w2, hw2⟩ : ∃ w2, w2 = w1.alloc (.cells #[.slice qA qn qc, .int .i64 ty, .int .i64 cl] 25) := ⟨_, rfl⟩
  obtain ⟨zb, hzb⟩ : ∃ g, g = w.heap.size := ⟨_, rfl⟩
  obtain ⟨qb, hqb⟩ : ∃ g, g = zb + 1 := ⟨_, rfl⟩
  have hb1 : Below w.heap.size w w1 := by rw [hw1]; exact bl.alloc (Nat.le_refl _) _
  have hb2 : Below w1.heap.size w1 w2 := by rw [hw2]; exact bl.alloc (Nat.le_refl _) _
  have hs1 : w1.heap.size = qb := by rw [hqb, hzb, hw1]; simp
  have hs2 : w2.heap.size = zb + 2 := by rw [hw2]; simp; omega
  have hc0 : w2.cell? ⟨zb, 0, none⟩ = some (.slice zA zn zc) := below_cell hb2 (by rw [hw1, hzb]; exact new_cell w _ _ 0)
  have hc1 : w2.cell? ⟨zb, 1, none⟩ = some (.slice RA rs.length rc) := below_cell hb2 (by rw [hw1, hzb]; exact new_cell w _ _ 1)
  have hc2 : w2.cell? ⟨qb, 0, none⟩ = some (.slice qA qn qc) := by rw [hw2, ← hs1]; exact new_cell w1 _ _ 0
  have hc3 : w2.cell? ⟨qb, 1, none⟩ = some (.int .i64 ty) := by rw [hw2, ← hs1]; exact new_cell w1 _ _ 1
  have hc4 : w2.cell? ⟨qb, 2, none⟩ = some (.int .i64 cl) := by rw [hw2, ← hs1]; exact new_cell w1 _ _ 2
  have HC : Hid (∀ u, Below w2.heap.size w2 u → u.cell? ⟨zb, 0, none⟩ = some (.slice zA zn zc) ∧ u.cell? ⟨zb, 1, none⟩ = some (.slice RA rs.length rc) ∧ u.cell? ⟨qb, 0, none⟩ = some (.slice qA qn qc) ∧ u.cell? ⟨qb, 1, none⟩ = some (.int .i64 ty) ∧ u.cell? ⟨qb, 2, none⟩ = some (.int .i64 cl)) := fun u hu => ⟨below_cell hu hc0, below_cell hu hc1, below_cell hu hc2, below_cell hu hc3, below_cell hu hc4⟩
  have HB2 : Hid (Below w.heap.size w w2) := nx hb1 hb2
  have HS : Hid (zb = w.heap.size ∧ qb = zb + 1 ∧ w2.heap.size = zb + 2) := ⟨hzb, hqb, hs2⟩
  have HR : Hid (∀ u, Below w.heap.size w u → Els encRR (ltS w) (ltS w) u RA rs.length rs) := fun u hu => h.keep (fun b hb => hu.block b hb) (fun b hb => hu.block b hb)
  have HZ : Hid (∀ u, Below w.heap.size w u → Els encS (ltS w) (ltS w) u zA zn zs) := fun u hu => hz.keep (fun b hb => hu.block b hb) (fun b hb => hu.block b hb)
  have HQ : Hid (∀ u, Below w.heap.size w u → Els encS (ltS w) (ltS w) u qA qn qs) := fun u hu => hq.keep (fun b hb => hu.block b hb) (fun b hb => hu.block b hb)
  have HLI : Hid (∀ u, Below w2.heap.size w2 u → Calls Try.prog 39 #[.agg #[.slice zA zn zc, .slice RA rs.length rc]] u (RetP (fun v _ => v = .bool (ltZ zs rs)) u)) := fun u hu => lightZ_any zA RA zn zc rs.length rc zs rs u (HR.out u (nx HB2.out hu)) (fun b hb => Nat.lt_of_lt_of_le hb (nx HB2.out hu).size) ez hrc (Nat.le_trans hzc.1 hzc.2)
  have HLE : Hid (zs.length = zn ∧ qs.length = qn) := ⟨ez, eq⟩
  have HCC : Hid ((zn ≤ zc ∧ zc ≤ maxLen) ∧ (rs.length ≤ rc ∧ rc ≤ maxLen) ∧ (qn ≤ qc ∧ qc ≤ maxLen)) := ⟨hzc, hrc, hqc⟩
  rw [ltZ_yes hL] at HLI
  have h1d : decide ((130 : Int) < (qn : Int)) = false := decide_eq_false (by omega)
  have HL := Lib.hid hL
  have HQL : Hid (qn ≤ 130) := hl
  clear h hL hz hq hzc hrc hqc eq ez hb1 hb2 hc0 hc1 hc2 hc3 hc4
  go_enter Try.func12, Try.ntmps12
  go_upto_region 1 with (fail)
  rw [← hw1]
  rw [← hw2]
  clear hw1 hw2
  rw [← hzb]
  rw [← hqb]
  clear hzb hqb hs1 hs2
  obtain ⟨x0, x1, x2, x3, x4⟩ := HC.out w2 bl
  go_upto_region 3 with (first | (go_at_call 39; (with_reducible refine (HLI.out w3 HB3.out).mono ?_); rintro e w4 ⟨v4, rfl, rfl, hb4⟩; have HB4 := Lib.hid hb4; obtain ⟨y0, y1, y2, y3, y4⟩ := HC.out w4 (nx HB3.out hb4); clear hb4) | (go_at_call 38; (with_reducible refine (answers17_any w2).mono ?_); rintro e w3 ⟨rfl, hb3⟩; have HB3 := Lib.hid hb3; obtain ⟨a0, a1, a2, a3, a4⟩ := HC.out w3 hb3; clear hb3) | fail)
  clear x0 x1 x2 x3 x4 a0 a1 a2 a3 a4 h1d hl
  have HB24 : Hid (Below w2.heap.size w2 w4) := nx HB3.out HB4.out
  have HTC : Hid ((-9223372036854775808 ≤ ty ∧ ty ≤ 9223372036854775807) ∧ (-9223372036854775808 ≤ cl ∧ cl ≤ 9223372036854775807)) := ⟨hty, hcl⟩
  clear hty hcl
  go_upto_region 4 with (fail)
  clear y0 y1 y2 y3 y4
  obtain ⟨w5, hw5⟩ : ∃ u, u = w4.alloc (.cells #[.slice qA qn qc, .int .i64 ty, .int .i64 cl] 25) := ⟨_, rfl⟩
  obtain ⟨ub, hub⟩ : ∃ g, g = w4.heap.size := ⟨_, rfl⟩
  have HB5 : Hid (Below w4.heap.size w4 w5) := by show Below _ _ _; rw [hw5]; exact bl.alloc (Nat.le_refl _) _
  have hr5 : w5.heap[ub]? = some (.cells #[.slice qA qn qc, .int .i64 ty, .int .i64 cl] 25 (0, 0)) := by rw [hw5, hub]; exact heap_alloc_new w4 _
  have HU : Hid (ub = w4.heap.size ∧ w5.heap.size = ub + 1) := ⟨hub, by rw [hw5, hub]; simp⟩
  have c0 : w5.cell? ⟨ub, 0, none⟩ = some (.slice qA qn qc) := (cell_of_row _ _ _ _ _ _ hr5).trans rfl
  have f0 : w5.frozen? ⟨ub, 0, none⟩ = false := frozen_of_row _ _ _ _ _ hr5
  rw [← hw5]
  clear hw5
  rw [← hub]
  clear hub
  obtain ⟨w6, hw6⟩ : ∃ u, u = w5.setCell ⟨ub, 0, none⟩ (.slice none 0 0) := ⟨_, rfl⟩
  have HUP : Hid (UpSt w5 w6 ub w5.heap.size ty cl qs none 0 0) := by
    show UpSt _ _ _ _ _ _ _ _ _ _
    rw [hw6]
    exact ⟨(heap_setCell_same _ _ _ _ _ _ hr5).trans rfl, OwnE.nil _ _ _ _, (chg_g1 _ _ _ _).mono (fun z hz => .inl (.inl hz)), by have := HU.out; omega, Nat.le_refl _⟩
  clear hr5
  go_upto_region 6 with (fail)
  rw [← hw6]
  clear hw6 c0 f0
  have HW5 : Hid (Below w2.heap.size w2 w5) := nx HB24.out HB5.out
  -- whatever comes, from the capital question's box on
  have HCU : Hid (∀ u, Chg (fun z => z = ub ∨ w5.heap.size ≤ z) w5 u → Below w2.heap.size w2 u) := fun u hu => by
    have h1 := HU.out
    have h2 := HB24.out.size
    exact HW5.out.trans (hu.below (fun x hx => by omega) (by have := HW5.out.size; omega))
  go_loopw [6] (fun iv wr => ∃ (k : Nat) (Au : Option Addr) (cu : Nat), iv = .int .i64 (k : Int) ∧ k ≤ qn ∧ Hid (UpSt w5 wr ub w5.heap.size ty cl qs Au cu k)) (fun iv _ => qn - (intOf iv).toNat)
  case atStart => exact ⟨0, none, 0, rfl, Nat.zero_le _, HUP⟩
  case round =>
    clear HUP
    obtain ⟨k, Au, cu, rfl, hk, HUP⟩ := hrel
    rename World => wk
    have HWK : Hid (Below w2.heap.size w2 wk) := HCU.out wk HUP.out.C
    obtain ⟨x0, x1, x2, x3, x4⟩ := HC.out wk HWK.out
    have hqnb : qn ≤ 130 := HQL.out
    have u0 : wk.cell? ⟨ub, 0, none⟩ = some (.slice Au k cu) := (cell_of_row _ _ _ _ _ _ HUP.out.row).trans rfl
    have HQK := Lib.hid (HQ.out wk (nx HB2.out HWK.out))
    by_cases hlt : k < qn
    · have hlt' : (k : Int) < (qn : Int) := by omega
      obtain ⟨l, hl⟩ : ∃ l, qs[k]? = some l := ⟨_, List.getElem?_eq_getElem (by rw [HLE.out.2]; exact hlt)⟩
      obtain ⟨b1, o1, hA1, hb1, hc1⟩ := str_at HQK.out hl
      have hl3 : l.length ≤ 9223372036854775807 := str_len HQK.out hl
      rw [hA1] at x2
      have HLl := Lib.hid hl
      have hbs := bstr_size l
      have hcb := fun W : World => Lib.run_convert_string_bytes (P := Try.prog) W 9 22 5 (bstr l) Try.underlying9 Try.underlying22 Try.underlying5
      obtain ⟨wb, hwb⟩ : ∃ wb, wb = Lib.bytesWorld wk 5 (bstr l) := ⟨_, rfl⟩
      have HB1 : Hid (BRow wb wk.heap.size l) := by show BRow _ _ _; rw [hwb]; exact BRow.made wk l
      have hbb : Below wk.heap.size wk wb := by rw [hwb]; exact (conv_rd wk l).2
      clear hl hA1 hb1
      go_upto_region 9 with (fail)
      rw [← hwb]
      clear hwb hcb hc1
      go_upto_region 10 with (fail)
      clear x0 x1 x2 x3 x4 u0
      go_loopw [8] (fun iv wy => ∃ j : Nat, iv = .int .i64 (j : Int) ∧ j ≤ l.length ∧ Hid (BRow wy wk.heap.size (someU l j)) ∧ Below wk.heap.size wk wy) (fun iv _ => l.length - (intOf iv).toNat)
      case atStart => exact ⟨0, rfl, Nat.zero_le _, HB1, hbb⟩
      case round =>
        clear HB1 hbb
        obtain ⟨j, rfl, hj, HB, hby⟩ := hrel
        have hsl := Lib.hid (someU_length l j hj)
        by_cases hjl : j < l.length
        · have hjl' : (j : Int) < (l.length : Int) := by omega
          obtain ⟨z, hz⟩ : ∃ z, l[j]? = some z := ⟨_, List.getElem?_eq_getElem hjl⟩
          have hcx := HB.out.cell (someU_at hz)
          have hfx := HB.out.free (j := j) (by rw [hsl.out]; exact hjl)
          have HZZ := Lib.hid hz
          have hz8 := z.toNat_lt
          clear hz
          by_cases h1 : 97 ≤ z.toNat ∧ z.toNat ≤ 122
          · obtain ⟨h1, h2⟩ := h1
            have HE := Lib.hid (upC_hi h1 h2)
            have hset := HB.out.set j (upC z)
            rw [HE.out, someU_succ HZZ.out] at hset
            have HSS := Lib.hid hset
            clear hset
            go_wp2
            go_roundw
            case rel => exact ⟨j + 1, by go_num, by omega, HSS.out, hby.setCell (Nat.le_refl _) _⟩
            case measure => simp [intOf]; omega
          · have HSS := Lib.hid (someU_same HZZ.out (upC_lo h1))
            by_cases h2 : z.toNat < 97
            · clear h1
              go_wp2
              go_roundw
              case rel => exact ⟨j + 1, by go_num, by omega, by rw [HSS.out]; exact HB, hby⟩
              case measure => simp [intOf]; omega
            · have h3 : 122 < z.toNat := by omega
              clear h1
              go_wp2
              go_roundw
              case rel => exact ⟨j + 1, by go_num, by omega, by rw [HSS.out]; exact HB, hby⟩
              case measure => simp [intOf]; omega
        · have hje : j = l.length := by omega
          have hjl' : ¬ (j : Int) < (l.length : Int) := by omega
          have hrd := HB.out.rd
          rw [hsl.out, hje, someU_all] at hrd
          have hcv := fun (c : Nat) => conv_str (P := Try.prog) _ _ _ Try.underlying22 Try.underlying5 Try.underlying9 wr (some ⟨wk.heap.size, 0, none⟩) l.length c (upL l) hrd
          have HUW := Lib.hid (HUP.out.below hby)
          have u0 : wr.cell? ⟨ub, 0, none⟩ = some (.slice Au k cu) := (cell_of_row _ _ _ _ _ _ HUW.out.row).trans rfl
          have hxl : ((qs.take k).map upL).length = k := by rw [List.length_map, List.length_take, Nat.min_eq_left (by rw [HLE.out.2]; exact hk)]
          have HXL := Lib.hid hxl
          have HKB : Hid (k ≤ 130) := by show k ≤ 130; omega
          have HSB : Hid (w5.heap.size ≤ wr.heap.size) := HUW.out.C.size
          have HMX : Hid ((upL l).length ≤ maxLen) := by show _ ≤ _; unfold upL; rw [List.length_map]; exact hl3
          clear hrd hxl hjl
          go_wp2_with ((with_reducible show wpList _ _ _ (⟨some 71, _, _, _, _, _⟩ :: _) _ _); refine wpL_pushE (w := wr) elS rfl (.tmp 67) (.tmp 70) rfl w5.heap.size (.slice Au k cu) ((qs.take k).map upL) rfl HUW.out.own [.string (bstr (upL l))] (upL l) (S' := noS) ⟨rfl, HMX.out⟩ ?hS rfl ?hb ?hl ?hbase ?_; rotate_right; intro v7 w7 hown7 hg7 hat7; obtain ⟨A7, c7, hv7, _⟩ := OwnE.form hown7; obtain ⟨L7, hL7⟩ : ∃ L, L = ((qs.take k).map upL ++ [upL l]).length := ⟨_, rfl⟩; rw [← hL7] at hv7; have HL7 : Hid (L7 = k + 1) := (by show _ = _; rw [hL7, List.length_append, HXL.out]; rfl); have h7e : L7 = k + 1 := HL7.out; subst h7e; subst hv7; have HO7 := Lib.hid hown7; have HG7 := Lib.hid hg7; clear hown7 hat7 hL7; have hr7 := ((Chg.refl (fun b => (Value.slice Au k cu).ownBlock = some b) wr).grown hg7 (fun k hk => .inl hk)).heap HUW.out.row (fun e => by have h1 := (OwnE.lt HUW.out.own ub e).1; have h2 := HUW.out.lt.1; omega); have x7 : w7.cell? ⟨ub, 0, none⟩ = some (.slice Au k cu) := (cell_of_row _ _ _ _ _ _ hr7).trans rfl; have f7 : w7.frozen? ⟨ub, 0, none⟩ = false := frozen_of_row _ _ _ _ _ hr7; clear hr7 hg7)
          · go_roundw
            case rel => exact ⟨k + 1, A7, c7, by go_num, by omega, HUW.out.push HLl.out HO7.out HG7.out rfl⟩
            case measure => simp [intOf]; omega
          case hS => exact fun b hb => hb.elim
          case hb => have := HXL.out; have := HKB.out; omega
          case hl => have := HXL.out; have := HKB.out; unfold maxLen; omega
          case hbase => exact HSB.out
    · have hkq : k = qn := by omega
      subst hkq
      have hlt' : ¬ (k : Int) < (k : Int) := by omega
      clear hlt hk
      obtain ⟨us, hus⟩ : ∃ l, l = qs.map upL := ⟨_, rfl⟩
      have hown := HUP.out.own
      rw [show (qs.take k).map upL = us by rw [hus, ← HLE.out.2, List.take_length]] at hown
      have HOW := Lib.hid hown
      have HLU : Hid (lowN us = lowN qs ∧ us.length = k) := ⟨by rw [hus]; exact up_low qs, by rw [hus, List.length_map]; exact HLE.out.2⟩
      clear hown hus
      obtain ⟨Ma, hMa⟩ : ∃ M, M = answerP zs rs ⟨qs, ty, cl⟩ := ⟨_, rfl⟩
      obtain ⟨Mb, hMb⟩ : ∃ M, M = answerP zs rs ⟨us, ty, cl⟩ := ⟨_, rfl⟩
      have HMA2 : Hid (Made rs (2 * rs.length + 1) Ma ∧ Nums Ma) := by rw [hMa]; exact ⟨answerP_made zs rs _, answerP_nums zs rs _⟩
      have HMB : Hid (Mb = { Ma with qs := [⟨us, ty, cl⟩] }) := by show _ = _; rw [hMb, hMa]; exact low_answer HLU.out.1
      have HZK : Hid (∀ u, Below wk.heap.size wk u → RdE encRR u RA rs.length rs ∧ RdE encS u zA zn zs ∧ RdE encS u qA k qs ∧ RdE encS u Au k us) := fun u hu => by
        have h1 : Below w.heap.size w u := (nx HB2.out HWK.out).trans (hu.mono (nx HB2.out HWK.out).size)
        have h2 : ∀ b, ltS w b → b < u.heap.size := fun b hb => Nat.lt_of_lt_of_le hb h1.size
        obtain ⟨A', c', hv, he, _, _⟩ := OwnE.rdE (OwnE.below HOW.out hu)
        injection hv with e1 e2 e3
        subst e1 e2
        exact ⟨(HR.out u h1).mono h2 h2, (HZ.out u h1).mono h2 h2, (HQ.out u h1).mono h2 h2, he⟩
      have HCK : Hid (k ≤ cu ∧ cu ≤ maxLen) := by
        obtain ⟨A', c', hv, _, h1, h2⟩ := OwnE.form HOW.out
        injection hv with e1 e2 e3
        rw [e2, e3]
        exact ⟨h1, h2⟩
      have HOWN : Hid (∀ u, Below wk.heap.size wk u → Calls Try.prog 43 #[.agg #[.slice zA zn zc, .slice RA rs.length rc]] u (RetP (fun v w' => ∃ A c R k, v = .agg #[.slice A zn c, .slice R rs.length k] ∧ ZIv u.heap.size w'.heap.size w' A zn c R rs.length k zs rs) u)) := fun u hu => (zownZ_any zA RA zn zc rs.length rc zs rs u (HZK.out u hu).1 (HZK.out u hu).2.1 HL.out).mono (by rintro e w' ⟨v, rfl, ⟨A, c, R, m, rfl, ho⟩, hb⟩; exact ⟨_, rfl, ⟨A, c, R, m, rfl, ho.iv⟩, hb⟩)
      have HANS : Hid (∀ (u : World) (A R B : Option Addr) (c m c' : Nat) (ns : List (List UInt8)) (lo hi : Nat), ZIv lo hi u A zn c R rs.length m zs rs → hi ≤ u.heap.size → RdE encS u B k ns → k ≤ c' ∧ c' ≤ maxLen → Calls Try.prog 42 #[.agg #[.slice A zn c, .slice R rs.length m], .agg #[.slice B k c', .int .i64 ty, .int .i64 cl]] u (RetP (fun v w' => ∃ s, v = msV s (answerP zs rs ⟨ns, ty, cl⟩) ∧ AIv u.heap.size w'.heap.size w' s (answerP zs rs ⟨ns, ty, cl⟩) ⟨ns, ty, cl⟩) u)) := fun u A R B c m c' ns lo hi hz hh hn hc =>
        (zanswer_any A R B zn c rs.length m k c' zs ns rs ty cl u (hz.r.mono (fun b hb => Nat.lt_of_lt_of_le hb.2 hh) (fun b hb => Nat.lt_of_lt_of_le hb.2 hh)) (hz.z.mono (fun b hb => Nat.lt_of_lt_of_le hb.2 hh) (fun b hb => Nat.lt_of_lt_of_le hb.2 hh)) hn hz.cz hz.cr.1 (by have := HL.out.n; omega) (by have := HL.out.z; have := HLE.out.1; omega) (by have := HQL.out; omega) (fun r hr => (HL.out.r r hr).lightR) (fun r hr => (HL.out.r r hr).lt9) (fun r hr => by have := HL.out.r r hr; exact ⟨by have := this.2.2.1; omega, by have := this.1; omega⟩)).mono (by rintro e w' ⟨v, rfl, ⟨s, rfl, ho⟩, hb⟩; exact ⟨_, rfl, ⟨s, rfl, ho.iv⟩, hb⟩)
      have HMAE := Lib.hid hMa
      clear hMa
      have HMBE := Lib.hid hMb
      clear hMb
      go_upto_region 15 with (fail)
      have hrow := HUP.out.row
      clear x0 x1 x2 x3 x4 u0
      refine wp_region_iv (n := 10) (by kernel_rfl) (by kernel_rfl) (by kernel_rfl) rfl (by kernel_rfl) (fun i => if i < 8 then i + 73 else i + 1) (fun i hi => by show (if i < 8 then i + 73 else i + 1) < 102; split <;> omega) (fun i j hi hj e => by have e2 : (if i < 8 then i + 73 else i + 1) = (if j < 8 then j + 73 else j + 1) := e; split at e2 <;> split at e2 <;> omega) (PsiC zA RA qA zn zc rc k qc zs rs ty cl Au cu Ma Mb ⟨qs, ty, cl⟩ ⟨us, ty, cl⟩) (fun j v lo hi w1 w2 _ hh hb h => psiC_below j v lo hi w1 w2 hh hb h) ?_ ?_
      · intro i hi a u hbw hsm hdep
        have hu := HC.out u (nx HWK.out hbw)
        obtain ⟨x0, x1, x2, x3, x4⟩ := hu
        have hru := (hbw.block ub (Array.getElem?_eq_some_iff.1 hrow).1).trans hrow
        have t2 : a.tmps[2]? = some (.pointer (some ⟨zb, 0, none⟩)) := (hsm.other 2 (fun j hj e => by have e2 : (if j < 8 then j + 73 else j + 1) = 2 := e; split at e2 <;> omega)).trans rfl
        have t3 : a.tmps[3]? = some (.pointer (some ⟨qb, 0, none⟩)) := (hsm.other 3 (fun j hj e => by have e2 : (if j < 8 then j + 73 else j + 1) = 3 := e; split at e2 <;> omega)).trans rfl
        have t5 : a.tmps[5]? = some (.pointer (some ⟨ub, 0, none⟩)) := (hsm.other 5 (fun j hj e => by have e2 : (if j < 8 then j + 73 else j + 1) = 5 := e; split at e2 <;> omega)).trans rfl
        have hcases : i = 0 ∨ i = 1 ∨ i = 2 ∨ i = 3 ∨ i = 4 ∨ i = 5 ∨ i = 6 ∨ i = 7 ∨ i = 8 ∨ i = 9 := by omega
        rcases hcases with rfl | rfl | rfl | rfl | rfl | rfl | rfl | rfl | rfl | rfl
        · refine wpOp_plain rfl rfl ?_
          exact wp_val (v := .agg #[.slice zA zn zc, .slice RA rs.length rc]) (by simp [t2, go_sem, x0, x1]) ⟨_, rfl, bl, rfl⟩
        · obtain ⟨v0, lo0, hi0, hv0, hp0, _, _⟩ := hdep 0 (by kernel_rfl)
          have hp0' : v0 = .agg #[.slice zA zn zc, .slice RA rs.length rc] := hp0
          subst hp0'
          clear t2 t3 t5 x0 x1 x2 x3 x4 hru hdep
          refine wpOp_plain rfl rfl ?_
          generalize hK : (fun (a2 : Act) (w2 : World) => _) = K
          have e1 : a.tmps[73]? = some (.agg #[.slice zA zn zc, .slice RA rs.length rc]) := hv0
          have e2 := eval_tmp e1
          go_simp
          refine (HOWN.out u hbw).mono ?_
          rintro e w' ⟨v', rfl, hz, hb'⟩
          rw [← hK]
          exact ⟨_, rfl, hb', hz⟩
        · refine wpOp_plain rfl rfl ?_
          exact wp_val (v := .agg #[.slice qA k qc, .int .i64 ty, .int .i64 cl]) (by simp [t3, go_sem, x2, x3, x4]) ⟨_, rfl, bl, rfl⟩
        · obtain ⟨v1, lo1, hi1, hv1, hp1, _, hh1⟩ := hdep 1 (by kernel_rfl)
          obtain ⟨v2, lo2, hi2, hv2, hp2, _, _⟩ := hdep 2 (by kernel_rfl)
          obtain ⟨A1, c1, R1, m1, rfl, hz1⟩ := (show ∃ A c R m, v1 = .agg #[.slice A zn c, .slice R rs.length m] ∧ ZIv lo1 hi1 u A zn c R rs.length m zs rs from hp1)
          have hp2' : v2 = .agg #[.slice qA k qc, .int .i64 ty, .int .i64 cl] := hp2
          subst hp2'
          clear t2 t3 t5 x0 x1 x2 x3 x4 hru hdep
          refine wpOp_plain rfl rfl ?_
          generalize hK : (fun (a2 : Act) (w2 : World) => _) = K
          have e1 : a.tmps[74]? = some (.agg #[.slice A1 zn c1, .slice R1 rs.length m1]) := hv1
          have e2 : a.tmps[75]? = some (.agg #[.slice qA k qc, .int .i64 ty, .int .i64 cl]) := hv2
          have e3 := eval_tmp e1
          have e4 := eval_tmp e2
          go_simp
          have hA := HANS.out u A1 R1 qA c1 m1 qc qs lo1 hi1 hz1 hh1 (HZK.out u hbw).2.2.1 HCC.out.2.2
          rw [← HMAE.out] at hA
          refine hA.mono ?_
          rintro e w' ⟨v', rfl, hz, hb'⟩
          rw [← hK]
          exact ⟨_, rfl, hb', hz⟩
        · refine wpOp_plain rfl rfl ?_
          exact wp_val (v := .agg #[.slice zA zn zc, .slice RA rs.length rc]) (by simp [t2, go_sem, x0, x1]) ⟨_, rfl, bl, rfl⟩
        · obtain ⟨v0, lo0, hi0, hv0, hp0, _, _⟩ := hdep 4 (by kernel_rfl)
          have hp0' : v0 = .agg #[.slice zA zn zc, .slice RA rs.length rc] := hp0
          subst hp0'
          clear t2 t3 t5 x0 x1 x2 x3 x4 hru hdep
          refine wpOp_plain rfl rfl ?_
          generalize hK : (fun (a2 : Act) (w2 : World) => _) = K
          have e1 : a.tmps[77]? = some (.agg #[.slice zA zn zc, .slice RA rs.length rc]) := hv0
          have e2 := eval_tmp e1
          go_simp
          refine (HOWN.out u hbw).mono ?_
          rintro e w' ⟨v', rfl, hz, hb'⟩
          rw [← hK]
          exact ⟨_, rfl, hb', hz⟩
        · refine wpOp_plain rfl rfl ?_
          have y0 : u.cell? ⟨ub, 0, none⟩ = some (.slice Au k cu) := (cell_of_row _ _ _ _ _ _ hru).trans rfl
          have y1 : u.cell? ⟨ub, 1, none⟩ = some (.int .i64 ty) := (cell_of_row _ _ _ _ _ _ hru).trans rfl
          have y2 : u.cell? ⟨ub, 2, none⟩ = some (.int .i64 cl) := (cell_of_row _ _ _ _ _ _ hru).trans rfl
          exact wp_val (v := .agg #[.slice Au k cu, .int .i64 ty, .int .i64 cl]) (by simp [t5, go_sem, y0, y1, y2]) ⟨_, rfl, bl, rfl⟩
        · obtain ⟨v1, lo1, hi1, hv1, hp1, _, hh1⟩ := hdep 5 (by kernel_rfl)
          obtain ⟨v2, lo2, hi2, hv2, hp2, _, _⟩ := hdep 6 (by kernel_rfl)
          obtain ⟨A1, c1, R1, m1, rfl, hz1⟩ := (show ∃ A c R m, v1 = .agg #[.slice A zn c, .slice R rs.length m] ∧ ZIv lo1 hi1 u A zn c R rs.length m zs rs from hp1)
          have hp2' : v2 = .agg #[.slice Au k cu, .int .i64 ty, .int .i64 cl] := hp2
          subst hp2'
          clear t2 t3 t5 x0 x1 x2 x3 x4 hru hdep
          refine wpOp_plain rfl rfl ?_
          generalize hK : (fun (a2 : Act) (w2 : World) => _) = K
          have e1 : a.tmps[78]? = some (.agg #[.slice A1 zn c1, .slice R1 rs.length m1]) := hv1
          have e2 : a.tmps[79]? = some (.agg #[.slice Au k cu, .int .i64 ty, .int .i64 cl]) := hv2
          have e3 := eval_tmp e1
          have e4 := eval_tmp e2
          go_simp
          have hA := HANS.out u A1 R1 Au c1 m1 cu us lo1 hi1 hz1 hh1 (HZK.out u hbw).2.2.2 HCK.out
          rw [← HMBE.out] at hA
          refine hA.mono ?_
          rintro e w' ⟨v', rfl, hz, hb'⟩
          rw [← hK]
          exact ⟨_, rfl, hb', hz⟩
        · refine wpOp_plain rfl rfl ?_
          generalize hK : (fun (a2 : Act) (w2 : World) => _) = K
          go_simp
          rw [← hK]
          exact ⟨_, rfl, bl.alloc (Nat.le_refl _) _, rfl, by simp, MRow.made u MS.nil msNone⟩
        · refine wpOp_plain rfl rfl ?_
          generalize hK : (fun (a2 : Act) (w2 : World) => _) = K
          go_simp
          rw [← hK]
          exact ⟨_, rfl, bl.alloc (Nat.le_refl _) _, rfl, by simp, MRow.made u MS.nil msNone⟩
      · intro a u lo hi hbw hsm hdep hdis
        obtain ⟨v0, hv0, hp0, _⟩ := hdep 0 (by omega)
        obtain ⟨v1, hv1, hp1, hl1, hh1⟩ := hdep 1 (by omega)
        obtain ⟨v2, hv2, hp2, _⟩ := hdep 2 (by omega)
        obtain ⟨v3, hv3, hp3, hl3, hh3⟩ := hdep 3 (by omega)
        obtain ⟨v4, hv4, hp4, _⟩ := hdep 4 (by omega)
        obtain ⟨v5, hv5, hp5, hl5, hh5⟩ := hdep 5 (by omega)
        obtain ⟨v6, hv6, hp6, _⟩ := hdep 6 (by omega)
        obtain ⟨v7, hv7, hp7, hl7, hh7⟩ := hdep 7 (by omega)
        obtain ⟨v8, hv8, hp8, hl8, hh8⟩ := hdep 8 (by omega)
        obtain ⟨v9, hv9, hp9, hl9, hh9⟩ := hdep 9 (by omega)
        have d38 := hdis 3 8 (by omega) (by omega) (by omega)
        have d39 := hdis 3 9 (by omega) (by omega) (by omega)
        have d78 := hdis 7 8 (by omega) (by omega) (by omega)
        have d79 := hdis 7 9 (by omega) (by omega) (by omega)
        have d89 := hdis 8 9 (by omega) (by omega) (by omega)
        have hp0' : v0 = .agg #[.slice zA zn zc, .slice RA rs.length rc] := hp0
        have hp4' : v4 = .agg #[.slice zA zn zc, .slice RA rs.length rc] := hp4
        have hp2' : v2 = .agg #[.slice qA k qc, .int .i64 ty, .int .i64 cl] := hp2
        have hp6' : v6 = .agg #[.slice Au k cu, .int .i64 ty, .int .i64 cl] := hp6
        obtain ⟨A1, c1, R1, m1, rfl, hz1⟩ := (show ∃ A c R m, v1 = .agg #[.slice A zn c, .slice R rs.length m] ∧ ZIv (lo 1) (hi 1) u A zn c R rs.length m zs rs from hp1)
        obtain ⟨A5, c5, R5, m5, rfl, hz5⟩ := (show ∃ A c R m, v5 = .agg #[.slice A zn c, .slice R rs.length m] ∧ ZIv (lo 5) (hi 5) u A zn c R rs.length m zs rs from hp5)
        obtain ⟨s3, rfl, ha3⟩ := (show ∃ s, v3 = msV s Ma ∧ AIv (lo 3) (hi 3) u s Ma ⟨qs, ty, cl⟩ from hp3)
        obtain ⟨s7, rfl, ha7⟩ := (show ∃ s, v7 = msV s Mb ∧ AIv (lo 7) (hi 7) u s Mb ⟨us, ty, cl⟩ from hp7)
        obtain ⟨rfl, g8, hm8⟩ := (show v8 = .pointer (some ⟨lo 8, 0, none⟩) ∧ lo 8 < hi 8 ∧ MRow u (lo 8) MS.nil msNone from hp8)
        obtain ⟨rfl, g9, hm9⟩ := (show v9 = .pointer (some ⟨lo 9, 0, none⟩) ∧ lo 9 < hi 9 ∧ MRow u (lo 9) MS.nil msNone from hp9)
        subst hp0' hp2' hp4' hp6'
        have ha := hsm.eq (fun i hi => by show (if i < 8 then i + 73 else i + 1) < 102; split <;> omega) (fun i j hi hj e => by have e2 : (if i < 8 then i + 73 else i + 1) = (if j < 8 then j + 73 else j + 1) := e; split at e2 <;> split at e2 <;> omega) (fun j => ([.agg #[.slice zA zn zc, .slice RA rs.length rc], .agg #[.slice A1 zn c1, .slice R1 rs.length m1], .agg #[.slice qA k qc, .int .i64 ty, .int .i64 cl], msV s3 Ma, .agg #[.slice zA zn zc, .slice RA rs.length rc], .agg #[.slice A5 zn c5, .slice R5 rs.length m5], .agg #[.slice Au k cu, .int .i64 ty, .int .i64 cl], msV s7 Mb, .pointer (some ⟨lo 8, 0, none⟩), .pointer (some ⟨lo 9, 0, none⟩)] : List Value).getD j undef) (fun j hj => by
          have hcases : j = 0 ∨ j = 1 ∨ j = 2 ∨ j = 3 ∨ j = 4 ∨ j = 5 ∨ j = 6 ∨ j = 7 ∨ j = 8 ∨ j = 9 := by omega
          rcases hcases with rfl | rfl | rfl | rfl | rfl | rfl | rfl | rfl | rfl | rfl
          · exact hv0
          · exact hv1
          · exact hv2
          · exact hv3
          · exact hv4
          · exact hv5
          · exact hv6
          · exact hv7
          · exact hv8
          · exact hv9)
        have t9 : a.tmps[9]? = some (.pointer (some ⟨lo 8, 0, none⟩)) := hv8
        have t10 : a.tmps[10]? = some (.pointer (some ⟨lo 9, 0, none⟩)) := hv9
        have t76 : a.tmps[76]? = some (.agg (mCells s3 Ma)) := hv3
        have t80 : a.tmps[80]? = some (.agg (mCells s7 Mb)) := hv7
        refine wpOp_plain rfl rfl ?_
        refine wpO_storeR rowMsZ (.tmp 9) (.tmp 76) rfl (lo 8) (eval_tmp t9) (mCells s3 Ma) (eval_tmp t76) (mCells MS.nil msNone) hm8 rfl rfl (mCells_one _ _) fun u1 hu1 hc1 => ?_
        refine wpOp_plain rfl rfl ?_
        refine wpO_storeR rowMsZ (.tmp 10) (.tmp 80) rfl (lo 9) (eval_tmp t10) (mCells s7 Mb) (eval_tmp t80) (mCells MS.nil msNone) (hc1.heap hm9 (by omega)) rfl rfl (mCells_one _ _) fun u2 hu2 hc2 => ?_
        have HMA : Hid (MRow u2 (lo 8) s3 Ma) := hc2.heap hu1 (by omega)
        have HMB2 : Hid (MRow u2 (lo 9) s7 Mb) := hu2
        have hc12 : Chg (fun z => z = lo 8 ∨ z = lo 9) u u2 := (hc1.mono (fun z hz => .inl (.inl hz))).trans hc2 (fun z hz => .inl (.inr hz))
        have HA3 : Hid (AIv (lo 3) (hi 3) u2 s3 Ma ⟨qs, ty, cl⟩) := ha3.keep (fun b hb => hc12.block b (Nat.lt_of_lt_of_le hb.2 hh3) (fun e => by have h1 := hb.1; have h2 := hb.2; omega))
        have HA7 : Hid (AIv (lo 7) (hi 7) u2 s7 Mb ⟨us, ty, cl⟩) := ha7.keep (fun b hb => hc12.block b (Nat.lt_of_lt_of_le hb.2 hh7) (fun e => by have h1 := hb.1; have h2 := hb.2; omega))
        have HB2K : Hid (Below wk.heap.size wk u2) := hbw.trans (hc12.below (fun x hx => by omega) hbw.size)
        have HLO : Hid (wk.heap.size ≤ lo 8 ∧ wk.heap.size ≤ lo 9 ∧ hi 3 ≤ u2.heap.size ∧ hi 7 ≤ u2.heap.size ∧ lo 8 ≠ lo 9) := ⟨hl8, hl9, Nat.le_trans hh3 hc12.size, Nat.le_trans hh7 hc12.size, by omega⟩
        have HD39 : Hid (∀ b, btS (lo 3) (hi 3) b → b = lo 9 → False) := fun b hb e => by have h1 := hb.1; have h2 := hb.2; omega
        have HD79 : Hid (∀ b, btS (lo 7) (hi 7) b → b = lo 9 → False) := fun b hb e => by have h1 := hb.1; have h2 := hb.2; omega
        clear hc1 hc2 hu1 hu2 hc12 t9 t10 t76 t80 hv0 hv1 hv2 hv3 hv4 hv5 hv6 hv7 hv8 hv9 hp0 hp1 hp2 hp3 hp4 hp5 hp6 hp7 hp8 hp9 d38 d39 d78 d79 d89 hz1 hz5 ha3 ha7 hm8 hm9 hdep hdis hh1 hh3 hh5 hh7 hh8 hh9 hl1 hl3 hl5 hl7 hl8 hl9 g8 g9
        obtain ⟨ba, hba⟩ : ∃ b, b = lo 8 := ⟨_, rfl⟩
        obtain ⟨bb, hbb⟩ : ∃ b, b = lo 9 := ⟨_, rfl⟩
        rw [← hba] at HMA HLO ha
        rw [← hbb] at HMB2 HLO ha HD39 HD79
        show Exit.then _ _ _ a u2
        rw [ha]
        clear ha hsm hba hbb hbw
        simp only [show List.range 10 = [0, 1, 2, 3, 4, 5, 6, 7, 8, 9] from rfl, List.foldl_cons, List.foldl_nil, Nat.reduceLT, ↓reduceIte, Nat.reduceAdd, List.getD_cons_zero, List.getD_cons_succ]
        go_simp
        go_upto_region 16 with (fail)
        obtain ⟨g7, A7, c7, q1, q2, q3, q4, q5, q6, q7, q8, q9⟩ := HA7.out.q
        have hu7 : ∀ W : World, MRow W bb s7 Mb → W.cell? ⟨bb, 8, none⟩ = some (.slice (some ⟨g7, 0, none⟩) 1 1) := fun W hW => by
          have h1 : W.cell? ⟨bb, 8, none⟩ = some (.slice s7.Q Mb.qs.length s7.qc) := (MRow.cell hW 8).trans rfl
          rw [q1, q2, q3] at h1
          exact h1
        have HU7 := Lib.hid hu7
        have hrw2 := (HB2K.out.block ub (Array.getElem?_eq_some_iff.1 hrow).1).trans hrow
        have hq6 : u2.drew.cell? ⟨g7, 0, none⟩ = some (.slice A7 k c7) := by have h1 := q6.1; rw [show (⟨us, ty, cl⟩ : Qu).name.length = k from HLU.out.2] at h1; exact h1
        have hS : MRow u2.drew bb s7 Mb ∧ u2.drew.cell? ⟨g7, 0, none⟩ = some (.slice A7 k c7) ∧ u2.drew.cell? ⟨ub, 0, none⟩ = some (.slice Au k cu) := ⟨HMB2.out, hq6, (cell_of_row _ _ _ _ _ _ hrw2).trans rfl⟩
        have h7 : Els encS (btS (lo 7) (hi 7)) (btS (lo 7) (hi 7)) u2.drew A7 k us := by have h1 := q7; rw [show (⟨us, ty, cl⟩ : Qu).name.length = k from HLU.out.2] at h1; exact h1
        have HXC : Hid (Calls Try.prog 28 #[.slice A7 k c7, .slice Au k cu] u2.drew (RetN (.bool (decide (us = us))) u2.drew)) := rexact_any A7 Au k c7 k cu us us u2.drew h7 ((HZK.out u2.drew HB2K.out.drew).2.2.2) (by have := HQL.out; unfold maxLen; omega) (by have := HQL.out; unfold maxLen; omega)
        rw [decide_eq_true rfl] at HXC
        have HQS : Hid (Ma.qs = [⟨qs, ty, cl⟩]) := by obtain ⟨_, _, _, _, _, h3, _⟩ := HA3.out.q; exact h3
        clear hu7 q1 q2 q3 q4 q5 q6 q7 q8 q9 hq6 hrw2 h7
        refine wp_region_any (by kernel_rfl) ?_
        change wpAny _ _ _ _ _ _ _ (World.drew u2)
        refine wpAny_of_P (S := fun W => MRow W bb s7 Mb ∧ W.cell? ⟨g7, 0, none⟩ = some (.slice A7 k c7) ∧ W.cell? ⟨ub, 0, none⟩ = some (.slice Au k cu)) (dem := fun _ => true) _ _ _ _ ?_
        refine wpAnyP_take (i := 0) (v := .pointer (some ⟨bb, 8, none⟩)) rfl (by kernel_rfl) (by kernel_rfl) (by kernel_rfl) (by kernel_rfl) (by kernel_rfl) (fun _ _ _ h => h) (Or.inl ⟨by kernel_rfl, by (intro W hW; go_simp)⟩) hS ?_
        refine wpAnyP_take (i := 1) (v := .slice (some ⟨g7, 0, none⟩) 1 1) rfl (by kernel_rfl) (by kernel_rfl) (by kernel_rfl) (by kernel_rfl) (by kernel_rfl) (fun _ _ _ h => h) (Or.inl ⟨by kernel_rfl, by (intro W hW; have c0 := HU7.out W hW.1; go_simp)⟩) hS ?_
        refine wpAnyP_take (i := 2) (v := .int .i64 1) rfl (by kernel_rfl) (by kernel_rfl) (by kernel_rfl) (by kernel_rfl) (by kernel_rfl) (fun _ _ _ h => h) (Or.inl ⟨by kernel_rfl, by (intro W hW; go_simp)⟩) hS ?_
        refine wpAnyP_take (i := 3) (v := .bool false) rfl (by kernel_rfl) (by kernel_rfl) (by kernel_rfl) (by kernel_rfl) (by kernel_rfl) (fun _ _ _ h => h) (Or.inl ⟨by kernel_rfl, by (intro W hW; go_simp)⟩) hS ?_
        refine wpAnyP_take (i := 4) (v := .bool false) rfl (by kernel_rfl) (by kernel_rfl) (by kernel_rfl) (by kernel_rfl) (by kernel_rfl) (fun _ _ _ h => h) (Or.inl ⟨by kernel_rfl, by (intro W hW; go_simp)⟩) hS ?_
        refine wpAnyP_take (i := 5) (v := .pointer (some ⟨bb, 8, none⟩)) rfl (by kernel_rfl) (by kernel_rfl) (by kernel_rfl) (by kernel_rfl) (by kernel_rfl) (fun _ _ _ h => h) (Or.inl ⟨by kernel_rfl, by (intro W hW; go_simp)⟩) hS ?_
        refine wpAnyP_take (i := 6) (v := .slice (some ⟨g7, 0, none⟩) 1 1) rfl (by kernel_rfl) (by kernel_rfl) (by kernel_rfl) (by kernel_rfl) (by kernel_rfl) (fun _ _ _ h => h) (Or.inl ⟨by kernel_rfl, by (intro W hW; have c0 := HU7.out W hW.1; go_simp)⟩) hS ?_
        refine wpAnyP_take (i := 7) (v := .pointer (some ⟨g7, 0, none⟩)) rfl (by kernel_rfl) (by kernel_rfl) (by kernel_rfl) (by kernel_rfl) (by kernel_rfl) (fun _ _ _ h => h) (Or.inl ⟨by kernel_rfl, by (intro W hW; go_simp)⟩) hS ?_
        refine wpAnyP_take (i := 8) (v := .pointer (some ⟨g7, 0, none⟩)) rfl (by kernel_rfl) (by kernel_rfl) (by kernel_rfl) (by kernel_rfl) (by kernel_rfl) (fun _ _ _ h => h) (Or.inl ⟨by kernel_rfl, by (intro W hW; go_simp)⟩) hS ?_
        refine wpAnyP_take (i := 9) (v := .slice A7 k c7) rfl (by kernel_rfl) (by kernel_rfl) (by kernel_rfl) (by kernel_rfl) (by kernel_rfl) (fun _ _ _ h => h) (Or.inl ⟨by kernel_rfl, by (intro W hW; have c0 := hW.2.1; go_simp)⟩) hS ?_
        refine wpAnyP_take (i := 10) (v := .pointer (some ⟨ub, 0, none⟩)) rfl (by kernel_rfl) (by kernel_rfl) (by kernel_rfl) (by kernel_rfl) (by kernel_rfl) (fun _ _ _ h => h) (Or.inl ⟨by kernel_rfl, by (intro W hW; go_simp)⟩) hS ?_
        refine wpAnyP_take (i := 11) (v := .slice Au k cu) rfl (by kernel_rfl) (by kernel_rfl) (by kernel_rfl) (by kernel_rfl) (by kernel_rfl) (fun _ _ _ h => h) (Or.inl ⟨by kernel_rfl, by (intro W hW; have c0 := hW.2.2; go_simp)⟩) hS ?_
        refine wpAnyP_one (i := 12) rfl (by kernel_rfl) fun K hK => ?_
        go_simp
        refine HXC.out.mono ?_
        rintro e u3 ⟨rfl, m3, hv3⟩
        have HB3' : Hid (Below u2.heap.size u2 u3) := by
          show Below _ _ _
          rw [hv3]
          exact dN bl.drew m3
        clear hv3
        have hS3 : MRow u3 bb s7 Mb ∧ u3.cell? ⟨g7, 0, none⟩ = some (.slice A7 k c7) ∧ u3.cell? ⟨ub, 0, none⟩ = some (.slice Au k cu) := ⟨HMB2.out.below HB3'.out, below_cell HB3'.out hS.2.1, below_cell HB3'.out hS.2.2⟩
        refine hK _ _ (fun _ => hS3) ?_
        clear hK
        refine wpAnyP_one (i := 13) rfl (by kernel_rfl) fun K hK => ?_
        go_simp
        refine hK _ _ (fun _ => hS3) ?_
        clear hK
        refine wpAnyP_one (i := 14) rfl (by kernel_rfl) fun K hK => ?_
        go_simp
        refine hK _ _ (fun _ => hS3) ?_
        clear hK
        refine wpAnyP_done (by kernel_rfl) ?_ _
        clear hS hS3
        have HA1 : Hid (MRow u3 ba s3 Ma) := HMA.out.below HB3'.out
        have HB1' : Hid (MRow u3 bb s7 Mb) := HMB2.out.below HB3'.out
        have z8 : u3.cell? ⟨ba, 8, none⟩ = some (.slice s3.Q 1 s3.qc) := by
          have h1 : u3.cell? ⟨ba, 8, none⟩ = some (.slice s3.Q Ma.qs.length s3.qc) := (MRow.cell HA1.out 8).trans rfl
          rw [HQS.out] at h1
          exact h1
        have z9 : u3.cell? ⟨bb, 8, none⟩ = some (.slice (some ⟨g7, 0, none⟩) 1 1) := HU7.out u3 HB1'.out
        have f9 : u3.frozen? ⟨bb, 8, none⟩ = false := MRow.free HB1'.out 8
        obtain ⟨u4, hu4⟩ : ∃ x, x = u3.setCell ⟨bb, 8, none⟩ (.slice s3.Q 1 s3.qc) := ⟨_, rfl⟩
        have HB4' : Hid (MRow u4 bb { s7 with Q := s3.Q, qc := s3.qc } Ma) := by
          have h1 := MRow.put HB1'.out 8 (.slice s3.Q 1 s3.qc) { s7 with Q := s3.Q, qc := s3.qc } { Mb with qs := [⟨qs, ty, cl⟩] } rfl
          show MRow _ _ _ _
          rw [hu4]
          have e : { Mb with qs := [⟨qs, ty, cl⟩] } = Ma := by
            rw [HMB.out]
            have h2 := HQS.out
            cases Ma
            simp only at h2
            rw [h2]
          rw [e] at h1
          exact h1
        have hC4 : Chg (fun z => z = bb) u3 u4 := by rw [hu4]; exact chg_g1 _ _ _ _
        have HA4 : Hid (MRow u4 ba s3 Ma) := hC4.heap HA1.out (by have := HLO.out; omega)
        have HC4 : Hid (Chg (fun z => z = bb) u2 u4) := (Chg.of_below HB3'.out).trans hC4 (fun z hz => .inl hz)
        have k3 : ∀ b, btS (lo 3) (hi 3) b → u4.heap[b]? = u2.heap[b]? := fun b hb => HC4.out.block b (Nat.lt_of_lt_of_le hb.2 HLO.out.2.2.1) (fun e => HD39.out b hb e)
        have k7 : ∀ b, btS (lo 7) (hi 7) b → u4.heap[b]? = u2.heap[b]? := fun b hb => HC4.out.block b (Nat.lt_of_lt_of_le hb.2 HLO.out.2.2.2.1) (fun e => HD79.out b hb e)
        have hn3 := (HA3.out.keep k3).min HMA2.out.2 HTC.out.1 HTC.out.2
        have hA7 := HA7.out.keep k7
        have hL : LightM Ma := made_light HMA2.out.1 HL.out (by have := HL.out.n; omega) HQS.out (by show qs.length ≤ _; have := HQL.out; have := HLE.out.2; omega)
        have hmab : Ma.an = Mb.an ∧ Ma.au = Mb.au ∧ Ma.ex = Mb.ex := by rw [HMB.out]; exact ⟨rfl, rfl, rfl⟩
        have hn7 : MIn (orS (btS (lo 3) (hi 3)) (btS (lo 7) (hi 7))) u4 { s7 with Q := s3.Q, qc := s3.qc } Ma := by
          have o1 : ∀ b, btS (lo 3) (hi 3) b → orS (btS (lo 3) (hi 3)) (btS (lo 7) (hi 7)) b := fun b hb => .inl hb
          have o2 : ∀ b, btS (lo 7) (hi 7) b → orS (btS (lo 3) (hi 3)) (btS (lo 7) (hi 7)) b := fun b hb => .inr hb
          refine ⟨hn3.q.mono o1 o1, ?_, ?_, ?_, hn3.cq, ?_, ?_, ?_, hn3.ii, hn3.io, hn3.ir, hn3.is⟩
          · rw [hmab.1]; exact hA7.a.mono o2 o2
          · rw [hmab.2.1]; exact hA7.u.mono o2 o2
          · rw [hmab.2.2]; exact hA7.x.mono o2 o2
          · rw [hmab.1]; exact hA7.ca
          · rw [hmab.2.1]; exact hA7.cu
          · rw [hmab.2.2]; exact hA7.cx
        have hz4 := HC4.out.size
        have HSM := Lib.hid (rsameMsg_eq s3 { s7 with Q := s3.Q, qc := s3.qc } Ma u4 hn3 hn7 (fun b hb => Nat.lt_of_lt_of_le (Nat.lt_of_lt_of_le hb.2 HLO.out.2.2.1) hz4) (fun b hb => hb.elim (fun hb => Nat.lt_of_lt_of_le (Nat.lt_of_lt_of_le hb.2 HLO.out.2.2.1) hz4) (fun hb => Nat.lt_of_lt_of_le (Nat.lt_of_lt_of_le hb.2 HLO.out.2.2.2.1) hz4)) hL)
        have HEN : Hid (Below w.heap.size w u4) := by
          have h1 : Below w.heap.size w wk := nx HB2.out HWK.out
          have h2 : Below wk.heap.size wk u4 := HB2K.out.trans (HC4.out.below (fun x hx => by have := HLO.out; omega) HB2K.out.size)
          exact h1.trans (h2.mono h1.size)
        clear k3 k7 hn3 hA7 hL hmab hn7 hz4 hC4
        go_upto_region 19 with (fail)
        rw [← hu4]
        clear hu4 z8 z9 f9
        unfold msV at HSM
        go_wp2_with (first
          | ((with_reducible show wpList _ _ _ (⟨some 99, _, _, _, _, _⟩ :: _) _ _); refine wpL_loadR rowMsZ rfl (.tmp 9) rfl ba rfl (mCells s3 Ma) HA4.out rfl ?_)
          | ((with_reducible show wpList _ _ _ (⟨some 100, _, _, _, _, _⟩ :: _) _ _); refine wpL_loadR rowMsZ rfl (.tmp 10) rfl bb rfl (mCells { s7 with Q := s3.Q, qc := s3.qc } Ma) HB4'.out rfl ?_)
          | (go_at_call 37; refine HSM.out.mono ?_; rintro e u5 ⟨v5, rfl, rfl, hb5⟩)
          | fail)
        go_ret
        exact ⟨rfl, nx HEN.out hb5⟩
theorem zoneCases_walk (zA RA qA : Option Addr) (zn zc rn rc qn qc : Nat) (zs qs : List (List UInt8)) (rs : List RR) (ty cl : Int) (w : World) (h : RdE encRR w RA rn rs) (hz : RdE encS w zA zn zs) (hq : RdE encS w qA qn qs) (hzc : zn ≤ zc ∧ zc ≤ maxLen) (hrc : rn ≤ rc ∧ rc ≤ maxLen) (hqc : qn ≤ qc ∧ qc ≤ maxLen) (hty : -9223372036854775808 ≤ ty ∧ ty ≤ 9223372036854775807) (hcl : -9223372036854775808 ≤ cl ∧ cl ≤ 9223372036854775807) :
    Calls Try.prog 12 #[.agg #[.slice zA zn zc, .slice RA rn rc], .agg #[.slice qA qn qc, .int .i64 ty, .int .i64 cl]] w (LawT w) := by
  by_cases hL : LtZ zs rs
  · by_cases hl : qn ≤ 130
    · exact zZoneCases_main zA RA qA zn zc rn rc qn qc zs qs rs ty cl w h hz hq hzc hrc hqc hty hcl hL hl
    · exact zZoneCases_name zA RA qA zn zc rn rc qn qc zs qs rs ty cl w h hz hq hzc hrc hqc (ltZ_yes hL) hl
  · exact zZoneCases_heavy zA RA qA zn zc rn rc qn qc zs qs rs ty cl w h hz hq hzc hrc hqc (ltZ_no hL)
end Go.Proofs.Ytimkdpkhdbiniaa
