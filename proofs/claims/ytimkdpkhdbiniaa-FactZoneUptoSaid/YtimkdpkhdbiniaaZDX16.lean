/- Parts of a proof, joined: Tel10. -/
import Derived.Test.YtimkdpkhdbiniaaZDX15
import Derived.Test.YtimkdpkhdbiniaaZDF05r
import Derived.Test.YtimkdpkhdbiniaaZDF00
/- fact.From, loosely (printed by gen/tel10.py). -/
namespace Go.Proofs.Ytimkdpkhdbiniaa
open Go.RowKit
set_option maxRecDepth 100000
set_option linter.unusedVariables false

/-- A fact that a response tells. -/
def FactG (p : TP) (f : Fa) : Prop := GoodA p p.m.an f ∨ NegF p f ∨ GoodR p f
theorem fineK_sm {r : RR} (h : FineK r) : SmR r ∧ (r.type = 6 → r.data.nums.length = 5) := by
  obtain ⟨_, hn, hd, _⟩ := h
  refine ⟨⟨soundN_short hn, hd.small⟩, fun e => ?_⟩
  rw [e] at hd
  have h3 : (r.data.nums.length : Int) = 5 := hd.2.2.2.1
  omega
theorem fineM_sm {m : Ms} (h : FineM m) : (m.an.length ≤ 512 ∧ m.au.length ≤ 512 ∧ m.ex.length ≤ 512) ∧ (∀ r ∈ m.an, SmR r) ∧ (∀ r ∈ m.au, SmR r ∧ (r.type = 6 → r.data.nums.length = 5)) ∧ ∀ r ∈ m.ex, SmR r := by
  have ht := h.tot
  unfold totM at ht
  exact ⟨by omega, fun r hr => (fineK_sm (h.an r hr)).1, fun r hr => fineK_sm (h.au r hr), fun r hr => (fineK_sm (h.ex r hr)).1⟩
/-- What From hands back. -/
def FromR (p : TP) (B : Nat) (v : Value) (w : World) : Prop := ∃ S out, OwnE (encFaL B) 48 S w B v out ∧ out.length ≤ 5000 ∧ ∀ f ∈ out, FactG p f



theorem from_end {p : TP} {w w4 w' : World} {t : Nat} {Y : Nat → Prop} {v' : Value} {out' : List Fa} (hB4 : Below w.heap.size w w4) (ht : t = w.heap.size + 2) (hT : TSt p w.heap.size Y w' t v' out') (hX : TX t w4 (.slice none 0 0) w' v') (hl : out'.length ≤ 5000) (hg : ∀ f ∈ out', FactG p f) : RetP (FromR p w.heap.size) w (.returned v') w' := by
  obtain ⟨S, ho, _⟩ := hT.O
  refine ⟨_, rfl, ⟨S, out', ho, hl, hg⟩, hB4.trans (hX.C.below (fun x hx => ?_) hB4.size)⟩
  rcases hx with hx | hx
  · omega
  · cases hx

set_option maxHeartbeats 16000000 in
theorem from_any (p : TP) (w : World) {S : Nat → Prop} (hm : MIn S w p.sm p.m) (hq : QIn S w p.sq p.q) (hz : Els encS S S w p.Z p.nz p.zs) (hzc : p.nz ≤ p.cz ∧ p.cz ≤ maxLen) (hS : ∀ b, S b → b < w.heap.size) (hL : LtM p.m) (hqn : p.q.name.length ≤ 1000) (hzn : p.nz ≤ 1000000000) (hi : i64S p.now) :
    Calls Try.prog 32 #[quV p.sq p.q, msV p.sm p.m, .slice p.Z p.nz p.cz, .int .i64 p.now] w (RetP (FromR p w.heap.size) w) := by
  by_cases hno : soundB p.q.name = false ∨ soundB p.zs = false ∨ timeB p.now = false ∨ askB p.q p.m = false
  · refine (from_none p.sq p.q p.sm p.m p.Z p.nz p.cz p.zs p.now w hm hq hz hS hL (by omega) hzn hno).mono ?_
    rintro e w1 ⟨v1, rfl, rfl, hb1⟩
    exact ⟨_, rfl, ⟨noS, [], OwnE.nil _ _ _ _, Nat.zero_le _, fun f hf => (List.not_mem_nil hf).elim⟩, hb1⟩
  have h0 : soundB p.q.name = true := by cases h : soundB p.q.name with
    | true => rfl
    | false => exact (hno (.inl h)).elim
  have h1 : soundB p.zs = true := by cases h : soundB p.zs with
    | true => rfl
    | false => exact (hno (.inr (.inl h))).elim
  have h2 : timeB p.now = true := by cases h : timeB p.now with
    | true => rfl
    | false => exact (hno (.inr (.inr (.inl h)))).elim
  have h3 : askB p.q p.m = true := by cases h : askB p.q p.m with
    | true => rfl
    | false => exact (hno (.inr (.inr (.inr h)))).elim
  have hfm : FineM p.m := by
    have h := h3
    unfold askB at h
    simp only [Bool.and_eq_true] at h
    by_cases hf : FineM p.m
    · exact hf
    · have h5 := h.1.1.1.1
      rw [fineM_no hf] at h5
      cases h5
  obtain ⟨⟨ha1, ha2, ha3⟩, hsa, hsu, hsx⟩ := fineM_sm hfm
  clear hno hfm
  obtain ⟨w1, hw1⟩ : ∃ w1, w1 = w.alloc (.cells (qCells p.sq p.q) 25) := ⟨_, rfl⟩
  obtain ⟨w2, hw2⟩ : ∃ w2, w2 = w1.alloc (.cells (mCells p.sm p.m) 31) := ⟨_, rfl⟩
  obtain ⟨w3, hw3⟩ : ∃ w3, w3 = w2.alloc (.cells (tCells p.sq p.q p.sm p.m p.Z p.nz p.cz p.now (.slice none 0 0)) 114) := ⟨_, rfl⟩
  have hb1 : Below w.heap.size w w1 := by rw [hw1]; exact bl.alloc (Nat.le_refl _) _
  have hb2 : Below w1.heap.size w1 w2 := by rw [hw2]; exact bl.alloc (Nat.le_refl _) _
  have hb3 : Below w2.heap.size w2 w3 := by rw [hw3]; exact bl.alloc (Nat.le_refl _) _
  have hbw : Below w.heap.size w w3 := nx (nx hb1 hb2) hb3
  have hz1 : w1.heap.size = w.heap.size + 1 := by rw [hw1]; simp
  have hz2 : w2.heap.size = w.heap.size + 2 := by rw [hw2]; simp; omega
  have hz3 : w3.heap.size = w.heap.size + 3 := by rw [hw3]; simp; omega
  obtain ⟨t, ht⟩ : ∃ t, t = w.heap.size + 2 := ⟨_, rfl⟩
  have HT : Hid (p.row w3 t (.slice none 0 0)) := by show TRow _ _ _ _ _ _ _ _ _ _ _; rw [hw3, ht, ← hz2]; exact heap_alloc_new w2 _
  have HQR : Hid (QRow w3 w.heap.size p.sq p.q) := by
    have h : QRow w1 w.heap.size p.sq p.q := by rw [hw1]; exact QRow.made w p.sq p.q
    exact (h.below hb2).below hb3
  have hMR : MRow w2 (w.heap.size + 1) p.sm p.m := by rw [hw2, ← hz1]; exact MRow.made w1 p.sm p.m
  have HMR : Hid (MRow w3 (w.heap.size + 1) p.sm p.m) := hMR.below hb3
  have hQ2 : QRow w2 w.heap.size p.sq p.q := by
    have h : QRow w1 w.heap.size p.sq p.q := by rw [hw1]; exact QRow.made w p.sq p.q
    exact h.below hb2
  have hS3 : ∀ b, S b → b < w3.heap.size := fun b hb => Nat.lt_of_lt_of_le (hS b hb) hbw.size
  have HG : Hid (TArg p w.heap.size w3) := ⟨(hm.below hbw hS).mono hS, (hq.below hbw hS).mono hS, (hz.below hbw hS hS).mono hS hS, hzc, hi⟩
  have HTS : Hid (TSt p w.heap.size (fun b => b = t) w3 t (.slice none 0 0) []) := ⟨HT.out, ⟨noS, OwnE.nil _ _ _ _, fun b hb => hb.elim⟩, HG.out, by omega, fun k hk => (by cases hk), rfl, fun b hb => by rw [hb]; omega⟩
  have HA := Lib.hid (asked_any t p.sq p.q p.sm p.m p.Z p.nz p.cz p.now (.slice none 0 0) w3 HT.out (hm.below hbw hS) (hq.below hbw hS) hS3 hL)
  have HNS := Lib.hid (sound_any p.sq.A p.q.name.length p.sq.c p.q.name w3 (hq.below hbw hS).n (by omega))
  have HZS := Lib.hid (sound_any p.Z p.nz p.cz p.zs w3 (hz.below hbw hS hS) hzn)
  have HTT := Lib.hid (ttime_any p.now w3)
  rw [h3] at HA
  rw [h0] at HNS
  rw [h1] at HZS
  rw [h2] at HTT
  have HBW := Lib.hid hbw
  have HSZ := Lib.hid hz3
  have HTE := Lib.hid ht
  have HSA := Lib.hid hsa
  have HSU := Lib.hid hsu
  have HSX := Lib.hid hsx
  have HAL : Hid (p.m.an.length ≤ 512 ∧ p.m.au.length ≤ 512 ∧ p.m.ex.length ≤ 512) := ⟨ha1, ha2, ha3⟩
  have HQN := Lib.hid hqn
  have HZN := Lib.hid hzn
  obtain ⟨x0, x1, x2⟩ := hQ2.cells
  obtain ⟨y0, y1, y2⟩ := HQR.out.cells
  obtain ⟨z0, z1, z2, z3, z4, z5, z6, z7, z8, z9, z10, z11, z12, z13⟩ := hMR.cells
  have hz2' : w2.heap.size = t := by omega
  have hz2'' : w.heap.size + 1 + 1 = t := by omega
  unfold quV msV
  unfold qCells at hw1
  unfold mCells at hw2 ⊢
  unfold tCells at hw3
  clear hm hq hz hzc hS hL hqn hzn hi hb1 hb2 hb3 hbw hz1 hz2 hz3 hMR hQ2 hS3 h0 h1 h2 h3 ha1 ha2 ha3 hsa hsu hsx ht
  go_enter Try.func32, Try.ntmps32
  go_upto_region 1 with (fail)
  rw [← hw1, ← hw2]
  clear hw1 hw2
  go_upto_region 2 with (fail)
  rw [← hw3]
  clear hw3 x0 x1 x2 z0 z1 z2 z3 z4 z5 z6 z7 z8 z9 z10 z11 z12 z13
  clear hz2' hz2''
  go_upto_region 4 with (first
    | (go_at_call 69; (with_reducible refine HA.out.mono ?_); rintro e w4 ⟨v4, rfl, rfl, hb4⟩; have HB4 := Lib.hid hb4; clear hb4)
    | (go_at_call 62; refine HTT.out.mono ?_; rintro e w0 ⟨rfl, rfl⟩)
    | (go_at_call 61; (with_reducible refine HNS.out.mono ?_); rintro e w0 ⟨rfl, rfl⟩)
    | (go_at_call 61; (with_reducible refine HZS.out.mono ?_); rintro e w0 ⟨rfl, rfl⟩)
    | fail)
  clear y0 y1 y2
  have HT4 : Hid (TSt p w.heap.size (fun b => b = t) w4 t (.slice none 0 0) []) := HTS.out.below HB4.out
  have HCH := Lib.hid (chain_any p w.heap.size t _ _ [] w4 HT4.out HQN.out HZN.out (by have := HAL.out.1; omega) HSA.out (Nat.zero_le _))
  go_upto_region 5 with (go_at_call 70; refine HCH.out.mono ?_; rintro e w5 ⟨A, c, ns, v5, out5, rfl, hT5, hX5, hN5, hol5, hg5⟩; have HT5 := Lib.hid hT5; have HX5 := Lib.hid hX5; have HN5 := Lib.hid hN5; have HO5 := Lib.hid hol5; have HG5 := Lib.hid hg5; clear hT5 hX5 hN5 hol5 hg5)
  have HAN := Lib.hid (answers_any p w.heap.size t _ v5 out5 w5 A c ns HT5.out HN5.out HZN.out (by have := HAL.out.1; omega) HSA.out (by have := HO5.out; simp at this; omega))
  have HAN5 := Lib.hid (answers_any p w.heap.size t _ v5 out5 w5 A c ns HT5.out HN5.out HZN.out (by have := HAL.out.1; omega) HSA.out (by have := HO5.out; simp at this; omega))
  have HGG5 : Hid (∀ f ∈ out5, FactG p f) := fun f hf => (HG5.out f hf).elim (fun h => (List.not_mem_nil h).elim) .inl
  have HO5' : Hid (out5.length ≤ 16) := by have h := HO5.out; simp at h; exact h
  have HB04 : Hid (Below w.heap.size w w4) := nx HBW.out HB4.out
  have HM4 : Hid (MRow w4 (w.heap.size + 1) p.sm p.m) := HMR.out.below HB4.out
  have HM4L : Hid (w.heap.size + 1 < w4.heap.size) := by show _ < _; have h1 := HSZ.out; have h2 := HB4.out.size; omega
  go_wp2_with (first
    | (go_at_call 71
       refine HAN5.out.mono ?_
       rintro e w6 ⟨r6, v6, out6, rfl, hT6, hX6, b6, rfl, hol6, hg6⟩
       have HT6 := Lib.hid hT6
       have HX6 := Lib.hid hX6
       have HO6 := Lib.hid hol6
       have HG6 := Lib.hid hg6
       clear hT6 hX6 hol6 hg6
       have HXC6 : Hid (TX t w4 (.slice none 0 0) w6 v6) := HX5.out.trans HX6.out
       have HNM6 : Hid (NmIn w6 (fun b => b = t ∨ v6.ownBlock = some b) A c ns) := HN5.out.tx HX6.out
       have HGA6 : Hid (∀ f ∈ out6, FactG p f) := fun f hf => (HG6.out f hf).elim (fun h => HGG5.out f h) .inl
       have HLA6 : Hid (out6.length ≤ 600) := by show _ ≤ _; have h1 := HO6.out; have h2 := HO5'.out; have h3 := HAL.out.1; omega
       cases b6
       rotate_left
       ·
         have HM6 : Hid (MRow w6 (w.heap.size + 1) p.sm p.m) := (HXC6.out.keep HM4L.out (by have := HTE.out; omega) (fun z hz => by cases hz)).trans HM4.out
         have c19 : w6.cell? ⟨t, 19, none⟩ = some v6 := (TRow.cells20 HT6.out.T).2.2.1
         have z9 : w6.cell? ⟨w.heap.size + 1, 9, none⟩ = some (.slice p.sm.A p.m.an.length p.sm.ac) := (HM6.out.cell 9).trans rfl
         have z7 : w6.cell? ⟨w.heap.size + 1, 7, none⟩ = some (.int .i64 p.m.rcode) := (HM6.out.cell 7).trans rfl
         have HGG6 : Hid (∀ f ∈ out6, FactG p f) := HGA6.out
         have HL6 : Hid (out6.length ≤ 1200) := by show _ ≤ _; have := HLA6.out; omega
         by_cases hae : p.m.an.length = 0
         rotate_left
         · have hae' : ((p.m.an.length : Int) == 0) = false := beq_eq_false_iff_ne.2 (by omega)
           go_wp2
           go_ret
           exact from_end HB04.out HTE.out HT6.out HXC6.out (by have := HL6.out; omega) HGG6.out
         rw [hae] at z9
         by_cases hrc : p.m.rcode = 3
         · rw [hrc] at z7
           go_wp2
           go_ret
           exact from_end HB04.out HTE.out HT6.out HXC6.out (by have := HL6.out; omega) HGG6.out
         have hrc' : (p.m.rcode == 3) = false := beq_eq_false_iff_ne.2 hrc
         have HRF6 := Lib.hid (referral_any p w.heap.size t _ v6 out6 w6 HT6.out HQN.out HZN.out (by have := HAL.out.2.1; omega) (by have := HAL.out.2.2; omega) (fun r hr => (HSU.out r hr).1) HSX.out (by have := HL6.out; omega))
         clear c19 hae
         go_wp2_with (go_at_call 73; refine HRF6.out.mono ?_; rintro e w9 ⟨r9, v9, out9, rfl, hT9, hX9, rfl, hol9, hg9⟩; have HT9 := Lib.hid hT9; have HX9 := Lib.hid hX9; have HO9 := Lib.hid hol9; have HG9 := Lib.hid hg9; have c19 : w9.cell? ⟨t, 19, none⟩ = some v9 := (TRow.cells20 hT9.T).2.2.1; clear hT9 hX9 hol9 hg9)
         go_ret
         exact from_end HB04.out HTE.out HT9.out (HXC6.out.trans HX9.out) (by have h1 := HL6.out; have h2 := HO9.out; omega) (fun f hf => (HG9.out f hf).elim (fun h => HGG6.out f h) (fun h => .inr (.inr h)))
       have HNG := Lib.hid (negative_any p w.heap.size t _ v6 out6 w6 A c ns HT6.out HNM6.out HZN.out (by have := HAL.out.2.1; omega) HSU.out (by have := HLA6.out; omega)))
    | (go_at_call 72; refine HNG.out.mono ?_; rintro e w8 ⟨r8, v8, out8, rfl, hT8, hX8, rfl, hol8, hg8⟩
       have HT8 := Lib.hid hT8
       have HX8 := Lib.hid hX8
       have HO8 := Lib.hid hol8
       have HG8 := Lib.hid hg8
       clear hT8 hX8 hol8 hg8
       have HXC8 : Hid (TX t w4 (.slice none 0 0) w8 v8) := HXC6.out.trans HX8.out
       have HM8 : Hid (MRow w8 (w.heap.size + 1) p.sm p.m) := (HXC8.out.keep HM4L.out (by have := HTE.out; omega) (fun z hz => by cases hz)).trans HM4.out
       have c19 : w8.cell? ⟨t, 19, none⟩ = some v8 := (TRow.cells20 HT8.out.T).2.2.1
       have z9 : w8.cell? ⟨w.heap.size + 1, 9, none⟩ = some (.slice p.sm.A p.m.an.length p.sm.ac) := (HM8.out.cell 9).trans rfl
       have z7 : w8.cell? ⟨w.heap.size + 1, 7, none⟩ = some (.int .i64 p.m.rcode) := (HM8.out.cell 7).trans rfl
       have HGG8 : Hid (∀ f ∈ out8, FactG p f) := fun f hf => (HG8.out f hf).elim (fun h => HGA6.out f h) (fun h => .inr (.inl h))
       have HL8 : Hid (out8.length ≤ 1200) := by show _ ≤ _; have h1 := HO8.out; have h2 := HLA6.out; have h3 := HAL.out.2.1; omega
       by_cases hae : p.m.an.length = 0
       rotate_left
       · have hae' : ((p.m.an.length : Int) == 0) = false := beq_eq_false_iff_ne.2 (by omega)
         go_wp2
         go_ret
         exact from_end HB04.out HTE.out HT8.out HXC8.out (by have := HL8.out; omega) HGG8.out
       rw [hae] at z9
       by_cases hrc : p.m.rcode = 3
       · rw [hrc] at z7
         go_wp2
         go_ret
         exact from_end HB04.out HTE.out HT8.out HXC8.out (by have := HL8.out; omega) HGG8.out
       have hrc' : (p.m.rcode == 3) = false := beq_eq_false_iff_ne.2 hrc
       have HRF8 := Lib.hid (referral_any p w.heap.size t _ v8 out8 w8 HT8.out HQN.out HZN.out (by have := HAL.out.2.1; omega) (by have := HAL.out.2.2; omega) (fun r hr => (HSU.out r hr).1) HSX.out (by have := HL8.out; omega))
       clear c19 hae
       go_wp2_with (go_at_call 73; refine HRF8.out.mono ?_; rintro e w9 ⟨r9, v9, out9, rfl, hT9, hX9, rfl, hol9, hg9⟩; have HT9 := Lib.hid hT9; have HX9 := Lib.hid hX9; have HO9 := Lib.hid hol9; have HG9 := Lib.hid hg9; have c19 : w9.cell? ⟨t, 19, none⟩ = some v9 := (TRow.cells20 hT9.T).2.2.1; clear hT9 hX9 hol9 hg9)
       go_ret
       exact from_end HB04.out HTE.out HT9.out (HXC8.out.trans HX9.out) (by have h1 := HL8.out; have h2 := HO9.out; omega) (fun f hf => (HG9.out f hf).elim (fun h => HGG8.out f h) (fun h => .inr (.inr h))))
    | fail)
end Go.Proofs.Ytimkdpkhdbiniaa
