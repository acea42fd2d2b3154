/- What a record says, in memory; whether two say the same: the program's and the reference's. -/
import Derived.Test.YtjpkddmdhdmhgaaEqN
namespace Go.Proofs.Ytjpkddmdhdmhgaa
open Go.RowKit
set_option maxRecDepth 100000

structure Da where
  bytes : List UInt8
  host : List (List UInt8)
  mail : List (List UInt8)
  nums : List Int
  texts : List (List UInt8)
/-- Where its five slices lead, and their capacities. -/
structure DS where
  A0 : Option Addr
  A1 : Option Addr
  A2 : Option Addr
  A3 : Option Addr
  A4 : Option Addr
  c0 : Nat
  c1 : Nat
  c2 : Nat
  c3 : Nat
  c4 : Nat
def dsV (s : DS) (x : Da) : Value := .agg #[.slice s.A0 x.bytes.length s.c0, .slice s.A1 x.host.length s.c1, .slice s.A2 x.mail.length s.c2, .slice s.A3 x.nums.length s.c3, .slice s.A4 x.texts.length s.c4]
structure DRd (w : World) (s : DS) (x : Da) : Prop where
  b : RdB w s.A0 x.bytes.length x.bytes
  h : RdE encS w s.A1 x.host.length x.host
  m : RdE encS w s.A2 x.mail.length x.mail
  n : RdE encI w s.A3 x.nums.length x.nums
  t : RdE encS w s.A4 x.texts.length x.texts
  cb : x.bytes.length ≤ s.c0 ∧ s.c0 ≤ maxLen
  ch : x.host.length ≤ s.c1 ∧ s.c1 ≤ maxLen
  cm : x.mail.length ≤ s.c2 ∧ s.c2 ≤ maxLen
  cn : x.nums.length ≤ s.c3 ∧ s.c3 ≤ maxLen
  ct : x.texts.length ≤ s.c4 ∧ s.c4 ≤ maxLen
theorem DRd.below {w w' : World} {s : DS} {x : Da} (h : DRd w s x) (hb : Below w.heap.size w w') : DRd w' s x :=
  ⟨h.b.below hb, h.h.below hb, h.m.below hb, h.n.below hb, h.t.below hb, h.cb, h.ch, h.cm, h.cn, h.ct⟩
/-- It lies in a block of its own. -/
def DBox (w : World) (q : Nat) (s : DS) (x : Da) : Prop :=
  w.cell? ⟨q, 0, none⟩ = some (.slice s.A0 x.bytes.length s.c0) ∧ w.cell? ⟨q, 1, none⟩ = some (.slice s.A1 x.host.length s.c1) ∧ w.cell? ⟨q, 2, none⟩ = some (.slice s.A2 x.mail.length s.c2) ∧ w.cell? ⟨q, 3, none⟩ = some (.slice s.A3 x.nums.length s.c3) ∧ w.cell? ⟨q, 4, none⟩ = some (.slice s.A4 x.texts.length s.c4)
theorem DBox.made (w : World) (s : DS) (x : Da) (e : TypeId) : DBox (w.alloc (.cells #[.slice s.A0 x.bytes.length s.c0, .slice s.A1 x.host.length s.c1, .slice s.A2 x.mail.length s.c2, .slice s.A3 x.nums.length s.c3, .slice s.A4 x.texts.length s.c4] e)) w.heap.size s x :=
  ⟨new_cell w _ _ 0, new_cell w _ _ 1, new_cell w _ _ 2, new_cell w _ _ 3, new_cell w _ _ 4⟩
theorem DBox.below {w w' : World} {q : Nat} {s : DS} {x : Da} (h : DBox w q s x) (hb : Below w.heap.size w w') : DBox w' q s x := by
  obtain ⟨h0, h1, h2, h3, h4⟩ := h
  exact ⟨below_cell hb h0, below_cell hb h1, below_cell hb h2, below_cell hb h3, below_cell hb h4⟩
theorem DBox.lt {w : World} {q : Nat} {s : DS} {x : Da} (h : DBox w q s x) : q < w.heap.size := by
  have := World.block_lt_of_cell? w _ h.1
  exact this

/-- Do both say the same? -/
def sameD (x y : Da) : Bool := decide (x.bytes = y.bytes ∧ x.nums = y.nums ∧ x.texts = y.texts ∧ lowN x.host = lowN y.host ∧ lowN x.mail = lowN y.mail)
theorem sameD_true {x y : Da} (h0 : x.bytes = y.bytes) (h1 : x.nums = y.nums) (h2 : x.texts = y.texts) (h3 : lowN x.host = lowN y.host) (h4 : lowN x.mail = lowN y.mail) : sameD x y = true := decide_eq_true ⟨h0, h1, h2, h3, h4⟩
theorem sameD_iff {x y : Da} : sameD x y = true ↔ x.bytes = y.bytes ∧ x.nums = y.nums ∧ x.texts = y.texts ∧ lowN x.host = lowN y.host ∧ lowN x.mail = lowN y.mail := decide_eq_true_iff
theorem sameD_comm (x y : Da) : sameD x y = sameD y x := by
  rw [Bool.eq_iff_iff, sameD_iff, sameD_iff]
  exact ⟨fun ⟨a, b, c, d, e⟩ => ⟨a.symm, b.symm, c.symm, d.symm, e.symm⟩, fun ⟨a, b, c, d, e⟩ => ⟨a.symm, b.symm, c.symm, d.symm, e.symm⟩⟩
theorem sameD_false {x y : Da} (h : ¬ (x.bytes = y.bytes ∧ x.nums = y.nums ∧ x.texts = y.texts ∧ lowN x.host = lowN y.host ∧ lowN x.mail = lowN y.mail)) : sameD x y = false := decide_eq_false h

set_option maxHeartbeats 4000000 in
theorem psame_any (s r : DS) (x y : Da) (w : World) (hx : DRd w s x) (hy : DRd w r y) : Calls Try.prog 58 #[dsV s x, dsV r y] w (RetP (fun v _ => v = .bool (sameD x y)) w) := by
  unfold dsV
  obtain ⟨w0, hw0⟩ : ∃ w0, w0 = (w.alloc (.cells #[.slice s.A0 x.bytes.length s.c0, .slice s.A1 x.host.length s.c1, .slice s.A2 x.mail.length s.c2, .slice s.A3 x.nums.length s.c3, .slice s.A4 x.texts.length s.c4] 102)).alloc (.cells #[.slice r.A0 y.bytes.length r.c0, .slice r.A1 y.host.length r.c1, .slice r.A2 y.mail.length r.c2, .slice r.A3 y.nums.length r.c3, .slice r.A4 y.texts.length r.c4] 102) := ⟨_, rfl⟩
  have hbA : Below w.heap.size w (w.alloc (.cells #[.slice s.A0 x.bytes.length s.c0, .slice s.A1 x.host.length s.c1, .slice s.A2 x.mail.length s.c2, .slice s.A3 x.nums.length s.c3, .slice s.A4 x.texts.length s.c4] 102)) := bl.alloc (Nat.le_refl _) _
  have hb0 : Below w.heap.size w w0 := by rw [hw0]; exact nx hbA (bl.alloc (Nat.le_refl _) _)
  have HX0 := Lib.hid (hx.below hb0)
  have HY0 := Lib.hid (hy.below hb0)
  have BX0 : Hid (DBox w0 w.heap.size s x) := by show DBox _ _ _ _; rw [hw0]; exact (DBox.made w s x _).below (bl.alloc (Nat.le_refl _) _)
  have BY0 : Hid (DBox w0 (w.heap.size + 1) r y) := by
    show DBox _ _ _ _
    rw [hw0]
    have := DBox.made (w.alloc (.cells #[.slice s.A0 x.bytes.length s.c0, .slice s.A1 x.host.length s.c1, .slice s.A2 x.mail.length s.c2, .slice s.A3 x.nums.length s.c3, .slice s.A4 x.texts.length s.c4] 102)) r y 102
    rw [show (w.alloc (.cells #[.slice s.A0 x.bytes.length s.c0, .slice s.A1 x.host.length s.c1, .slice s.A2 x.mail.length s.c2, .slice s.A3 x.nums.length s.c3, .slice s.A4 x.texts.length s.c4] 102)).heap.size = w.heap.size + 1 by simp] at this
    exact this
  clear hx hy hbA
  obtain ⟨a00, a01, a02, a03, a04⟩ := BX0.out
  obtain ⟨b00, b01, b02, b03, b04⟩ := BY0.out
  go_enter Try.func58, Try.ntmps58
  go_upto_region 1 with (fail)
  rw [← hw0]
  clear hw0
  by_cases e0 : x.bytes = y.bytes
  · have E0 := Lib.hid e0
    clear e0
    by_cases e1 : x.nums = y.nums
    · have E1 := Lib.hid e1
      clear e1
      by_cases e2 : x.texts = y.texts
      · have E2 := Lib.hid e2
        clear e2
        by_cases e3 : lowN x.host = lowN y.host
        · have E3 := Lib.hid e3
          clear e3
          by_cases e4 : lowN x.mail = lowN y.mail
          · have E4 := Lib.hid e4
            clear e4
            go_wp2_with (first
              | (go_at_call 82; refine (nequal_any _ _ _ _ _ _ x.mail y.mail w4 HX4.out.m HY4.out.m (Nat.le_trans HX4.out.cm.1 HX4.out.cm.2) (Nat.le_trans HY4.out.cm.1 HY4.out.cm.2)).mono ?_; rw [decide_eq_true E4.out]; rintro e w5 ⟨v5, rfl, rfl, hb5⟩; have HX5 := Lib.hid (HX4.out.below hb5); have HY5 := Lib.hid (HY4.out.below hb5); have BX5 := Lib.hid (BX4.out.below hb5); have BY5 := Lib.hid (BY4.out.below hb5); obtain ⟨a50, a51, a52, a53, a54⟩ := BX5.out; obtain ⟨b50, b51, b52, b53, b54⟩ := BY5.out)
              | (go_at_call 82; refine (nequal_any _ _ _ _ _ _ x.host y.host w3 HX3.out.h HY3.out.h (Nat.le_trans HX3.out.ch.1 HX3.out.ch.2) (Nat.le_trans HY3.out.ch.1 HY3.out.ch.2)).mono ?_; rw [decide_eq_true E3.out]; rintro e w4 ⟨v4, rfl, rfl, hb4⟩; have HX4 := Lib.hid (HX3.out.below hb4); have HY4 := Lib.hid (HY3.out.below hb4); have BX4 := Lib.hid (BX3.out.below hb4); have BY4 := Lib.hid (BY3.out.below hb4); obtain ⟨a40, a41, a42, a43, a44⟩ := BX4.out; obtain ⟨b40, b41, b42, b43, b44⟩ := BY4.out)
              | (go_at_call 81; refine (seqS_any _ _ _ _ _ _ x.texts y.texts w2 HX2.out.t HY2.out.t (Nat.le_trans HX2.out.ct.1 HX2.out.ct.2) (Nat.le_trans HY2.out.ct.1 HY2.out.ct.2)).mono ?_; rw [decide_eq_true E2.out]; rintro e w3 ⟨rfl, m3, hw3⟩; have hb3 : Below w2.heap.size w2 w3 := (by rw [hw3]; exact dN bl m3); clear hw3; have HX3 := Lib.hid (HX2.out.below hb3); have HY3 := Lib.hid (HY2.out.below hb3); have BX3 := Lib.hid (BX2.out.below hb3); have BY3 := Lib.hid (BY2.out.below hb3); obtain ⟨a30, a31, a32, a33, a34⟩ := BX3.out; obtain ⟨b30, b31, b32, b33, b34⟩ := BY3.out)
              | (go_at_call 80; refine (seqI_any _ _ _ _ _ _ x.nums y.nums w1 HX1.out.n HY1.out.n (Nat.le_trans HX1.out.cn.1 HX1.out.cn.2) (Nat.le_trans HY1.out.cn.1 HY1.out.cn.2)).mono ?_; rw [decide_eq_true E1.out]; rintro e w2 ⟨rfl, m2, hw2⟩; have hb2 : Below w1.heap.size w1 w2 := (by rw [hw2]; exact dN bl m2); clear hw2; have HX2 := Lib.hid (HX1.out.below hb2); have HY2 := Lib.hid (HY1.out.below hb2); have BX2 := Lib.hid (BX1.out.below hb2); have BY2 := Lib.hid (BY1.out.below hb2); obtain ⟨a20, a21, a22, a23, a24⟩ := BX2.out; obtain ⟨b20, b21, b22, b23, b24⟩ := BY2.out)
              | (go_at_call 79; refine (seqB_any _ _ _ _ _ _ x.bytes y.bytes w0 HX0.out.b HY0.out.b (Nat.le_trans HX0.out.cb.1 HX0.out.cb.2) (Nat.le_trans HY0.out.cb.1 HY0.out.cb.2)).mono ?_; rw [decide_eq_true E0.out]; rintro e w1 ⟨rfl, m1, hw1⟩; have hb1 : Below w0.heap.size w0 w1 := (by rw [hw1]; exact dN bl m1); clear hw1; have HX1 := Lib.hid (HX0.out.below hb1); have HY1 := Lib.hid (HY0.out.below hb1); have BX1 := Lib.hid (BX0.out.below hb1); have BY1 := Lib.hid (BY0.out.below hb1); obtain ⟨a10, a11, a12, a13, a14⟩ := BX1.out; obtain ⟨b10, b11, b12, b13, b14⟩ := BY1.out)
              | fail)
            go_ret
            exact ⟨_, rfl, by rw [sameD_true E0.out E1.out E2.out E3.out E4.out]; rfl, (nx (nx (nx (nx (nx hb0 hb1) hb2) hb3) hb4) hb5)⟩
          · have E4 := Lib.hid e4
            clear e4
            go_wp2_with (first
              | (go_at_call 82; refine (nequal_any _ _ _ _ _ _ x.mail y.mail w4 HX4.out.m HY4.out.m (Nat.le_trans HX4.out.cm.1 HX4.out.cm.2) (Nat.le_trans HY4.out.cm.1 HY4.out.cm.2)).mono ?_; rw [decide_eq_false E4.out]; rintro e w5 ⟨v5, rfl, rfl, hb5⟩; have HX5 := Lib.hid (HX4.out.below hb5); have HY5 := Lib.hid (HY4.out.below hb5); have BX5 := Lib.hid (BX4.out.below hb5); have BY5 := Lib.hid (BY4.out.below hb5); obtain ⟨a50, a51, a52, a53, a54⟩ := BX5.out; obtain ⟨b50, b51, b52, b53, b54⟩ := BY5.out)
              | (go_at_call 82; refine (nequal_any _ _ _ _ _ _ x.host y.host w3 HX3.out.h HY3.out.h (Nat.le_trans HX3.out.ch.1 HX3.out.ch.2) (Nat.le_trans HY3.out.ch.1 HY3.out.ch.2)).mono ?_; rw [decide_eq_true E3.out]; rintro e w4 ⟨v4, rfl, rfl, hb4⟩; have HX4 := Lib.hid (HX3.out.below hb4); have HY4 := Lib.hid (HY3.out.below hb4); have BX4 := Lib.hid (BX3.out.below hb4); have BY4 := Lib.hid (BY3.out.below hb4); obtain ⟨a40, a41, a42, a43, a44⟩ := BX4.out; obtain ⟨b40, b41, b42, b43, b44⟩ := BY4.out)
              | (go_at_call 81; refine (seqS_any _ _ _ _ _ _ x.texts y.texts w2 HX2.out.t HY2.out.t (Nat.le_trans HX2.out.ct.1 HX2.out.ct.2) (Nat.le_trans HY2.out.ct.1 HY2.out.ct.2)).mono ?_; rw [decide_eq_true E2.out]; rintro e w3 ⟨rfl, m3, hw3⟩; have hb3 : Below w2.heap.size w2 w3 := (by rw [hw3]; exact dN bl m3); clear hw3; have HX3 := Lib.hid (HX2.out.below hb3); have HY3 := Lib.hid (HY2.out.below hb3); have BX3 := Lib.hid (BX2.out.below hb3); have BY3 := Lib.hid (BY2.out.below hb3); obtain ⟨a30, a31, a32, a33, a34⟩ := BX3.out; obtain ⟨b30, b31, b32, b33, b34⟩ := BY3.out)
              | (go_at_call 80; refine (seqI_any _ _ _ _ _ _ x.nums y.nums w1 HX1.out.n HY1.out.n (Nat.le_trans HX1.out.cn.1 HX1.out.cn.2) (Nat.le_trans HY1.out.cn.1 HY1.out.cn.2)).mono ?_; rw [decide_eq_true E1.out]; rintro e w2 ⟨rfl, m2, hw2⟩; have hb2 : Below w1.heap.size w1 w2 := (by rw [hw2]; exact dN bl m2); clear hw2; have HX2 := Lib.hid (HX1.out.below hb2); have HY2 := Lib.hid (HY1.out.below hb2); have BX2 := Lib.hid (BX1.out.below hb2); have BY2 := Lib.hid (BY1.out.below hb2); obtain ⟨a20, a21, a22, a23, a24⟩ := BX2.out; obtain ⟨b20, b21, b22, b23, b24⟩ := BY2.out)
              | (go_at_call 79; refine (seqB_any _ _ _ _ _ _ x.bytes y.bytes w0 HX0.out.b HY0.out.b (Nat.le_trans HX0.out.cb.1 HX0.out.cb.2) (Nat.le_trans HY0.out.cb.1 HY0.out.cb.2)).mono ?_; rw [decide_eq_true E0.out]; rintro e w1 ⟨rfl, m1, hw1⟩; have hb1 : Below w0.heap.size w0 w1 := (by rw [hw1]; exact dN bl m1); clear hw1; have HX1 := Lib.hid (HX0.out.below hb1); have HY1 := Lib.hid (HY0.out.below hb1); have BX1 := Lib.hid (BX0.out.below hb1); have BY1 := Lib.hid (BY0.out.below hb1); obtain ⟨a10, a11, a12, a13, a14⟩ := BX1.out; obtain ⟨b10, b11, b12, b13, b14⟩ := BY1.out)
              | fail)
            go_ret
            exact ⟨_, rfl, by rw [sameD_false (fun h => E4.out h.2.2.2.2)]; rfl, (nx (nx (nx (nx (nx hb0 hb1) hb2) hb3) hb4) hb5)⟩
        · have E3 := Lib.hid e3
          clear e3
          go_wp2_with (first
            | (go_at_call 82; refine (nequal_any _ _ _ _ _ _ x.host y.host w3 HX3.out.h HY3.out.h (Nat.le_trans HX3.out.ch.1 HX3.out.ch.2) (Nat.le_trans HY3.out.ch.1 HY3.out.ch.2)).mono ?_; rw [decide_eq_false E3.out]; rintro e w4 ⟨v4, rfl, rfl, hb4⟩; have HX4 := Lib.hid (HX3.out.below hb4); have HY4 := Lib.hid (HY3.out.below hb4); have BX4 := Lib.hid (BX3.out.below hb4); have BY4 := Lib.hid (BY3.out.below hb4); obtain ⟨a40, a41, a42, a43, a44⟩ := BX4.out; obtain ⟨b40, b41, b42, b43, b44⟩ := BY4.out)
            | (go_at_call 81; refine (seqS_any _ _ _ _ _ _ x.texts y.texts w2 HX2.out.t HY2.out.t (Nat.le_trans HX2.out.ct.1 HX2.out.ct.2) (Nat.le_trans HY2.out.ct.1 HY2.out.ct.2)).mono ?_; rw [decide_eq_true E2.out]; rintro e w3 ⟨rfl, m3, hw3⟩; have hb3 : Below w2.heap.size w2 w3 := (by rw [hw3]; exact dN bl m3); clear hw3; have HX3 := Lib.hid (HX2.out.below hb3); have HY3 := Lib.hid (HY2.out.below hb3); have BX3 := Lib.hid (BX2.out.below hb3); have BY3 := Lib.hid (BY2.out.below hb3); obtain ⟨a30, a31, a32, a33, a34⟩ := BX3.out; obtain ⟨b30, b31, b32, b33, b34⟩ := BY3.out)
            | (go_at_call 80; refine (seqI_any _ _ _ _ _ _ x.nums y.nums w1 HX1.out.n HY1.out.n (Nat.le_trans HX1.out.cn.1 HX1.out.cn.2) (Nat.le_trans HY1.out.cn.1 HY1.out.cn.2)).mono ?_; rw [decide_eq_true E1.out]; rintro e w2 ⟨rfl, m2, hw2⟩; have hb2 : Below w1.heap.size w1 w2 := (by rw [hw2]; exact dN bl m2); clear hw2; have HX2 := Lib.hid (HX1.out.below hb2); have HY2 := Lib.hid (HY1.out.below hb2); have BX2 := Lib.hid (BX1.out.below hb2); have BY2 := Lib.hid (BY1.out.below hb2); obtain ⟨a20, a21, a22, a23, a24⟩ := BX2.out; obtain ⟨b20, b21, b22, b23, b24⟩ := BY2.out)
            | (go_at_call 79; refine (seqB_any _ _ _ _ _ _ x.bytes y.bytes w0 HX0.out.b HY0.out.b (Nat.le_trans HX0.out.cb.1 HX0.out.cb.2) (Nat.le_trans HY0.out.cb.1 HY0.out.cb.2)).mono ?_; rw [decide_eq_true E0.out]; rintro e w1 ⟨rfl, m1, hw1⟩; have hb1 : Below w0.heap.size w0 w1 := (by rw [hw1]; exact dN bl m1); clear hw1; have HX1 := Lib.hid (HX0.out.below hb1); have HY1 := Lib.hid (HY0.out.below hb1); have BX1 := Lib.hid (BX0.out.below hb1); have BY1 := Lib.hid (BY0.out.below hb1); obtain ⟨a10, a11, a12, a13, a14⟩ := BX1.out; obtain ⟨b10, b11, b12, b13, b14⟩ := BY1.out)
            | fail)
          go_ret
          exact ⟨_, rfl, by rw [sameD_false (fun h => E3.out h.2.2.2.1)]; rfl, (nx (nx (nx (nx hb0 hb1) hb2) hb3) hb4)⟩
      · have E2 := Lib.hid e2
        clear e2
        go_wp2_with (first
          | (go_at_call 81; refine (seqS_any _ _ _ _ _ _ x.texts y.texts w2 HX2.out.t HY2.out.t (Nat.le_trans HX2.out.ct.1 HX2.out.ct.2) (Nat.le_trans HY2.out.ct.1 HY2.out.ct.2)).mono ?_; rw [decide_eq_false E2.out]; rintro e w3 ⟨rfl, m3, hw3⟩; have hb3 : Below w2.heap.size w2 w3 := (by rw [hw3]; exact dN bl m3); clear hw3; have HX3 := Lib.hid (HX2.out.below hb3); have HY3 := Lib.hid (HY2.out.below hb3); have BX3 := Lib.hid (BX2.out.below hb3); have BY3 := Lib.hid (BY2.out.below hb3); obtain ⟨a30, a31, a32, a33, a34⟩ := BX3.out; obtain ⟨b30, b31, b32, b33, b34⟩ := BY3.out)
          | (go_at_call 80; refine (seqI_any _ _ _ _ _ _ x.nums y.nums w1 HX1.out.n HY1.out.n (Nat.le_trans HX1.out.cn.1 HX1.out.cn.2) (Nat.le_trans HY1.out.cn.1 HY1.out.cn.2)).mono ?_; rw [decide_eq_true E1.out]; rintro e w2 ⟨rfl, m2, hw2⟩; have hb2 : Below w1.heap.size w1 w2 := (by rw [hw2]; exact dN bl m2); clear hw2; have HX2 := Lib.hid (HX1.out.below hb2); have HY2 := Lib.hid (HY1.out.below hb2); have BX2 := Lib.hid (BX1.out.below hb2); have BY2 := Lib.hid (BY1.out.below hb2); obtain ⟨a20, a21, a22, a23, a24⟩ := BX2.out; obtain ⟨b20, b21, b22, b23, b24⟩ := BY2.out)
          | (go_at_call 79; refine (seqB_any _ _ _ _ _ _ x.bytes y.bytes w0 HX0.out.b HY0.out.b (Nat.le_trans HX0.out.cb.1 HX0.out.cb.2) (Nat.le_trans HY0.out.cb.1 HY0.out.cb.2)).mono ?_; rw [decide_eq_true E0.out]; rintro e w1 ⟨rfl, m1, hw1⟩; have hb1 : Below w0.heap.size w0 w1 := (by rw [hw1]; exact dN bl m1); clear hw1; have HX1 := Lib.hid (HX0.out.below hb1); have HY1 := Lib.hid (HY0.out.below hb1); have BX1 := Lib.hid (BX0.out.below hb1); have BY1 := Lib.hid (BY0.out.below hb1); obtain ⟨a10, a11, a12, a13, a14⟩ := BX1.out; obtain ⟨b10, b11, b12, b13, b14⟩ := BY1.out)
          | fail)
        go_ret
        exact ⟨_, rfl, by rw [sameD_false (fun h => E2.out h.2.2.1)]; rfl, (nx (nx (nx hb0 hb1) hb2) hb3)⟩
    · have E1 := Lib.hid e1
      clear e1
      go_wp2_with (first
        | (go_at_call 80; refine (seqI_any _ _ _ _ _ _ x.nums y.nums w1 HX1.out.n HY1.out.n (Nat.le_trans HX1.out.cn.1 HX1.out.cn.2) (Nat.le_trans HY1.out.cn.1 HY1.out.cn.2)).mono ?_; rw [decide_eq_false E1.out]; rintro e w2 ⟨rfl, m2, hw2⟩; have hb2 : Below w1.heap.size w1 w2 := (by rw [hw2]; exact dN bl m2); clear hw2; have HX2 := Lib.hid (HX1.out.below hb2); have HY2 := Lib.hid (HY1.out.below hb2); have BX2 := Lib.hid (BX1.out.below hb2); have BY2 := Lib.hid (BY1.out.below hb2); obtain ⟨a20, a21, a22, a23, a24⟩ := BX2.out; obtain ⟨b20, b21, b22, b23, b24⟩ := BY2.out)
        | (go_at_call 79; refine (seqB_any _ _ _ _ _ _ x.bytes y.bytes w0 HX0.out.b HY0.out.b (Nat.le_trans HX0.out.cb.1 HX0.out.cb.2) (Nat.le_trans HY0.out.cb.1 HY0.out.cb.2)).mono ?_; rw [decide_eq_true E0.out]; rintro e w1 ⟨rfl, m1, hw1⟩; have hb1 : Below w0.heap.size w0 w1 := (by rw [hw1]; exact dN bl m1); clear hw1; have HX1 := Lib.hid (HX0.out.below hb1); have HY1 := Lib.hid (HY0.out.below hb1); have BX1 := Lib.hid (BX0.out.below hb1); have BY1 := Lib.hid (BY0.out.below hb1); obtain ⟨a10, a11, a12, a13, a14⟩ := BX1.out; obtain ⟨b10, b11, b12, b13, b14⟩ := BY1.out)
        | fail)
      go_ret
      exact ⟨_, rfl, by rw [sameD_false (fun h => E1.out h.2.1)]; rfl, (nx (nx hb0 hb1) hb2)⟩
  · have E0 := Lib.hid e0
    clear e0
    go_wp2_with (first
      | (go_at_call 79; refine (seqB_any _ _ _ _ _ _ x.bytes y.bytes w0 HX0.out.b HY0.out.b (Nat.le_trans HX0.out.cb.1 HX0.out.cb.2) (Nat.le_trans HY0.out.cb.1 HY0.out.cb.2)).mono ?_; rw [decide_eq_false E0.out]; rintro e w1 ⟨rfl, m1, hw1⟩; have hb1 : Below w0.heap.size w0 w1 := (by rw [hw1]; exact dN bl m1); clear hw1; have HX1 := Lib.hid (HX0.out.below hb1); have HY1 := Lib.hid (HY0.out.below hb1); have BX1 := Lib.hid (BX0.out.below hb1); have BY1 := Lib.hid (BY0.out.below hb1); obtain ⟨a10, a11, a12, a13, a14⟩ := BX1.out; obtain ⟨b10, b11, b12, b13, b14⟩ := BY1.out)
      | fail)
    go_ret
    exact ⟨_, rfl, by rw [sameD_false (fun h => E0.out h.1)]; rfl, (nx hb0 hb1)⟩

set_option maxHeartbeats 4000000 in
theorem rsame_any (s r : DS) (x y : Da) (w : World) (hx : DRd w s x) (hy : DRd w r y) : Calls Try.prog 59 #[dsV s x, dsV r y] w (RetP (fun v _ => v = .bool (sameD x y)) w) := by
  unfold dsV
  obtain ⟨w0, hw0⟩ : ∃ w0, w0 = (w.alloc (.cells #[.slice s.A0 x.bytes.length s.c0, .slice s.A1 x.host.length s.c1, .slice s.A2 x.mail.length s.c2, .slice s.A3 x.nums.length s.c3, .slice s.A4 x.texts.length s.c4] 102)).alloc (.cells #[.slice r.A0 y.bytes.length r.c0, .slice r.A1 y.host.length r.c1, .slice r.A2 y.mail.length r.c2, .slice r.A3 y.nums.length r.c3, .slice r.A4 y.texts.length r.c4] 102) := ⟨_, rfl⟩
  have hbA : Below w.heap.size w (w.alloc (.cells #[.slice s.A0 x.bytes.length s.c0, .slice s.A1 x.host.length s.c1, .slice s.A2 x.mail.length s.c2, .slice s.A3 x.nums.length s.c3, .slice s.A4 x.texts.length s.c4] 102)) := bl.alloc (Nat.le_refl _) _
  have hb0 : Below w.heap.size w w0 := by rw [hw0]; exact nx hbA (bl.alloc (Nat.le_refl _) _)
  have HX0 := Lib.hid (hx.below hb0)
  have HY0 := Lib.hid (hy.below hb0)
  have BX0 : Hid (DBox w0 w.heap.size s x) := by show DBox _ _ _ _; rw [hw0]; exact (DBox.made w s x _).below (bl.alloc (Nat.le_refl _) _)
  have BY0 : Hid (DBox w0 (w.heap.size + 1) r y) := by
    show DBox _ _ _ _
    rw [hw0]
    have := DBox.made (w.alloc (.cells #[.slice s.A0 x.bytes.length s.c0, .slice s.A1 x.host.length s.c1, .slice s.A2 x.mail.length s.c2, .slice s.A3 x.nums.length s.c3, .slice s.A4 x.texts.length s.c4] 102)) r y 102
    rw [show (w.alloc (.cells #[.slice s.A0 x.bytes.length s.c0, .slice s.A1 x.host.length s.c1, .slice s.A2 x.mail.length s.c2, .slice s.A3 x.nums.length s.c3, .slice s.A4 x.texts.length s.c4] 102)).heap.size = w.heap.size + 1 by simp] at this
    exact this
  clear hx hy hbA
  obtain ⟨a00, a01, a02, a03, a04⟩ := BX0.out
  obtain ⟨b00, b01, b02, b03, b04⟩ := BY0.out
  go_enter Try.func59, Try.ntmps59
  go_upto_region 1 with (fail)
  rw [← hw0]
  clear hw0
  by_cases e0 : x.bytes = y.bytes
  · have E0 := Lib.hid e0
    clear e0
    by_cases e1 : x.nums = y.nums
    · have E1 := Lib.hid e1
      clear e1
      by_cases e2 : x.texts = y.texts
      · have E2 := Lib.hid e2
        clear e2
        by_cases e3 : lowN x.host = lowN y.host
        · have E3 := Lib.hid e3
          clear e3
          by_cases e4 : lowN x.mail = lowN y.mail
          · have E4 := Lib.hid e4
            clear e4
            go_wp2_with (first
              | (go_at_call 85; refine (requal_any _ _ _ _ _ _ x.mail y.mail w4 HX4.out.m HY4.out.m (Nat.le_trans HX4.out.cm.1 HX4.out.cm.2) (Nat.le_trans HY4.out.cm.1 HY4.out.cm.2)).mono ?_; rw [decide_eq_true E4.out]; rintro e w5 ⟨v5, rfl, rfl, hb5⟩; have HX5 := Lib.hid (HX4.out.below hb5); have HY5 := Lib.hid (HY4.out.below hb5); have BX5 := Lib.hid (BX4.out.below hb5); have BY5 := Lib.hid (BY4.out.below hb5); obtain ⟨a50, a51, a52, a53, a54⟩ := BX5.out; obtain ⟨b50, b51, b52, b53, b54⟩ := BY5.out)
              | (go_at_call 85; refine (requal_any _ _ _ _ _ _ x.host y.host w3 HX3.out.h HY3.out.h (Nat.le_trans HX3.out.ch.1 HX3.out.ch.2) (Nat.le_trans HY3.out.ch.1 HY3.out.ch.2)).mono ?_; rw [decide_eq_true E3.out]; rintro e w4 ⟨v4, rfl, rfl, hb4⟩; have HX4 := Lib.hid (HX3.out.below hb4); have HY4 := Lib.hid (HY3.out.below hb4); have BX4 := Lib.hid (BX3.out.below hb4); have BY4 := Lib.hid (BY3.out.below hb4); obtain ⟨a40, a41, a42, a43, a44⟩ := BX4.out; obtain ⟨b40, b41, b42, b43, b44⟩ := BY4.out)
              | (go_at_call 84; refine (rtexts_any _ _ _ _ _ _ x.texts y.texts w2 HX2.out.t HY2.out.t (Nat.le_trans HX2.out.ct.1 HX2.out.ct.2) (Nat.le_trans HY2.out.ct.1 HY2.out.ct.2)).mono ?_; rw [decide_eq_true E2.out]; rintro e w3 ⟨rfl, m3, hw3⟩; have hb3 : Below w2.heap.size w2 w3 := (by rw [hw3]; exact dN bl m3); clear hw3; have HX3 := Lib.hid (HX2.out.below hb3); have HY3 := Lib.hid (HY2.out.below hb3); have BX3 := Lib.hid (BX2.out.below hb3); have BY3 := Lib.hid (BY2.out.below hb3); obtain ⟨a30, a31, a32, a33, a34⟩ := BX3.out; obtain ⟨b30, b31, b32, b33, b34⟩ := BY3.out)
              | (go_at_call 83; refine (rints_any _ _ _ _ _ _ x.nums y.nums w1 HX1.out.n HY1.out.n (Nat.le_trans HX1.out.cn.1 HX1.out.cn.2) (Nat.le_trans HY1.out.cn.1 HY1.out.cn.2)).mono ?_; rw [decide_eq_true E1.out]; rintro e w2 ⟨rfl, m2, hw2⟩; have hb2 : Below w1.heap.size w1 w2 := (by rw [hw2]; exact dN bl m2); clear hw2; have HX2 := Lib.hid (HX1.out.below hb2); have HY2 := Lib.hid (HY1.out.below hb2); have BX2 := Lib.hid (BX1.out.below hb2); have BY2 := Lib.hid (BY1.out.below hb2); obtain ⟨a20, a21, a22, a23, a24⟩ := BX2.out; obtain ⟨b20, b21, b22, b23, b24⟩ := BY2.out)
              | (go_at_call 18; refine (same_any _ _ _ _ _ _ x.bytes y.bytes w0 HX0.out.b HY0.out.b (Nat.le_trans HX0.out.cb.1 HX0.out.cb.2) (Nat.le_trans HY0.out.cb.1 HY0.out.cb.2)).mono ?_; rw [decide_eq_true E0.out]; rintro e w1 ⟨rfl, m1, hw1⟩; have hb1 : Below w0.heap.size w0 w1 := (by rw [hw1]; exact dN bl m1); clear hw1; have HX1 := Lib.hid (HX0.out.below hb1); have HY1 := Lib.hid (HY0.out.below hb1); have BX1 := Lib.hid (BX0.out.below hb1); have BY1 := Lib.hid (BY0.out.below hb1); obtain ⟨a10, a11, a12, a13, a14⟩ := BX1.out; obtain ⟨b10, b11, b12, b13, b14⟩ := BY1.out)
              | fail)
            go_ret
            exact ⟨_, rfl, by rw [sameD_true E0.out E1.out E2.out E3.out E4.out]; rfl, (nx (nx (nx (nx (nx hb0 hb1) hb2) hb3) hb4) hb5)⟩
          · have E4 := Lib.hid e4
            clear e4
            go_wp2_with (first
              | (go_at_call 85; refine (requal_any _ _ _ _ _ _ x.mail y.mail w4 HX4.out.m HY4.out.m (Nat.le_trans HX4.out.cm.1 HX4.out.cm.2) (Nat.le_trans HY4.out.cm.1 HY4.out.cm.2)).mono ?_; rw [decide_eq_false E4.out]; rintro e w5 ⟨v5, rfl, rfl, hb5⟩; have HX5 := Lib.hid (HX4.out.below hb5); have HY5 := Lib.hid (HY4.out.below hb5); have BX5 := Lib.hid (BX4.out.below hb5); have BY5 := Lib.hid (BY4.out.below hb5); obtain ⟨a50, a51, a52, a53, a54⟩ := BX5.out; obtain ⟨b50, b51, b52, b53, b54⟩ := BY5.out)
              | (go_at_call 85; refine (requal_any _ _ _ _ _ _ x.host y.host w3 HX3.out.h HY3.out.h (Nat.le_trans HX3.out.ch.1 HX3.out.ch.2) (Nat.le_trans HY3.out.ch.1 HY3.out.ch.2)).mono ?_; rw [decide_eq_true E3.out]; rintro e w4 ⟨v4, rfl, rfl, hb4⟩; have HX4 := Lib.hid (HX3.out.below hb4); have HY4 := Lib.hid (HY3.out.below hb4); have BX4 := Lib.hid (BX3.out.below hb4); have BY4 := Lib.hid (BY3.out.below hb4); obtain ⟨a40, a41, a42, a43, a44⟩ := BX4.out; obtain ⟨b40, b41, b42, b43, b44⟩ := BY4.out)
              | (go_at_call 84; refine (rtexts_any _ _ _ _ _ _ x.texts y.texts w2 HX2.out.t HY2.out.t (Nat.le_trans HX2.out.ct.1 HX2.out.ct.2) (Nat.le_trans HY2.out.ct.1 HY2.out.ct.2)).mono ?_; rw [decide_eq_true E2.out]; rintro e w3 ⟨rfl, m3, hw3⟩; have hb3 : Below w2.heap.size w2 w3 := (by rw [hw3]; exact dN bl m3); clear hw3; have HX3 := Lib.hid (HX2.out.below hb3); have HY3 := Lib.hid (HY2.out.below hb3); have BX3 := Lib.hid (BX2.out.below hb3); have BY3 := Lib.hid (BY2.out.below hb3); obtain ⟨a30, a31, a32, a33, a34⟩ := BX3.out; obtain ⟨b30, b31, b32, b33, b34⟩ := BY3.out)
              | (go_at_call 83; refine (rints_any _ _ _ _ _ _ x.nums y.nums w1 HX1.out.n HY1.out.n (Nat.le_trans HX1.out.cn.1 HX1.out.cn.2) (Nat.le_trans HY1.out.cn.1 HY1.out.cn.2)).mono ?_; rw [decide_eq_true E1.out]; rintro e w2 ⟨rfl, m2, hw2⟩; have hb2 : Below w1.heap.size w1 w2 := (by rw [hw2]; exact dN bl m2); clear hw2; have HX2 := Lib.hid (HX1.out.below hb2); have HY2 := Lib.hid (HY1.out.below hb2); have BX2 := Lib.hid (BX1.out.below hb2); have BY2 := Lib.hid (BY1.out.below hb2); obtain ⟨a20, a21, a22, a23, a24⟩ := BX2.out; obtain ⟨b20, b21, b22, b23, b24⟩ := BY2.out)
              | (go_at_call 18; refine (same_any _ _ _ _ _ _ x.bytes y.bytes w0 HX0.out.b HY0.out.b (Nat.le_trans HX0.out.cb.1 HX0.out.cb.2) (Nat.le_trans HY0.out.cb.1 HY0.out.cb.2)).mono ?_; rw [decide_eq_true E0.out]; rintro e w1 ⟨rfl, m1, hw1⟩; have hb1 : Below w0.heap.size w0 w1 := (by rw [hw1]; exact dN bl m1); clear hw1; have HX1 := Lib.hid (HX0.out.below hb1); have HY1 := Lib.hid (HY0.out.below hb1); have BX1 := Lib.hid (BX0.out.below hb1); have BY1 := Lib.hid (BY0.out.below hb1); obtain ⟨a10, a11, a12, a13, a14⟩ := BX1.out; obtain ⟨b10, b11, b12, b13, b14⟩ := BY1.out)
              | fail)
            go_ret
            exact ⟨_, rfl, by rw [sameD_false (fun h => E4.out h.2.2.2.2)]; rfl, (nx (nx (nx (nx (nx hb0 hb1) hb2) hb3) hb4) hb5)⟩
        · have E3 := Lib.hid e3
          clear e3
          go_wp2_with (first
            | (go_at_call 85; refine (requal_any _ _ _ _ _ _ x.host y.host w3 HX3.out.h HY3.out.h (Nat.le_trans HX3.out.ch.1 HX3.out.ch.2) (Nat.le_trans HY3.out.ch.1 HY3.out.ch.2)).mono ?_; rw [decide_eq_false E3.out]; rintro e w4 ⟨v4, rfl, rfl, hb4⟩; have HX4 := Lib.hid (HX3.out.below hb4); have HY4 := Lib.hid (HY3.out.below hb4); have BX4 := Lib.hid (BX3.out.below hb4); have BY4 := Lib.hid (BY3.out.below hb4); obtain ⟨a40, a41, a42, a43, a44⟩ := BX4.out; obtain ⟨b40, b41, b42, b43, b44⟩ := BY4.out)
            | (go_at_call 84; refine (rtexts_any _ _ _ _ _ _ x.texts y.texts w2 HX2.out.t HY2.out.t (Nat.le_trans HX2.out.ct.1 HX2.out.ct.2) (Nat.le_trans HY2.out.ct.1 HY2.out.ct.2)).mono ?_; rw [decide_eq_true E2.out]; rintro e w3 ⟨rfl, m3, hw3⟩; have hb3 : Below w2.heap.size w2 w3 := (by rw [hw3]; exact dN bl m3); clear hw3; have HX3 := Lib.hid (HX2.out.below hb3); have HY3 := Lib.hid (HY2.out.below hb3); have BX3 := Lib.hid (BX2.out.below hb3); have BY3 := Lib.hid (BY2.out.below hb3); obtain ⟨a30, a31, a32, a33, a34⟩ := BX3.out; obtain ⟨b30, b31, b32, b33, b34⟩ := BY3.out)
            | (go_at_call 83; refine (rints_any _ _ _ _ _ _ x.nums y.nums w1 HX1.out.n HY1.out.n (Nat.le_trans HX1.out.cn.1 HX1.out.cn.2) (Nat.le_trans HY1.out.cn.1 HY1.out.cn.2)).mono ?_; rw [decide_eq_true E1.out]; rintro e w2 ⟨rfl, m2, hw2⟩; have hb2 : Below w1.heap.size w1 w2 := (by rw [hw2]; exact dN bl m2); clear hw2; have HX2 := Lib.hid (HX1.out.below hb2); have HY2 := Lib.hid (HY1.out.below hb2); have BX2 := Lib.hid (BX1.out.below hb2); have BY2 := Lib.hid (BY1.out.below hb2); obtain ⟨a20, a21, a22, a23, a24⟩ := BX2.out; obtain ⟨b20, b21, b22, b23, b24⟩ := BY2.out)
            | (go_at_call 18; refine (same_any _ _ _ _ _ _ x.bytes y.bytes w0 HX0.out.b HY0.out.b (Nat.le_trans HX0.out.cb.1 HX0.out.cb.2) (Nat.le_trans HY0.out.cb.1 HY0.out.cb.2)).mono ?_; rw [decide_eq_true E0.out]; rintro e w1 ⟨rfl, m1, hw1⟩; have hb1 : Below w0.heap.size w0 w1 := (by rw [hw1]; exact dN bl m1); clear hw1; have HX1 := Lib.hid (HX0.out.below hb1); have HY1 := Lib.hid (HY0.out.below hb1); have BX1 := Lib.hid (BX0.out.below hb1); have BY1 := Lib.hid (BY0.out.below hb1); obtain ⟨a10, a11, a12, a13, a14⟩ := BX1.out; obtain ⟨b10, b11, b12, b13, b14⟩ := BY1.out)
            | fail)
          go_ret
          exact ⟨_, rfl, by rw [sameD_false (fun h => E3.out h.2.2.2.1)]; rfl, (nx (nx (nx (nx hb0 hb1) hb2) hb3) hb4)⟩
      · have E2 := Lib.hid e2
        clear e2
        go_wp2_with (first
          | (go_at_call 84; refine (rtexts_any _ _ _ _ _ _ x.texts y.texts w2 HX2.out.t HY2.out.t (Nat.le_trans HX2.out.ct.1 HX2.out.ct.2) (Nat.le_trans HY2.out.ct.1 HY2.out.ct.2)).mono ?_; rw [decide_eq_false E2.out]; rintro e w3 ⟨rfl, m3, hw3⟩; have hb3 : Below w2.heap.size w2 w3 := (by rw [hw3]; exact dN bl m3); clear hw3; have HX3 := Lib.hid (HX2.out.below hb3); have HY3 := Lib.hid (HY2.out.below hb3); have BX3 := Lib.hid (BX2.out.below hb3); have BY3 := Lib.hid (BY2.out.below hb3); obtain ⟨a30, a31, a32, a33, a34⟩ := BX3.out; obtain ⟨b30, b31, b32, b33, b34⟩ := BY3.out)
          | (go_at_call 83; refine (rints_any _ _ _ _ _ _ x.nums y.nums w1 HX1.out.n HY1.out.n (Nat.le_trans HX1.out.cn.1 HX1.out.cn.2) (Nat.le_trans HY1.out.cn.1 HY1.out.cn.2)).mono ?_; rw [decide_eq_true E1.out]; rintro e w2 ⟨rfl, m2, hw2⟩; have hb2 : Below w1.heap.size w1 w2 := (by rw [hw2]; exact dN bl m2); clear hw2; have HX2 := Lib.hid (HX1.out.below hb2); have HY2 := Lib.hid (HY1.out.below hb2); have BX2 := Lib.hid (BX1.out.below hb2); have BY2 := Lib.hid (BY1.out.below hb2); obtain ⟨a20, a21, a22, a23, a24⟩ := BX2.out; obtain ⟨b20, b21, b22, b23, b24⟩ := BY2.out)
          | (go_at_call 18; refine (same_any _ _ _ _ _ _ x.bytes y.bytes w0 HX0.out.b HY0.out.b (Nat.le_trans HX0.out.cb.1 HX0.out.cb.2) (Nat.le_trans HY0.out.cb.1 HY0.out.cb.2)).mono ?_; rw [decide_eq_true E0.out]; rintro e w1 ⟨rfl, m1, hw1⟩; have hb1 : Below w0.heap.size w0 w1 := (by rw [hw1]; exact dN bl m1); clear hw1; have HX1 := Lib.hid (HX0.out.below hb1); have HY1 := Lib.hid (HY0.out.below hb1); have BX1 := Lib.hid (BX0.out.below hb1); have BY1 := Lib.hid (BY0.out.below hb1); obtain ⟨a10, a11, a12, a13, a14⟩ := BX1.out; obtain ⟨b10, b11, b12, b13, b14⟩ := BY1.out)
          | fail)
        go_ret
        exact ⟨_, rfl, by rw [sameD_false (fun h => E2.out h.2.2.1)]; rfl, (nx (nx (nx hb0 hb1) hb2) hb3)⟩
    · have E1 := Lib.hid e1
      clear e1
      go_wp2_with (first
        | (go_at_call 83; refine (rints_any _ _ _ _ _ _ x.nums y.nums w1 HX1.out.n HY1.out.n (Nat.le_trans HX1.out.cn.1 HX1.out.cn.2) (Nat.le_trans HY1.out.cn.1 HY1.out.cn.2)).mono ?_; rw [decide_eq_false E1.out]; rintro e w2 ⟨rfl, m2, hw2⟩; have hb2 : Below w1.heap.size w1 w2 := (by rw [hw2]; exact dN bl m2); clear hw2; have HX2 := Lib.hid (HX1.out.below hb2); have HY2 := Lib.hid (HY1.out.below hb2); have BX2 := Lib.hid (BX1.out.below hb2); have BY2 := Lib.hid (BY1.out.below hb2); obtain ⟨a20, a21, a22, a23, a24⟩ := BX2.out; obtain ⟨b20, b21, b22, b23, b24⟩ := BY2.out)
        | (go_at_call 18; refine (same_any _ _ _ _ _ _ x.bytes y.bytes w0 HX0.out.b HY0.out.b (Nat.le_trans HX0.out.cb.1 HX0.out.cb.2) (Nat.le_trans HY0.out.cb.1 HY0.out.cb.2)).mono ?_; rw [decide_eq_true E0.out]; rintro e w1 ⟨rfl, m1, hw1⟩; have hb1 : Below w0.heap.size w0 w1 := (by rw [hw1]; exact dN bl m1); clear hw1; have HX1 := Lib.hid (HX0.out.below hb1); have HY1 := Lib.hid (HY0.out.below hb1); have BX1 := Lib.hid (BX0.out.below hb1); have BY1 := Lib.hid (BY0.out.below hb1); obtain ⟨a10, a11, a12, a13, a14⟩ := BX1.out; obtain ⟨b10, b11, b12, b13, b14⟩ := BY1.out)
        | fail)
      go_ret
      exact ⟨_, rfl, by rw [sameD_false (fun h => E1.out h.2.1)]; rfl, (nx (nx hb0 hb1) hb2)⟩
  · have E0 := Lib.hid e0
    clear e0
    go_wp2_with (first
      | (go_at_call 18; refine (same_any _ _ _ _ _ _ x.bytes y.bytes w0 HX0.out.b HY0.out.b (Nat.le_trans HX0.out.cb.1 HX0.out.cb.2) (Nat.le_trans HY0.out.cb.1 HY0.out.cb.2)).mono ?_; rw [decide_eq_false E0.out]; rintro e w1 ⟨rfl, m1, hw1⟩; have hb1 : Below w0.heap.size w0 w1 := (by rw [hw1]; exact dN bl m1); clear hw1; have HX1 := Lib.hid (HX0.out.below hb1); have HY1 := Lib.hid (HY0.out.below hb1); have BX1 := Lib.hid (BX0.out.below hb1); have BY1 := Lib.hid (BY0.out.below hb1); obtain ⟨a10, a11, a12, a13, a14⟩ := BX1.out; obtain ⟨b10, b11, b12, b13, b14⟩ := BY1.out)
      | fail)
    go_ret
    exact ⟨_, rfl, by rw [sameD_false (fun h => E0.out h.1)]; rfl, (nx hb0 hb1)⟩
end Go.Proofs.Ytjpkddmdhdmhgaa
