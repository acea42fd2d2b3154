/- Parts of a proof, joined: RCode2, Law15E. -/
import Derived.Test.YtimkdpkhdbiniaaF14
import Derived.Test.YtimkdpkhdbiniaaF13
import Derived.Test.YtimkdpkhdbiniaaF09
import Derived.Test.YtimkdpkhdbiniaaF15
import Derived.Test.YtimkdpkhdbiniaaF16
import Derived.Test.YtimkdpkhdbiniaaC37
import Derived.Test.YtimkdpkhdbiniaaM02
/- The reference: Bytes of any entry, and which entries may be (printed by gen/rcode2.py). -/
namespace Go.Proofs.Ytimkdpkhdbiniaa
open Go.RowKit
set_option maxRecDepth 100000
set_option linter.unusedVariables false

/-- A slice that reads as bytes. -/
def RdS (w : World) (v : Value) (bs : List UInt8) : Prop := ∃ A c, v = .slice A bs.length c ∧ RdB w A bs.length bs ∧ bs.length ≤ c ∧ c ≤ maxLen

set_option maxHeartbeats 16000000 in
theorem rBytes2_any (time : Int) (s : FS) (f : Fa) (Z : Option Addr) (zn zc : Nat) (ns : List (List UInt8)) (w : World) {S : Nat → Prop} (hd : FaIn S w s f) (hz : Els encS S S w Z zn ns) (hS : ∀ b, S b → b < w.heap.size) (hzc : zn ≤ zc ∧ zc ≤ maxLen) (hs : soundB ns = true) :
    Calls Try.prog 24 #[.int .i64 2, .int .i64 time, faV s f, .slice Z zn zc] w (RetP (fun v w' => RdS w' v ((RW.nil.raw (putB [] 2 1)).name ns false).b) w) := by
  obtain ⟨w1, hw1⟩ : ∃ w1, w1 = w.alloc (.cells (faCells s f) 48) := ⟨_, rfl⟩
  obtain ⟨w2, hw2⟩ : ∃ w2, w2 = w1.alloc (.cells #[.slice none 0 0, .slice none 0 0] 103) := ⟨_, rfl⟩
  have hb1 : Below w.heap.size w w1 := by rw [hw1]; exact bl.alloc (Nat.le_refl _) _
  have hb2 : Below w1.heap.size w1 w2 := by rw [hw2]; exact bl.alloc (Nat.le_refl _) _
  have hz1 : w1.heap.size = w.heap.size + 1 := by rw [hw1]; simp
  obtain ⟨g0, hg0⟩ : ∃ g, g = w1.heap.size := ⟨_, rfl⟩
  have HW2 : Hid (RWtr w2 g0 (fun k => k = g0) g0 RW.nil) := by show RWtr _ _ _ _ _; rw [hw2, hg0]; exact RWtr.made w1
  have HB2 : Hid (Below w.heap.size w w2) := nx hb1 hb2
  have HG0 : Hid (w.heap.size ≤ g0) := by show _ ≤ _; omega
  have HZ2 : Hid (Els encS S S w2 Z zn ns) := hz.below (nx hb1 hb2) hS hS
  have HS2 : Hid (∀ b, S b → b < w2.heap.size ∧ b < g0) := fun b hb => ⟨Nat.lt_of_lt_of_le (hS b hb) (nx hb1 hb2).size, by have := hS b hb; omega⟩
  have HZC := Lib.hid hzc
  have HSN := Lib.hid (soundB_iff.1 hs)
  unfold faV
  unfold faCells at hw1 ⊢
  clear hd hz hS hb1 hb2 hz1 hzc
  go_enter Try.func24, Try.ntmps24
  go_upto_region 1 with (fail)
  rw [← hw1]
  clear hw1
  go_upto_region 2 with (fail)
  rw [← hw2, ← hg0]
  clear hw2 hg0
  go_upto_region 3 with (first
    | (go_at_call 63; refine (rwnum_any w2 g0 g0 (fun k => k = g0) RW.nil 2 1 HW2.out (by decide) (by decide)).mono ?_; rintro e w3 ⟨rfl, F3, h3, hc3, hF3⟩; have HW3 := Lib.hid h3; have HC3 := Lib.hid hc3; have HF3 := Lib.hid hF3; clear h3 hc3 hF3)
    | fail)
  have HS3 : Hid (∀ b, S b → b < w3.heap.size ∧ ¬ F3 b) := fun b hb => ⟨Nat.lt_of_lt_of_le (HS2.out b hb).1 HC3.out.size, fun hF => by have h1 := (HW3.out.F_lt b hF).1; have h2 := (HS2.out b hb).2; omega⟩
  have HZ3 : Hid (Els encS S S w3 Z zn ns) := HZ2.out.keep (fun b hb => HC3.out.block b (HS2.out b hb).1 (fun e => by have := (HS2.out b hb).2; omega)) (fun b hb => HC3.out.block b (HS2.out b hb).1 (fun e => by have := (HS2.out b hb).2; omega))
  go_upto_region 23 with (first
    | (go_at_call 64; refine (rwname_any w3 g0 g0 F3 (RW.nil.raw (putB [] 2 1)) Z zn zc ns false HW3.out HZ3.out HS3.out HSN.out (RW.fine_nil.raw _) HZC.out.1 HZC.out.2 (by decide) (by decide)).mono ?_; rintro e w4 ⟨rfl, F4, h4, hc4, hF4⟩; have HW4 := Lib.hid h4; have HC4 := Lib.hid hc4; clear h4 hc4 hF4)
    | fail)
  have HFIN : Hid (∃ A c, w4.cell? ⟨g0, 0, none⟩ = some (.slice A ((RW.nil.raw (putB [] 2 1)).name ns false).b.length c) ∧ RdB w4 A ((RW.nil.raw (putB [] 2 1)).name ns false).b.length ((RW.nil.raw (putB [] 2 1)).name ns false).b ∧ ((RW.nil.raw (putB [] 2 1)).name ns false).b.length ≤ c ∧ c ≤ maxLen) := by
    obtain ⟨bv, rv, SS, hg, hb, _⟩ := HW4.out
    obtain ⟨A, c, rfl, hr, h1, h2⟩ := hb.form
    exact ⟨A, c, (cell_of_row _ _ _ _ _ _ hg).trans rfl, hr, h1, h2⟩
  obtain ⟨A9, c9, y9, hr9, hl9, hm9⟩ := HFIN.out
  have HR9 := Lib.hid (And.intro hr9 (And.intro hl9 hm9))
  have HBE : Hid (Below w.heap.size w w4) := HB2.out.trans ((HC3.out.trans HC4.out (fun z hz => (HF3.out z hz))).below (fun z hz => by have := HG0.out; omega) HB2.out.size)
  clear hr9 hl9 hm9
  go_wp2
  go_ret
  exact ⟨_, rfl, ⟨A9, c9, rfl, HR9.out.1, HR9.out.2.1, HR9.out.2.2⟩, HBE.out⟩

set_option maxHeartbeats 16000000 in
theorem rBytes3_any (time : Int) (s : FS) (f : Fa) (Z : Option Addr) (zn zc : Nat) (ns : List (List UInt8)) (w : World) {S : Nat → Prop} (hd : FaIn S w s f) (hz : Els encS S S w Z zn ns) (hS : ∀ b, S b → b < w.heap.size) (hzc : zn ≤ zc ∧ zc ≤ maxLen) (ht : time ≤ 9223372036854775807) :
    Calls Try.prog 24 #[.int .i64 3, .int .i64 time, faV s f, .slice Z zn zc] w (RetP (fun v w' => RdS w' v ((RW.nil.raw (putB [] 3 1)).raw (putB [] time 7)).b) w) := by
  obtain ⟨w1, hw1⟩ : ∃ w1, w1 = w.alloc (.cells (faCells s f) 48) := ⟨_, rfl⟩
  obtain ⟨w2, hw2⟩ : ∃ w2, w2 = w1.alloc (.cells #[.slice none 0 0, .slice none 0 0] 103) := ⟨_, rfl⟩
  have hb1 : Below w.heap.size w w1 := by rw [hw1]; exact bl.alloc (Nat.le_refl _) _
  have hb2 : Below w1.heap.size w1 w2 := by rw [hw2]; exact bl.alloc (Nat.le_refl _) _
  have hz1 : w1.heap.size = w.heap.size + 1 := by rw [hw1]; simp
  obtain ⟨g0, hg0⟩ : ∃ g, g = w1.heap.size := ⟨_, rfl⟩
  have HW2 : Hid (RWtr w2 g0 (fun k => k = g0) g0 RW.nil) := by show RWtr _ _ _ _ _; rw [hw2, hg0]; exact RWtr.made w1
  have HB2 : Hid (Below w.heap.size w w2) := nx hb1 hb2
  have HG0 : Hid (w.heap.size ≤ g0) := by show _ ≤ _; omega
  have HZ2 : Hid (Els encS S S w2 Z zn ns) := hz.below (nx hb1 hb2) hS hS
  have HS2 : Hid (∀ b, S b → b < w2.heap.size ∧ b < g0) := fun b hb => ⟨Nat.lt_of_lt_of_le (hS b hb) (nx hb1 hb2).size, by have := hS b hb; omega⟩
  have HZC := Lib.hid hzc
  have HTT := Lib.hid ht
  unfold faV
  unfold faCells at hw1 ⊢
  clear hd hz hS hb1 hb2 hz1 hzc
  go_enter Try.func24, Try.ntmps24
  go_upto_region 1 with (fail)
  rw [← hw1]
  clear hw1
  go_upto_region 2 with (fail)
  rw [← hw2, ← hg0]
  clear hw2 hg0
  go_upto_region 3 with (first
    | (go_at_call 63; refine (rwnum_any w2 g0 g0 (fun k => k = g0) RW.nil 3 1 HW2.out (by decide) (by decide)).mono ?_; rintro e w3 ⟨rfl, F3, h3, hc3, hF3⟩; have HW3 := Lib.hid h3; have HC3 := Lib.hid hc3; have HF3 := Lib.hid hF3; clear h3 hc3 hF3)
    | fail)
  have HS3 : Hid (∀ b, S b → b < w3.heap.size ∧ ¬ F3 b) := fun b hb => ⟨Nat.lt_of_lt_of_le (HS2.out b hb).1 HC3.out.size, fun hF => by have h1 := (HW3.out.F_lt b hF).1; have h2 := (HS2.out b hb).2; omega⟩
  have HZ3 : Hid (Els encS S S w3 Z zn ns) := HZ2.out.keep (fun b hb => HC3.out.block b (HS2.out b hb).1 (fun e => by have := (HS2.out b hb).2; omega)) (fun b hb => HC3.out.block b (HS2.out b hb).1 (fun e => by have := (HS2.out b hb).2; omega))
  go_upto_region 23 with (first
    | (go_at_call 63; refine (rwnum_any w3 g0 g0 F3 (RW.nil.raw (putB [] 3 1)) time 7 HW3.out (by decide) HTT.out).mono ?_; rintro e w4 ⟨rfl, F4, h4, hc4, hF4⟩; have HW4 := Lib.hid h4; have HC4 := Lib.hid hc4; clear h4 hc4 hF4)
    | fail)
  have HFIN : Hid (∃ A c, w4.cell? ⟨g0, 0, none⟩ = some (.slice A ((RW.nil.raw (putB [] 3 1)).raw (putB [] time 7)).b.length c) ∧ RdB w4 A ((RW.nil.raw (putB [] 3 1)).raw (putB [] time 7)).b.length ((RW.nil.raw (putB [] 3 1)).raw (putB [] time 7)).b ∧ ((RW.nil.raw (putB [] 3 1)).raw (putB [] time 7)).b.length ≤ c ∧ c ≤ maxLen) := by
    obtain ⟨bv, rv, SS, hg, hb, _⟩ := HW4.out
    obtain ⟨A, c, rfl, hr, h1, h2⟩ := hb.form
    exact ⟨A, c, (cell_of_row _ _ _ _ _ _ hg).trans rfl, hr, h1, h2⟩
  obtain ⟨A9, c9, y9, hr9, hl9, hm9⟩ := HFIN.out
  have HR9 := Lib.hid (And.intro hr9 (And.intro hl9 hm9))
  have HBE : Hid (Below w.heap.size w w4) := HB2.out.trans ((HC3.out.trans HC4.out (fun z hz => (HF3.out z hz))).below (fun z hz => by have := HG0.out; omega) HB2.out.size)
  clear hr9 hl9 hm9
  go_wp2
  go_ret
  exact ⟨_, rfl, ⟨A9, c9, rfl, HR9.out.1, HR9.out.2.1, HR9.out.2.2⟩, HBE.out⟩

theorem enR_b {x : En} (h : EnOk x) : (enR x).b = (enW x).b := by
  have h0 : Alike (Wr.nil.raw (putB [] 1 1)) (RW.nil.raw (putB [] 1 1)) := alike_nil.raw _
  unfold enR enW
  by_cases h1 : x.kind = 1
  · rw [if_pos h1, if_pos h1, h1]
    exact ((h0.fact (h.f h1)).1).symm
  · rw [if_neg h1, if_neg h1]
    by_cases h2 : x.kind = 2
    · rw [if_pos h2, if_pos h2, h2]
      have h3 : Alike (Wr.nil.raw (putB [] 2 1)) (RW.nil.raw (putB [] 2 1)) := alike_nil.raw _
      exact ((h3.nameS (h.z h2)).1).symm
    · have h3 : x.kind = 3 := by rcases h.k with h | h | h; exact absurd h h1; exact absurd h h2; exact h
      rw [if_neg h2, if_neg h2, h3]
      rfl
theorem rBytes_any (s : ES) (x : En) (w : World) {S : Nat → Prop} (h : EnIn S w s x) (hS : ∀ b, S b → b < w.heap.size) (hok : EnOk x) :
    Calls Try.prog 24 #[.int .i64 x.kind, .int .i64 x.time, faV s.f x.f, .slice s.Z x.zone.length s.zc] w (RetP (fun v w' => RdS w' v (enW x).b) w) := by
  rw [← enR_b hok]
  unfold enR
  rcases hok.k with h1 | h1 | h1
  · rw [if_pos h1]
    exact rBytes1_any x.kind x.time s.f x.f s.Z x.zone.length s.zc w h1 (hok.f h1) h.f hS
  · rw [if_neg (by omega), if_pos h1, h1]
    exact rBytes2_any x.time s.f x.f s.Z x.zone.length s.zc x.zone w h.f h.z hS h.cz (hok.z h1)
  · rw [if_neg (by omega), if_neg (by omega), h1]
    exact rBytes3_any x.time s.f x.f s.Z x.zone.length s.zc x.zone w h.f h.z hS h.cz h.it.2

set_option maxHeartbeats 16000000 in
theorem rEntry_any (s : ES) (x : En) (w : World) {S : Nat → Prop} (h : EnIn S w s x) (hS : ∀ b, S b → b < w.heap.size) (hL : LtE x) :
    Calls Try.prog 22 #[.int .i64 x.kind, .int .i64 x.time, faV s.f x.f, .slice s.Z x.zone.length s.zc] w (RetP (fun v _ => v = .bool (fineE x)) w) := by
  obtain ⟨w1, hw1⟩ : ∃ w1, w1 = w.alloc (.cells (faCells s.f x.f) 48) := ⟨_, rfl⟩
  have hb1 : Below w.heap.size w w1 := by rw [hw1]; exact bl.alloc (Nat.le_refl _) _
  have HR : Hid (FaRow w1 w.heap.size s.f x.f) := by show FaRow _ _ _ _; rw [hw1]; exact FaRow.made w s.f x.f
  have HB1 := Lib.hid hb1
  obtain ⟨x0, x1, x2, x3, x4, x5, x6, x7, x8, x9, x10, x11, x12⟩ := HR.out.cells
  have HFS : Hid (Calls Try.prog 34 #[faV s.f x.f] w1 (RetP (fun v _ => v = .bool (fineF x.f)) w1)) := rsoundF_any s.f x.f w1 (h.f.below hb1 hS) (fun b hb => Nat.lt_of_lt_of_le (hS b hb) hb1.size) hL.f
  have HBL : Hid (∀ u, Calls Try.prog 58 #[faV s.f x.f] u (RetP (fun v _ => v = .bool (blankF x.f)) u)) := fun u => rblank_any s.f x.f u hL.b
  have HNS : Hid (∀ u, Below w1.heap.size w1 u → Calls Try.prog 27 #[.slice s.Z x.zone.length s.zc] u (Ret (.bool (soundB x.zone)) u)) := fun u hu => rsound_any s.Z x.zone.length s.zc x.zone u ((h.z.below hb1 hS hS).below hu (fun b hb => Nat.lt_of_lt_of_le (hS b hb) hb1.size) (fun b hb => Nat.lt_of_lt_of_le (hS b hb) hb1.size))
  have HTT : Hid (∀ u, Calls Try.prog 26 #[.int .i64 x.time] u (Ret (.bool (timeB x.time)) u)) := fun u => rtime_any x.time u
  have HV : Hid (fineE x = if x.kind = 1 then (x.time == 0) && (decide (x.zone.length = 0) && fineF x.f) else if x.kind = 2 then (x.time == 0) && (blankF x.f && soundB x.zone) else if x.kind = 3 then timeB x.time && (blankF x.f && decide (x.zone.length = 0)) else false) := rfl
  have hzz : ((x.zone.length : Int) == 0) = decide (x.zone.length = 0) := by by_cases h : x.zone.length = 0 <;> simp [h]
  have HZZ := Lib.hid hzz
  unfold faV faCells at HFS HBL
  unfold faV
  unfold faCells at hw1 ⊢
  clear h hS hb1 hzz hL
  generalize fineE x = R at HV ⊢
  generalize fineF x.f = FF at HFS HV
  generalize blankF x.f = BF at HBL HV
  generalize soundB x.zone = SZ at HNS HV
  generalize timeB x.time = TT at HTT HV
  go_enter Try.func22, Try.ntmps22
  go_upto_region 1 with (fail)
  rw [← hw1]
  clear hw1
  by_cases h1 : x.kind = 1
  · have hk : (x.kind == 1) = true := by simp [h1]
    have HV1 : Hid (R = ((x.time == 0) && (((x.zone.length : Int) == 0) && FF))) := by show _ = _; rw [HV.out, if_pos h1, HZZ.out]
    clear HV h1
    cases ht : (x.time == 0) with
    | false =>
      have HR0 : Hid (R = false) := by show _ = _; rw [HV1.out, ht]; rfl
      clear HV1
      go_wp2
      go_ret
      exact ⟨_, rfl, congrArg Value.bool HR0.out.symm, HB1.out⟩
    | true =>
      cases hz : ((x.zone.length : Int) == 0) with
      | false =>
        have HR0 : Hid (R = false) := by show _ = _; rw [HV1.out, ht, hz]; rfl
        clear HV1
        go_wp2
        go_ret
        exact ⟨_, rfl, congrArg Value.bool HR0.out.symm, HB1.out⟩
      | true =>
        have HR0 : Hid (R = FF) := by show _ = _; rw [HV1.out, ht, hz]; simp
        clear HV1
        go_wp2_with (first
          | (go_at_call 34; (with_reducible refine HFS.out.mono ?_); rintro e w2 ⟨v2, rfl, rfl, hb2⟩)
          | fail)
        go_ret
        exact ⟨_, rfl, congrArg Value.bool HR0.out.symm, nx HB1.out hb2⟩
  by_cases h2 : x.kind = 2
  · have hk0 : (x.kind == 1) = false := by simp [h1]
    have hk : (x.kind == 2) = true := by simp [h2]
    have HV1 : Hid (R = ((x.time == 0) && (BF && SZ))) := by show _ = _; rw [HV.out, if_neg h1, if_pos h2]
    clear HV h1 h2
    cases ht : (x.time == 0) with
    | false =>
      have HR0 : Hid (R = false) := by show _ = _; rw [HV1.out, ht]; rfl
      clear HV1
      go_wp2
      go_ret
      exact ⟨_, rfl, congrArg Value.bool HR0.out.symm, HB1.out⟩
    | true =>
      cases BF with
      | false =>
        have HR0 : Hid (R = false) := by show _ = _; rw [HV1.out, ht]; rfl
        clear HV1
        go_wp2_with (first
          | (go_at_call 58; (with_reducible refine (HBL.out w1).mono ?_); rintro e w2 ⟨v2, rfl, rfl, hb2⟩; have HB2 := Lib.hid hb2)
          | fail)
        go_ret
        exact ⟨_, rfl, congrArg Value.bool HR0.out.symm, nx HB1.out HB2.out⟩
      | true =>
        have HR0 : Hid (R = SZ) := by show _ = _; rw [HV1.out, ht]; simp
        clear HV1
        go_wp2_with (first
          | (go_at_call 27; (with_reducible refine (HNS.out w2 HB2.out).mono ?_); rintro e w0 ⟨rfl, rfl⟩)
          | (go_at_call 58; (with_reducible refine (HBL.out w1).mono ?_); rintro e w2 ⟨v2, rfl, rfl, hb2⟩; have HB2 := Lib.hid hb2)
          | fail)
        go_ret
        exact ⟨_, rfl, congrArg Value.bool HR0.out.symm, nx HB1.out HB2.out⟩
  by_cases h3 : x.kind = 3
  · have hk0 : (x.kind == 1) = false := by simp [h1]
    have hk1 : (x.kind == 2) = false := by simp [h2]
    have hk : (x.kind == 3) = true := by simp [h3]
    have HV1 : Hid (R = (TT && (BF && ((x.zone.length : Int) == 0)))) := by show _ = _; rw [HV.out, if_neg h1, if_neg h2, if_pos h3, HZZ.out]
    clear HV h1 h2 h3
    cases TT with
    | false =>
      have HR0 : Hid (R = false) := by show _ = _; rw [HV1.out]; rfl
      clear HV1
      go_wp2_with (first
        | (go_at_call 26; (with_reducible refine (HTT.out w1).mono ?_); rintro e w0 ⟨rfl, rfl⟩)
        | fail)
      go_ret
      exact ⟨_, rfl, congrArg Value.bool HR0.out.symm, HB1.out⟩
    | true =>
      cases BF with
      | false =>
        have HR0 : Hid (R = false) := by show _ = _; rw [HV1.out]; rfl
        clear HV1
        go_wp2_with (first
          | (go_at_call 58; (with_reducible refine (HBL.out w1).mono ?_); rintro e w2 ⟨v2, rfl, rfl, hb2⟩; have HB2 := Lib.hid hb2)
          | (go_at_call 26; (with_reducible refine (HTT.out w1).mono ?_); rintro e w0 ⟨rfl, rfl⟩)
          | fail)
        go_ret
        exact ⟨_, rfl, congrArg Value.bool HR0.out.symm, nx HB1.out HB2.out⟩
      | true =>
        have HR0 : Hid (R = ((x.zone.length : Int) == 0)) := by show _ = _; rw [HV1.out]; simp
        clear HV1
        go_wp2_with (first
          | (go_at_call 58; (with_reducible refine (HBL.out w1).mono ?_); rintro e w2 ⟨v2, rfl, rfl, hb2⟩; have HB2 := Lib.hid hb2)
          | (go_at_call 26; (with_reducible refine (HTT.out w1).mono ?_); rintro e w0 ⟨rfl, rfl⟩)
          | fail)
        go_ret
        exact ⟨_, rfl, congrArg Value.bool HR0.out.symm, nx HB1.out HB2.out⟩
  have hk0 : (x.kind == 1) = false := by simp [h1]
  have hk1 : (x.kind == 2) = false := by simp [h2]
  have hk2 : (x.kind == 3) = false := by simp [h3]
  have HR0 : Hid (R = false) := by show _ = _; rw [HV.out, if_neg h1, if_neg h2, if_neg h3]
  clear HV h1 h2 h3
  go_wp2
  go_ret
  exact ⟨_, rfl, congrArg Value.bool HR0.out.symm, HB1.out⟩

end Go.Proofs.Ytimkdpkhdbiniaa

/- CodeEncodes: the law's walk (printed by gen/law15e.py). -/
namespace Go.Proofs.Ytimkdpkhdbiniaa
open Go.RowKit
set_option maxRecDepth 100000
set_option linter.unusedVariables false

/-- What the statement's own bounds leave open. -/
structure SoaLt (x : En) : Prop where
  t : x.f.soa.texts.length ≤ 8796093022208
  b : x.f.soa.bytes.length ≤ 140737488355328
theorem LtEn.ltF {x : En} (h : LtEn x) (hs : SoaLt x) : LtF x.f := by
  have h1 := h.n
  have h2 := h.z
  have h3 := h.l
  have h4 := h.h
  have h5 := h.m
  have h6 := h.s
  have h7 := hs.t
  have h8 := hs.b
  refine ⟨by omega, by omega, by omega, fun d hd => ?_, by omega, by omega, by omega, by omega, by omega⟩
  obtain ⟨a1, a2, a3, a4, a5⟩ := h.r d hd
  exact ⟨by omega, by omega, by omega, by omega, by omega⟩
theorem LtEn.ltE {x : En} (h : LtEn x) (hs : SoaLt x) : LtE x := by
  have h1 := h.n
  have h2 := h.z
  have h3 := h.l
  have h4 := h.h
  have h5 := h.m
  have h6 := h.s
  have h7 := hs.t
  have h8 := hs.b
  have h9 := h.Z
  exact ⟨h.ltF hs, ⟨by omega, by omega, by omega, by omega, by omega, by omega, by omega, by omega⟩, by omega⟩
theorem LtEn.ltO {x : En} (h : LtEn x) (hs : SoaLt x) : LtO x.f := by
  have h1 := h.n
  have h2 := h.z
  have h3 := h.l
  have h4 := h.h
  have h5 := h.m
  have h6 := h.s
  have h7 := hs.t
  have h8 := hs.b
  refine ⟨by omega, by omega, by omega, fun d hd => ?_, by omega, by omega, by omega, by omega, by omega⟩
  obtain ⟨a1, a2, a3, a4, a5⟩ := h.r d hd
  exact ⟨by omega, by omega, by omega, by omega, by omega⟩

set_option maxHeartbeats 8000000 in
theorem codeEncodes_heavy (s : ES) (x : En) (w : World) (h : EnIn (ltS w) w s x) (hL : ltEn x = false) :
    Calls Try.prog 4 #[enV s x] w (LawT w) := by
  obtain ⟨w1, hw1⟩ : ∃ w1, w1 = w.alloc (.cells (enCells s x) 50) := ⟨_, rfl⟩
  have hb1 : Below w.heap.size w w1 := by rw [hw1]; exact bl.alloc (Nat.le_refl _) _
  have HR : Hid (EnRow w1 w.heap.size s x) := by show EnRow _ _ _ _; rw [hw1]; exact EnRow.made w s x
  have HB1 := Lib.hid hb1
  have HI : Hid (∀ u, Below w1.heap.size w1 u → EnIn (ltS w) u s x) := fun u hu => (h.below hb1 (fun b hb => hb)).below hu (fun b hb => Nat.lt_of_lt_of_le hb hb1.size)
  have HSW : Hid (∀ u, Below w1.heap.size w1 u → ∀ b, ltS w b → b < u.heap.size) := fun u hu b hb => Nat.lt_of_lt_of_le (Nat.lt_of_lt_of_le hb hb1.size) hu.size
  have HLI : Hid (∀ u, Below w1.heap.size w1 u → Calls Try.prog 19 #[enV s x] u (RetP (fun v _ => v = .bool (ltEn x)) u)) := fun u hu => light15_any s x u (HI.out u hu) (HSW.out u hu)
  obtain ⟨x0, x1, x2, x3, x4, x5, x6, x7, x8, x9, x10, x11, x12, x13, x14, x15⟩ := HR.out.cells
  rw [hL] at HLI
  unfold enV at HLI ⊢
  unfold enCells at hw1 HLI ⊢
  clear h hb1 hL
  go_enter Try.func4, Try.ntmps4
  go_upto_region 1 with (fail)
  rw [← hw1]
  clear hw1
  go_wp2_with (first
    | (go_at_call 18; (with_reducible refine (answers15_any w3).mono ?_); rintro e w4 ⟨rfl, hb4⟩)
    | (go_at_call 19; (with_reducible refine (HLI.out w2 HB2.out).mono ?_); rintro e w3 ⟨v3, rfl, rfl, hb3⟩; have HB3 := Lib.hid (nx HB2.out hb3); clear hb3)
    | (go_at_call 18; (with_reducible refine (answers15_any w1).mono ?_); rintro e w2 ⟨rfl, hb2⟩; have HB2 := Lib.hid hb2; obtain ⟨x0, x1, x2, x3, x4, x5, x6, x7, x8, x9, x10, x11, x12, x13, x14, x15⟩ := (HR.out.below hb2).cells; clear hb2)
    | fail)
  go_ret
  exact ⟨rfl, nx HB1.out (nx HB3.out hb4)⟩

set_option maxHeartbeats 16000000 in
theorem codeEncodes_main (s : ES) (x : En) (w : World) (h : EnIn (ltS w) w s x) (hL : LtEn x) (hs : SoaLt x) :
    Calls Try.prog 4 #[enV s x] w (LawT w) := by
  obtain ⟨w1, hw1⟩ : ∃ w1, w1 = w.alloc (.cells (enCells s x) 50) := ⟨_, rfl⟩
  have hb1 : Below w.heap.size w w1 := by rw [hw1]; exact bl.alloc (Nat.le_refl _) _
  have HR : Hid (EnRow w1 w.heap.size s x) := by show EnRow _ _ _ _; rw [hw1]; exact EnRow.made w s x
  have HB1 := Lib.hid hb1
  have HI : Hid (∀ u, Below w1.heap.size w1 u → EnIn (ltS w) u s x) := fun u hu => (h.below hb1 (fun b hb => hb)).below hu (fun b hb => Nat.lt_of_lt_of_le hb hb1.size)
  have HSW : Hid (∀ u, Below w1.heap.size w1 u → ∀ b, ltS w b → b < u.heap.size) := fun u hu b hb => Nat.lt_of_lt_of_le (Nat.lt_of_lt_of_le hb hb1.size) hu.size
  have HLI : Hid (∀ u, Below w1.heap.size w1 u → Calls Try.prog 19 #[enV s x] u (RetP (fun v _ => v = .bool (ltEn x)) u)) := fun u hu => light15_any s x u (HI.out u hu) (HSW.out u hu)
  obtain ⟨x0, x1, x2, x3, x4, x5, x6, x7, x8, x9, x10, x11, x12, x13, x14, x15⟩ := HR.out.cells
  rw [ltEn_yes hL] at HLI
  have hLE := hL.ltE hs
  have HLE := Lib.hid hLE
  have hzo := hL.Z
  have HOW : Hid (∀ u, Below w1.heap.size w1 u → Calls Try.prog 21 #[enV s x] u (RetP (fun v w' => ∃ s', v = enV s' x ∧ EnIn (geS u.heap.size w') w' s' x) u)) := fun u hu => own15_any s x u (HI.out u hu) (HSW.out u hu) (hL.ltO hs) (by omega)
  have HEN : Hid (∀ u, Below w1.heap.size w1 u → Calls Try.prog 22 #[.int .i64 x.kind, .int .i64 x.time, faV s.f x.f, .slice s.Z x.zone.length s.zc] u (RetP (fun v _ => v = .bool (fineE x)) u)) := fun u hu => rEntry_any s x u (HI.out u hu) (HSW.out u hu) hLE
  have HBY : Hid (fineE x = true → ∀ u, Below w1.heap.size w1 u → Calls Try.prog 24 #[.int .i64 x.kind, .int .i64 x.time, faV s.f x.f, .slice s.Z x.zone.length s.zc] u (RetP (fun v w' => RdS w' v (enW x).b) u)) := fun hf u hu => rBytes_any s x u (HI.out u hu) (HSW.out u hu) (enOk hf)
  have HCE : Hid (∀ u t, EnIn (fun b => b < u.heap.size) u t x → Calls Try.prog 20 #[enV t x] u (RetP (fun v w' => ∃ A c, v = .tuple #[.slice A (encE x).1.length c, .int .i64 (encE x).2] ∧ OwnB w' u.heap.size (.slice A (encE x).1.length c) (encE x).1) u)) := fun u t ht => cEncode_any t x u ht (fun b hb => hb) hLE
  have HCS : Hid (∀ u t, EnIn (fun b => b < u.heap.size) u t x → Calls Try.prog 23 #[enV t x] u (RetP (fun v _ => v = .bool (fineE x)) u)) := fun u t ht => csound_any t x u ht (fun b hb => hb) hLE
  have HEB := Lib.hid (@encE_bad x)
  have HEL := Lib.hid (@encE_large x)
  have HEO := Lib.hid (@encE_ok x)
  have HWL : Hid (fineE x = true → (enW x).b.length ≤ 6000000) := fun hf => enW_len (enOk hf)
  obtain ⟨E, hE⟩ : ∃ E, E = encE x := ⟨_, rfl⟩
  rw [← hE] at HCE HEB HEL HEO
  obtain ⟨bs, er⟩ := E
  obtain ⟨n, hn⟩ : ∃ n, n = bs.length := ⟨_, rfl⟩
  have HN := Lib.hid hn
  have HCE2 : Hid (∀ u t, EnIn (fun b => b < u.heap.size) u t x → Calls Try.prog 20 #[enV t x] u (RetP (fun v w' => ∃ A c, v = .tuple #[.slice A n c, .int .i64 er] ∧ OwnB w' u.heap.size (.slice A n c) bs) u)) := fun u t ht => by rw [hn]; exact HCE.out u t ht
  clear HCE hE hn hLE hzo
  obtain ⟨R, hR⟩ : ∃ R, R = fineE x := ⟨_, rfl⟩
  rw [← hR] at HEN HBY HCS HEB HEL HEO HWL
  clear hR
  generalize (enW x).b = want at HBY HEL HEO HWL
  unfold enV at HLI HOW HCE2 HCS ⊢
  unfold enCells at hw1 HLI HOW HCE2 HCS ⊢
  unfold faV faCells at HEN HBY
  clear h hb1 hL hs
  go_enter Try.func4, Try.ntmps4
  go_upto_region 1 with (fail)
  rw [← hw1]
  clear hw1
  go_upto_region 3 with (first
    | (go_at_call 19; (with_reducible refine (HLI.out w2 HB2.out).mono ?_); rintro e w3 ⟨v3, rfl, rfl, hb3⟩; have HB3 := Lib.hid (nx HB2.out hb3); clear hb3)
    | (go_at_call 18; (with_reducible refine (answers15_any w1).mono ?_); rintro e w2 ⟨rfl, hb2⟩; have HB2 := Lib.hid hb2; obtain ⟨x0, x1, x2, x3, x4, x5, x6, x7, x8, x9, x10, x11, x12, x13, x14, x15⟩ := (HR.out.below hb2).cells; clear hb2)
    | fail)
  clear x0 x1 x2 x3 x4 x5 x6 x7 x8 x9 x10 x11 x12 x13 x14 x15
  obtain ⟨x0, x1, x2, x3, x4, x5, x6, x7, x8, x9, x10, x11, x12, x13, x14, x15⟩ := (HR.out.below HB3.out).cells
  go_upto_region 4 with (first
    | (go_at_call 20; (with_reducible refine (HCE2.out w4 s4 HI4.out).mono ?_); rintro e w5 ⟨v5, rfl, ⟨A5, c5, rfl, ho5⟩, hb5⟩; have HO5 := Lib.hid ho5; have HB5 := Lib.hid (nx HB4.out hb5); clear ho5 hb5)
    | (go_at_call 21; (with_reducible refine (HOW.out w3 HB3.out).mono ?_); rintro e w4 ⟨v4, rfl, ⟨s4, rfl, hi4⟩, hb4⟩; have HI4 : Hid (EnIn (fun b => b < w4.heap.size) w4 s4 x) := hi4.mono (fun b hb => hb.2); have HB4 := Lib.hid (nx HB3.out hb4); clear hi4 hb4)
    | fail)
  clear x0 x1 x2 x3 x4 x5 x6 x7 x8 x9 x10 x11 x12 x13 x14 x15
  obtain ⟨x0, x1, x2, x3, x4, x5, x6, x7, x8, x9, x10, x11, x12, x13, x14, x15⟩ := (HR.out.below HB5.out).cells
  go_upto_region 5 with (first
    | (go_at_call 22; (with_reducible refine (HEN.out w5 HB5.out).mono ?_); rintro e w6 ⟨v6, rfl, rfl, hb6⟩; have HC6 := Lib.hid hb6; have HB6 := Lib.hid (nx HB5.out hb6); clear hb6)
    | fail)
  clear x0 x1 x2 x3 x4 x5 x6 x7 x8 x9 x10 x11 x12 x13 x14 x15
  obtain ⟨x0, x1, x2, x3, x4, x5, x6, x7, x8, x9, x10, x11, x12, x13, x14, x15⟩ := (HR.out.below HB6.out).cells
  have hrr : (R != R) = false := by simp
  go_upto_region 7 with (first
    | (go_at_call 23; (with_reducible refine (HCS.out w7 s7 HI7.out).mono ?_); rintro e w8 ⟨v8, rfl, rfl, hb8⟩; have HC8 := Lib.hid (nx HC7.out hb8); have HB8 := Lib.hid (nx HB7.out hb8); clear hb8)
    | (go_at_call 21; (with_reducible refine (HOW.out w6 HB6.out).mono ?_); rintro e w7 ⟨v7, rfl, ⟨s7, rfl, hi7⟩, hb7⟩; have HI7 : Hid (EnIn (fun b => b < w7.heap.size) w7 s7 x) := hi7.mono (fun b hb => hb.2); have HC7 := Lib.hid (nx HC6.out hb7); have HB7 := Lib.hid (nx HB6.out hb7); clear hi7 hb7)
    | fail)
  clear x0 x1 x2 x3 x4 x5 x6 x7 x8 x9 x10 x11 x12 x13 x14 x15 hrr
  cases R with
  | false =>
    have he := HEB.out rfl
    have he1 : bs = [] := congrArg Prod.fst he
    have he2 : er = 2 := congrArg Prod.snd he
    subst he1 he2
    obtain rfl : n = 0 := HN.out
    clear HEB HEL HEO HWL HBY he
    go_wp2
    go_ret
    exact ⟨rfl, nx HB1.out HB8.out⟩
  | true =>
    have HBY2 := Lib.hid (HBY.out rfl)
    have hwl : want.length ≤ 6000000 := HWL.out rfl
    obtain ⟨x0, x1, x2, x3, x4, x5, x6, x7, x8, x9, x10, x11, x12, x13, x14, x15⟩ := (HR.out.below HB8.out).cells
    obtain ⟨m, hm⟩ : ∃ m, m = want.length := ⟨_, rfl⟩
    have HM := Lib.hid hm
    have hmb : m ≤ 6000000 := by rw [hm]; exact hwl
    clear hwl
    clear HBY HEB hm HWL
    go_upto_region 10 with (first
      | (go_at_call 24; (with_reducible refine (HBY2.out w8 HB8.out).mono ?_); rintro e w9 ⟨v9, rfl, ⟨A9, c9, hv9, hr9, hl9, hm9⟩, hb9⟩; rw [← HM.out] at hv9; subst hv9; have HR9 := Lib.hid hr9; have HC9 := Lib.hid (nx HC8.out hb9); have HB9 := Lib.hid (nx HB8.out hb9); clear hr9 hl9 hm9 hb9)
      | fail)
    clear x0 x1 x2 x3 x4 x5 x6 x7 x8 x9 x10 x11 x12 x13 x14 x15
    by_cases hl : m ≤ 16384
    · have hld : decide ((16384 : Int) < (m : Int)) = false := decide_eq_false (by omega)
      have he := HEO.out (by first | rfl | trivial) (by rw [← HM.out]; exact hl)
      have he1 : bs = want := congrArg Prod.fst he
      have he2 : er = 0 := congrArg Prod.snd he
      subst he1 he2
      have HSM : Hid (Calls Try.prog 25 #[.slice A5 n c5, .slice A9 m c9] w9 (RetN (.bool true) w9)) := by
        have h5 : RdB w9 A5 n bs := by
          obtain ⟨A', c', e', hr, _, _⟩ := OwnB.form (HO5.out.below HC9.out)
          injection e' with e1 e2 e3
          subst e1
          rw [e2]
          exact hr
        have h9 : RdB w9 A9 m bs := by have := HR9.out; rw [← HM.out] at this; exact this
        have h := same_any A5 A9 n c5 m c9 bs bs w9 h5 h9 (by have := HN.out; have := HM.out; unfold maxLen; omega) (by unfold maxLen; omega)
        rw [decide_eq_true rfl] at h
        exact h
      clear HEO HEL he hl hmb
      go_wp2_with (first
        | (go_at_call 25; (with_reducible refine HSM.out.mono ?_); rintro e w10 ⟨rfl, k10, rfl⟩)
        | fail)
      go_ret
      exact ⟨rfl, nx HB1.out (dN HB9.out k10)⟩
    · have hld : decide ((16384 : Int) < (m : Int)) = true := decide_eq_true (by omega)
      have he := HEL.out (by first | rfl | trivial) (by rw [← HM.out]; omega)
      have he1 : bs = [] := congrArg Prod.fst he
      have he2 : er = 4 := congrArg Prod.snd he
      subst he1 he2
      obtain rfl : n = 0 := HN.out
      clear HEO HEL he hl hmb
      go_wp2
      go_ret
      exact ⟨rfl, nx HB1.out HB9.out⟩
theorem codeEncodes_walk (s : ES) (x : En) (w : World) (h : EnIn (ltS w) w s x) (hs : SoaLt x) :
    Calls Try.prog 4 #[enV s x] w (LawT w) := by
  by_cases hL : LtEn x
  · exact codeEncodes_main s x w h hL hs
  · exact codeEncodes_heavy s x w h (ltEn_no hL)
end Go.Proofs.Ytimkdpkhdbiniaa
