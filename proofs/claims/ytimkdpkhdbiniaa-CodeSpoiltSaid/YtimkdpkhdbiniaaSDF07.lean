/- Parts of a proof, joined: CodeD. -/
import Derived.Test.YtimkdpkhdbiniaaSDF06
import Derived.Test.YtimkdpkhdbiniaaSDM14
/- code.data: a record's data, with its length. -/
namespace Go.Proofs.Ytimkdpkhdbiniaa
open Go.RowKit
set_option maxRecDepth 100000
set_option linter.unusedVariables false

set_option maxHeartbeats 8000000 in
theorem cdata_any (k : Int) (w : World) (B g : Nat) (F : Nat → Prop) (x : Wr) (s : DS) (d : Da) (S : Nat → Prop) (hf : FineD k d) (h : Wtr w B F g x) (hd : DIn S w s d) (hS : ∀ b, S b → b < w.heap.size ∧ ¬ F b) (hx : x.b.length ≤ 8000000) :
    Calls Try.prog 150 #[.pointer (some ⟨g, 0, none⟩), .int .i64 k, dsV s d] w (RetX w B F g (x.dat k d) (.tuple #[])) := by
  obtain ⟨w1, hw1⟩ : ∃ w1, w1 = w.alloc (.cells #[.slice s.A0 d.bytes.length s.c0, .slice s.A1 d.host.length s.c1, .slice s.A2 d.mail.length s.c2, .slice s.A3 d.nums.length s.c3, .slice s.A4 d.texts.length s.c4] 46) := ⟨_, rfl⟩
  have hb1 : Below w.heap.size w w1 := by rw [hw1]; exact bl.alloc (Nat.le_refl _) _
  have HR : Hid (DBox w1 w.heap.size s d) := by show DBox _ _ _ _; rw [hw1]; exact DBox.made w s d _
  have ST1 : Hid (WSt w w1 B g F F x) := (WSt.start h).below hb1
  have HD := Lib.hid hd
  have HS := Lib.hid hS
  have HX := Lib.hid hx
  have HF := Lib.hid hf
  have HOL := Lib.hid (one_len hf)
  have HB1 := Lib.hid hb1
  have HSZ : Hid (∀ z, F z → z < w.heap.size) := fun z hz => (h.F_lt z hz).2
  unfold dsV
  clear h hd hS hx hf hb1
  go_enter Try.func150, Try.ntmps150
  go_upto_region 1 with (fail)
  rw [← hw1]
  clear hw1
  go_upto_region 2 with (first
    | (go_at_call 100; refine (wnew_any w1).mono ?_; rintro e w2 ⟨g2, F2, rfl, hW2, hb2⟩; have HW2 := Lib.hid hW2; have HB2 := Lib.hid hb2; have ST2 := Lib.hid (ST1.out.below hb2); obtain ⟨x0, x1, x2, x3, x4⟩ := HR.out.below hb2; clear hW2 hb2)
    | fail)
  have HF2 : Hid (∀ z, F2 z → w1.heap.size ≤ z) := fun z hz => (HW2.out.F_lt z hz).1
  have HD2 : Hid (DIn S w2 s d) := HD.out.below (nx HB1.out HB2.out) (fun b hb => (HS.out b hb).1)
  have HS2 : Hid (∀ b, S b → b < w2.heap.size ∧ ¬ F2 b) := fun b hb => ⟨Nat.lt_of_lt_of_le (HS.out b hb).1 (nx HB1.out HB2.out).size, fun hF => by have h1 := HF2.out b hF; have h2 := (HS.out b hb).1; have h3 := HB1.out.size; omega⟩
  go_upto_region 3 with (first
    | (go_at_call 183; refine (dput_any k w2 w1.heap.size g2 F2 Wr.nil s d S HF.out HW2.out HD2.out HS2.out (by decide) (by decide)).mono ?_; rintro e w3 ⟨rfl, F3, hW3, hc3, hF3⟩; have HW3 : Hid (Wtr w3 w1.heap.size F3 g2 (oneW k d)) := hW3; have HC3 := Lib.hid hc3; clear hW3 hc3 hF3)
    | fail)
  clear x0 x1 x2 x3 x4
  have hFF : ∀ z, F z → ¬ F2 z := fun z hz h2 => by have h3 := HF2.out z h2; have h4 := HSZ.out z hz; have h5 := HB1.out.size; omega
  have ST3 : Hid (WSt w w3 B g F F x) := ST2.out.besides HC3.out hFF (fun z hz => Nat.le_trans HB1.out.size (HF2.out z hz))
  obtain ⟨n, hn⟩ : ∃ n, n = (oneW k d).b.length := ⟨_, rfl⟩
  have HN := Lib.hid hn
  have hdat : x.dat k d = (x.raw (putB [] (n : Int) 2)).raw (oneW k d).b := by rw [hn]; rfl
  have HDAT := Lib.hid hdat
  clear hn hdat hFF
  go_upto_region 4 with (first
    | (go_at_call 101; refine (wnum_any w3 B g F x (n : Int) 2 ST3.out.W (by have := HX.out; omega)).mono ?_; rintro e w4 ⟨rfl, F4, hW4, hc4, hF4⟩; have ST4 := Lib.hid (ST3.out.step hW4 hc4 hF4); have HC4 := Lib.hid hc4; clear hW4 hc4 hF4)
    | (go_at_call 184; refine (wlen_any w3 w1.heap.size g2 F3 (oneW k d) HW3.out).mono ?_; rw [← HN.out]; rintro e w0 ⟨rfl, rfl⟩)
    | fail)
  have HW4 : Hid (Wtr w4 w1.heap.size F3 g2 (oneW k d)) := HW3.out.chg HC4.out (fun z hz h2 => by have h3 := (HW3.out.F_lt z hz).1; have h4 := HSZ.out z h2; have h5 := HB1.out.size; omega)
  have HP2 : Hid ((putB [] (n : Int) 2).length ≤ 7) := putB_nil_le _ _
  go_wp2_with (first
    | (go_at_call 148; refine (wraw_any w5 B g F4 (x.raw (putB [] (n : Int) 2)) A5 (oneW k d).b.length c5 (oneW k d).b (ST4.out.W.below hb5) HR5.out (by have := HX.out; have := HOL.out; have := HP2.out; unfold Wr.raw; simp only [List.length_append]; omega)).mono ?_; rintro e w6 ⟨rfl, F6, hW6, hc6, hF6⟩; have ST6 := Lib.hid ((ST4.out.below hb5).step hW6 hc6 hF6); clear hW6 hc6 hF6)
    | (go_at_call 104; refine (wbytes_any w4 w1.heap.size g2 F3 (oneW k d) HW4.out (by have := HOL.out; omega)).mono ?_; rintro e w5 ⟨v5, rfl, ho5, hb5⟩; obtain ⟨A5, c5, rfl, hr5, _, _⟩ := OwnB.form ho5; have HR5 := Lib.hid hr5; clear hr5 ho5)
    | fail)
  go_end0
  exact ST6.out.done HDAT.out.symm
end Go.Proofs.Ytimkdpkhdbiniaa
