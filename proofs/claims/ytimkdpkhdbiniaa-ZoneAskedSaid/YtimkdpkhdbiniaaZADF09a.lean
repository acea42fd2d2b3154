/- Parts of a proof, joined: RInA. -/
import Derived.Test.YtimkdpkhdbiniaaZADF01
/- The reference's In. -/
namespace Go.Proofs.Ytimkdpkhdbiniaa
open Go.RowKit
set_option maxRecDepth 100000

/-- What a round of In reads. -/
theorem in_cells {w w' : World} {b p q : Nat} {s t : DS} {x d : Da} (h1 : DCells w b p s x) (h2 : DBox w q t d) (hb : Below w.heap.size w w') :
    w'.cell? ⟨b, p, none⟩ = some (.slice s.A0 x.bytes.length s.c0) ∧ w'.cell? ⟨b, p + 1, none⟩ = some (.slice s.A1 x.host.length s.c1) ∧ w'.cell? ⟨b, p + 2, none⟩ = some (.slice s.A2 x.mail.length s.c2) ∧ w'.cell? ⟨b, p + 3, none⟩ = some (.slice s.A3 x.nums.length s.c3) ∧ w'.cell? ⟨b, p + 4, none⟩ = some (.slice s.A4 x.texts.length s.c4) ∧ w'.cell? ⟨q, 0, none⟩ = some (.slice t.A0 d.bytes.length t.c0) ∧ w'.cell? ⟨q, 1, none⟩ = some (.slice t.A1 d.host.length t.c1) ∧ w'.cell? ⟨q, 2, none⟩ = some (.slice t.A2 d.mail.length t.c2) ∧ w'.cell? ⟨q, 3, none⟩ = some (.slice t.A3 d.nums.length t.c3) ∧ w'.cell? ⟨q, 4, none⟩ = some (.slice t.A4 d.texts.length t.c4) := by
  obtain ⟨a0, a1, a2, a3, a4⟩ := h1.below hb
  obtain ⟨b0, b1, b2, b3, b4⟩ := h2.below hb
  exact ⟨a0, a1, a2, a3, a4, b0, b1, b2, b3, b4⟩

set_option maxHeartbeats 4000000 in
theorem rin_any (A : Option Addr) (n c : Nat) (xs : List Da) (t : DS) (d : Da) (w : World) (h : RdE encDa w A n xs) (hn : n ≤ 1000000000) (hd : DRd w t d) :
    Calls Try.prog 77 #[.slice A n c, dsV t d] w (RetP (fun v _ => v = .bool (inD xs d)) w) := by
  have hl := h.len
  subst hl
  unfold dsV
  obtain ⟨w1, hw1⟩ : ∃ w1, w1 = w.alloc (.cells #[.slice t.A0 d.bytes.length t.c0, .slice t.A1 d.host.length t.c1, .slice t.A2 d.mail.length t.c2, .slice t.A3 d.nums.length t.c3, .slice t.A4 d.texts.length t.c4] 46) := ⟨_, rfl⟩
  have hb1 : Below w.heap.size w w1 := by rw [hw1]; exact bl.alloc (Nat.le_refl _) _
  have HB1 := Lib.hid hb1
  have BX : Hid (DBox w1 w.heap.size t d) := by show DBox _ _ _ _; rw [hw1]; exact DBox.made w t d _
  have H := Lib.hid (h.below hb1)
  have HD := Lib.hid (hd.below hb1)
  clear h hd hb1
  go_enter Try.func77, Try.ntmps77
  go_upto_region 1 with (fail)
  rw [← hw1]
  clear hw1
  generalize w.heap.size = q at BX ⊢
  go_wp2_with fail
  go_loopw [5] (fun iv wr => ∃ k : Nat, iv = .int .i64 k ∧ k ≤ xs.length ∧ Hid ((xs.take k).any (fun x => sameD x d) = false) ∧ Hid (Below w1.heap.size w1 wr)) (fun iv _ => xs.length - (intOf iv).toNat)
  case atStart => exact ⟨0, rfl, Nat.zero_le _, rfl, bl⟩
  case round =>
    obtain ⟨k, rfl, hk, HK, HBW⟩ := hrel
    by_cases hlt : k < xs.length
    · obtain ⟨x, hx⟩ : ∃ x, xs[k]? = some x := ⟨_, List.getElem?_eq_getElem hlt⟩
      obtain ⟨b, off, s, hA, _, hdi, hc⟩ := da_at H.out hx
      have HA := Lib.hid hA
      rw [hA]
      have p0 := in_cells hc BX.out HBW.out
      have p0' := in_cells hc BX.out (HBW.out.trans (bl.drew.mono HBW.out.size))
      have hxr : DRd wr.drew s x := ((hdi.rd (fun b hb => hb)).below HBW.out).below bl.drew
      have hdr : DRd wr.drew t d := (HD.out.below HBW.out).below bl.drew
      have HXR := Lib.hid hxr
      have HDR := Lib.hid hdr
      have HX := Lib.hid hx
      have HC := Lib.hid hc
      have hk1 : (0 : Int) ≤ (k : Int) := by omega
      have hk2 : (k : Int) < (xs.length : Int) := by omega
      clear hx hA hdi hc hxr hdr
      cases hp : sameD x d with
      | false =>
        have HP := Lib.hid hp
        clear hp
        go_upto_region 4 with (fail)
        go_region_held3 (fun w' => w'.cell? ⟨b, off + k * 5, none⟩ = some (.slice s.A0 x.bytes.length s.c0) ∧ w'.cell? ⟨b, off + k * 5 + 1, none⟩ = some (.slice s.A1 x.host.length s.c1) ∧ w'.cell? ⟨b, off + k * 5 + 2, none⟩ = some (.slice s.A2 x.mail.length s.c2) ∧ w'.cell? ⟨b, off + k * 5 + 3, none⟩ = some (.slice s.A3 x.nums.length s.c3) ∧ w'.cell? ⟨b, off + k * 5 + 4, none⟩ = some (.slice s.A4 x.texts.length s.c4) ∧ w'.cell? ⟨q, 0, none⟩ = some (.slice t.A0 d.bytes.length t.c0) ∧ w'.cell? ⟨q, 1, none⟩ = some (.slice t.A1 d.host.length t.c1) ∧ w'.cell? ⟨q, 2, none⟩ = some (.slice t.A2 d.mail.length t.c2) ∧ w'.cell? ⟨q, 3, none⟩ = some (.slice t.A3 d.nums.length t.c3) ∧ w'.cell? ⟨q, 4, none⟩ = some (.slice t.A4 d.texts.length t.c4))
          (first
            | with_reducible exact p0
            | with_reducible exact p0'
            | with_reducible exact p1
            | fail)
          (first
            | (go_at_call 79; refine (rsame_any s t x d wr.drew HXR.out HDR.out).mono ?_; rw [HP.out]; rintro e v1 ⟨u1, rfl, rfl, hb1⟩; have hB1 : Below w1.heap.size w1 v1 := nx HBW.out (bl.drew.trans hb1); have p1 := in_cells HC.out BX.out hB1)
            | fail)
        have HB2 := Lib.hid hB1
        clear p0 p0' p1
        go_wp2
        go_roundw
        case rel => exact ⟨k + 1, by go_num, by omega, any_take_succ HX.out HK.out HP.out, HB2⟩
        case measure => simp [intOf]; omega
      | true =>
        have HP := Lib.hid hp
        clear hp
        go_upto_region 4 with (fail)
        go_region_held3 (fun w' => w'.cell? ⟨b, off + k * 5, none⟩ = some (.slice s.A0 x.bytes.length s.c0) ∧ w'.cell? ⟨b, off + k * 5 + 1, none⟩ = some (.slice s.A1 x.host.length s.c1) ∧ w'.cell? ⟨b, off + k * 5 + 2, none⟩ = some (.slice s.A2 x.mail.length s.c2) ∧ w'.cell? ⟨b, off + k * 5 + 3, none⟩ = some (.slice s.A3 x.nums.length s.c3) ∧ w'.cell? ⟨b, off + k * 5 + 4, none⟩ = some (.slice s.A4 x.texts.length s.c4) ∧ w'.cell? ⟨q, 0, none⟩ = some (.slice t.A0 d.bytes.length t.c0) ∧ w'.cell? ⟨q, 1, none⟩ = some (.slice t.A1 d.host.length t.c1) ∧ w'.cell? ⟨q, 2, none⟩ = some (.slice t.A2 d.mail.length t.c2) ∧ w'.cell? ⟨q, 3, none⟩ = some (.slice t.A3 d.nums.length t.c3) ∧ w'.cell? ⟨q, 4, none⟩ = some (.slice t.A4 d.texts.length t.c4))
          (first
            | with_reducible exact p0
            | with_reducible exact p0'
            | with_reducible exact p1
            | fail)
          (first
            | (go_at_call 79; refine (rsame_any s t x d wr.drew HXR.out HDR.out).mono ?_; rw [HP.out]; rintro e v1 ⟨u1, rfl, rfl, hb1⟩; have hB1 : Below w1.heap.size w1 v1 := nx HBW.out (bl.drew.trans hb1); have p1 := in_cells HC.out BX.out hB1)
            | fail)
        have HB2 := Lib.hid hB1
        clear p0 p0' p1
        go_wp2
        go_ret
        exact ⟨_, rfl, by show Value.bool _ = Value.bool _; congr 1; exact (List.any_eq_true.2 ⟨x, List.mem_of_getElem? HX.out, HP.out⟩).symm, nx HB1.out HB2.out⟩
    · obtain rfl : k = xs.length := by omega
      rw [List.take_length] at HK
      go_wp2
      go_ret
      exact ⟨_, rfl, by show Value.bool _ = Value.bool _; congr 1; exact HK.out.symm, nx HB1.out HBW.out⟩

end Go.Proofs.Ytimkdpkhdbiniaa
