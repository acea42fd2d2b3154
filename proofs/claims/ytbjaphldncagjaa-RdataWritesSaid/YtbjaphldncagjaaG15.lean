/- Parts of a proof, joined: LawT, Ans04, Light4, PairMem, DBack, Law04W. -/
import Derived.Deep.RegionHeld
import Derived.Test.YtbjaphldncagjaaG01
import Derived.Test.YtbjaphldncagjaaG08
import Derived.Test.YtbjaphldncagjaaG03
import Derived.Test.YtbjaphldncagjaaG12
import Derived.Test.YtbjaphldncagjaaG04
import Derived.Test.YtbjaphldncagjaaG11
import Derived.Test.YtbjaphldncagjaaG13
import Derived.Test.YtbjaphldncagjaaG14
import Derived.Test.YtbjaphldncagjaaG02
/- What each law's walk ends with. -/
namespace Go.Proofs.Ytbjaphldncagjaa
open Go.RowKit

/-- The law returns true, and what was there is as it was. -/
def LawT (w : World) (e : Ending) (w' : World) : Prop := e = .returned (.bool true) ∧ Below w.heap.size w w'
end Go.Proofs.Ytbjaphldncagjaa

/- rdata: what the law asks of a program that does something (by the general reader). -/
namespace Go.Proofs.Ytbjaphldncagjaa
open Go.RowKit
set_option maxRecDepth 100000

theorem getD_1234 : getD [1, 2, 3, 4] ((0 : Nat) : Int) ((4 : Nat) : Int) 1 = ({ Da.zero with bytes := [1, 2, 3, 4] }, 0) := by
  unfold getD
  rw [if_neg (by decide), if_neg (by decide)]
  rfl
set_option maxHeartbeats 1000000 in
theorem answers04_any (w : World) : Calls Try.prog 46 #[] w (LawT w) := by
  obtain ⟨w1, hw1⟩ : ∃ w1, w1 = w.alloc (.cells #[.int .u8 1, .int .u8 2, .int .u8 3, .int .u8 4] 5) := ⟨_, rfl⟩
  have hb1 : Below w.heap.size w w1 := by rw [hw1]; exact bl.alloc (Nat.le_refl _) _
  have hr1 : RdB w1 (some ⟨w.heap.size, 0, none⟩) 4 [1, 2, 3, 4] := by rw [hw1]; exact lit_rd w [1, 2, 3, 4] (by decide)
  have hlt : w.heap.size < w1.heap.size := by rw [hw1]; simp
  have hget := getD_any w1 (some ⟨w.heap.size, 0, none⟩) 4 4 0 4 1 [1, 2, 3, 4] hr1 (fun b off e => by injection e with e; injection e with e; omega) (by decide) (by decide) (by decide) (by decide) (by decide) (by decide)
  unfold goodG at hget
  rw [getD_1234] at hget
  have HG := Lib.hid hget
  clear hget
  go_enter Try.func46, Try.ntmps46
  go_wp2_with fail
  rw [← hw1]
  clear hw1
  refine HG.out.mono ?_
  rintro e w2 ⟨v2, rfl, ⟨s, rfl, hgot⟩, hb2⟩
  unfold dsV
  obtain ⟨w3, hw3⟩ : ∃ w3, w3 = w2.alloc (.cells #[.slice s.A0 4 s.c0, .slice s.A1 0 s.c1, .slice s.A2 0 s.c2, .slice s.A3 0 s.c3, .slice s.A4 0 s.c4] 46) := ⟨_, rfl⟩
  have hb3 : Below w2.heap.size w2 w3 := by rw [hw3]; exact bl.alloc (Nat.le_refl _) _
  have y0 : w3.cell? ⟨w2.heap.size, 0, none⟩ = some (.slice s.A0 4 s.c0) := by rw [hw3]; exact new_cell _ _ _ 0
  have hr2 : RdB w2 s.A0 4 [1, 2, 3, 4] := hgot.b.rd.1
  obtain ⟨b, off, x, hA, hx, hc⟩ := (hr2.below hb3).at_ (k := 3) (by omega)
  rw [hA] at y0 hw3
  have hx4 : x = 4 := by injection hx with hx; exact hx.symm
  subst hx4
  have hc' : w3.cell? ⟨b, off + 3, none⟩ = some (.int .u8 4) := hc
  have hbA := nx (nx hb1 hb2) hb3
  clear hx hc hr2 hr1 hgot
  go_upto_region 2 with (fail)
  change Code.wp _ _ _ _ (w2.alloc (.cells #[.slice (some ⟨b, off, none⟩) 4 s.c0, .slice s.A1 0 s.c1, .slice s.A2 0 s.c2, .slice s.A3 0 s.c3, .slice s.A4 0 s.c4] 46))
  rw [← hw3]
  clear hw3
  go_wp2
  go_ret
  exact ⟨rfl, hbA⟩
end Go.Proofs.Ytbjaphldncagjaa

/- RdataSame: is data not too large? -/
namespace Go.Proofs.Ytbjaphldncagjaa
open Go.RowKit
set_option maxRecDepth 100000

def LightD (x : Da) : Prop := (∀ l ∈ x.host, l.length ≤ 300) ∧ (∀ l ∈ x.mail, l.length ≤ 300) ∧ (∀ l ∈ x.texts, l.length ≤ 600) ∧ x.host.length ≤ 300 ∧ x.mail.length ≤ 300 ∧ x.texts.length ≤ 200 ∧ x.nums.length ≤ 200 ∧ x.bytes.length ≤ 70000
instance (x : Da) : Decidable (LightD x) := by unfold LightD; exact inferInstance
def lightD (x : Da) : Bool := decide (LightD x)
theorem all_snoc {P : List UInt8 → Prop} {ls : List (List UInt8)} {k : Nat} {l : List UInt8} (hx : ls[k]? = some l) (h : ∀ y ∈ ls.take k, P y) (hl : P l) : ∀ y ∈ ls.take (k + 1), P y := fun y hy => by
  rw [List.take_add_one, hx, Option.toList_some, List.mem_append, List.mem_singleton] at hy
  rcases hy with hy | rfl
  · exact h y hy
  · exact hl

set_option maxHeartbeats 2000000 in
theorem light04_any (s : DS) (x : Da) (w : World) (hx : DRd w s x) : Calls Try.prog 47 #[dsV s x] w (RetP (fun v _ => v = .bool (lightD x)) w) := by
  unfold dsV
  obtain ⟨w0, hw0⟩ : ∃ w0, w0 = w.alloc (.cells #[.slice s.A0 x.bytes.length s.c0, .slice s.A1 x.host.length s.c1, .slice s.A2 x.mail.length s.c2, .slice s.A3 x.nums.length s.c3, .slice s.A4 x.texts.length s.c4] 46) := ⟨_, rfl⟩
  have hb0 : Below w.heap.size w w0 := by rw [hw0]; exact bl.alloc (Nat.le_refl _) _
  have hbx : DBox w0 w.heap.size s x := by rw [hw0]; exact DBox.made w s x _
  have hh := hx.h.below hb0
  have hm := hx.m.below hb0
  have ht := hx.t.below hb0
  obtain ⟨a0, a1, a2, a3, a4⟩ := hbx
  have hch := hx.ch
  have hcm := hx.cm
  have hct := hx.ct
  have hcn := hx.cn
  have hcb := hx.cb
  unfold maxLen at hch hcm hct hcn hcb
  go_enter Try.func47, Try.ntmps47
  go_upto_region 1 with (fail)
  rw [← hw0]
  clear hw0 hx
  go_wp2
  go_loop [3] (fun iv => ∃ k : Nat, iv = .int .i64 k ∧ k ≤ x.host.length ∧ Hid (∀ l ∈ x.host.take k, l.length ≤ 300)) (fun iv => x.host.length - (intOf iv).toNat)
  case atStart => exact ⟨0, rfl, Nat.zero_le _, fun l hl => by simp at hl⟩
  case round =>
    obtain ⟨k, rfl, hk, HT3⟩ := hrel
    by_cases hlt : k < x.host.length
    · obtain ⟨l, hl⟩ : ∃ l, x.host[k]? = some l := ⟨_, List.getElem?_eq_getElem hlt⟩
      obtain ⟨b, off, eb, _, hc, hlm⟩ := strs_at hh hl
      rw [eb] at a1
      have hbs := bstr_size l
      have HL := Lib.hid hl
      clear hl
      unfold maxLen at hlm
      by_cases h3 : l.length ≤ 300
      · go_wp2
        go_round
        case rel => exact ⟨k + 1, by go_num, by omega, all_snoc HL.out HT3.out h3⟩
        case measure => simp [intOf]; omega
      · have HF : Hid (lightD x = false) := decide_eq_false fun h => h3 (h.1 l (List.mem_of_getElem? HL.out))
        go_wp2
        go_ret
        exact ⟨_, rfl, by rw [HF.out]; rfl, hb0⟩
    · have hke : k = x.host.length := by omega
      have HA3 : Hid (∀ l ∈ x.host, l.length ≤ 300) := by
        show ∀ l ∈ x.host, l.length ≤ 300
        have := HT3.out
        rw [hke, List.take_length] at this
        exact this
      clear hke HT3
      go_wp2
      go_loop [4] (fun iv => ∃ k : Nat, iv = .int .i64 k ∧ k ≤ x.mail.length ∧ Hid (∀ l ∈ x.mail.take k, l.length ≤ 300)) (fun iv => x.mail.length - (intOf iv).toNat)
      case atStart => exact ⟨0, rfl, Nat.zero_le _, fun l hl => by simp at hl⟩
      case round =>
        obtain ⟨k, rfl, hk, HT4⟩ := hrel
        by_cases hlt : k < x.mail.length
        · obtain ⟨l, hl⟩ : ∃ l, x.mail[k]? = some l := ⟨_, List.getElem?_eq_getElem hlt⟩
          obtain ⟨b, off, eb, _, hc, hlm⟩ := strs_at hm hl
          rw [eb] at a2
          have hbs := bstr_size l
          have HL := Lib.hid hl
          clear hl
          unfold maxLen at hlm
          by_cases h3 : l.length ≤ 300
          · go_wp2
            go_round
            case rel => exact ⟨k + 1, by go_num, by omega, all_snoc HL.out HT4.out h3⟩
            case measure => simp [intOf]; omega
          · have HF : Hid (lightD x = false) := decide_eq_false fun h => h3 (h.2.1 l (List.mem_of_getElem? HL.out))
            go_wp2
            go_ret
            exact ⟨_, rfl, by rw [HF.out]; rfl, hb0⟩
        · have hke : k = x.mail.length := by omega
          have HA4 : Hid (∀ l ∈ x.mail, l.length ≤ 300) := by
            show ∀ l ∈ x.mail, l.length ≤ 300
            have := HT4.out
            rw [hke, List.take_length] at this
            exact this
          clear hke HT4
          go_wp2
          go_loop [5] (fun iv => ∃ k : Nat, iv = .int .i64 k ∧ k ≤ x.texts.length ∧ Hid (∀ l ∈ x.texts.take k, l.length ≤ 600)) (fun iv => x.texts.length - (intOf iv).toNat)
          case atStart => exact ⟨0, rfl, Nat.zero_le _, fun l hl => by simp at hl⟩
          case round =>
            obtain ⟨k, rfl, hk, HT5⟩ := hrel
            by_cases hlt : k < x.texts.length
            · obtain ⟨l, hl⟩ : ∃ l, x.texts[k]? = some l := ⟨_, List.getElem?_eq_getElem hlt⟩
              obtain ⟨b, off, eb, _, hc, hlm⟩ := strs_at ht hl
              rw [eb] at a4
              have hbs := bstr_size l
              have HL := Lib.hid hl
              clear hl
              unfold maxLen at hlm
              by_cases h3 : l.length ≤ 600
              · go_wp2
                go_round
                case rel => exact ⟨k + 1, by go_num, by omega, all_snoc HL.out HT5.out h3⟩
                case measure => simp [intOf]; omega
              · have HF : Hid (lightD x = false) := decide_eq_false fun h => h3 (h.2.2.1 l (List.mem_of_getElem? HL.out))
                go_wp2
                go_ret
                exact ⟨_, rfl, by rw [HF.out]; rfl, hb0⟩
            · have hke : k = x.texts.length := by omega
              have HA5 : Hid (∀ l ∈ x.texts, l.length ≤ 600) := by
                show ∀ l ∈ x.texts, l.length ≤ 600
                have := HT5.out
                rw [hke, List.take_length] at this
                exact this
              clear hke HT5
              by_cases q0 : x.host.length ≤ 300
              · skip
                by_cases q1 : x.mail.length ≤ 300
                · skip
                  by_cases q2 : x.texts.length ≤ 200
                  · skip
                    by_cases q3 : x.nums.length ≤ 200
                    · skip
                      have HF : Hid (lightD x = decide ((x.bytes.length : Int) ≤ 70000)) := by
                        show _ = _
                        unfold lightD
                        rw [Bool.eq_iff_iff, decide_eq_true_iff, decide_eq_true_iff]
                        exact ⟨fun h => by have := h.2.2.2.2.2.2.2; omega, fun h => ⟨HA3.out, HA4.out, HA5.out, q0, q1, q2, q3, by omega⟩⟩
                      go_wp2
                      go_ret
                      exact ⟨_, rfl, by rw [HF.out]; rfl, hb0⟩
                    · have HF : Hid (lightD x = false) := decide_eq_false fun h => q3 h.2.2.2.2.2.2.1
                      go_wp2
                      go_ret
                      exact ⟨_, rfl, by rw [HF.out]; rfl, hb0⟩
                  · have HF : Hid (lightD x = false) := decide_eq_false fun h => q2 h.2.2.2.2.2.1
                    go_wp2
                    go_ret
                    exact ⟨_, rfl, by rw [HF.out]; rfl, hb0⟩
                · have HF : Hid (lightD x = false) := decide_eq_false fun h => q1 h.2.2.2.2.1
                  go_wp2
                  go_ret
                  exact ⟨_, rfl, by rw [HF.out]; rfl, hb0⟩
              · have HF : Hid (lightD x = false) := decide_eq_false fun h => q0 h.2.2.2.1
                go_wp2
                go_ret
                exact ⟨_, rfl, by rw [HF.out]; rfl, hb0⟩
end Go.Proofs.Ytbjaphldncagjaa

/- WnameWrites: the program's writer and the reference's, side by side. -/
namespace Go.Proofs.Ytbjaphldncagjaa
open Go.RowKit

structure PairSt (w wr : World) (g l : Nat) (F G : Nat → Prop) (x : Wr) (y : RW) : Prop where
  W : Wtr wr w.heap.size F g x
  L : RWtr wr w.heap.size G l y
  FG : ∀ b, F b → ¬ G b
  bw : Below w.heap.size w wr
section
variable {w wr w' : World} {g l : Nat} {F G F' : Nat → Prop} {x x' : Wr} {y y' : RW}
theorem PairSt.nx (h : PairSt w wr g l F G x y) (hb : Below wr.heap.size wr w') : PairSt w w' g l F G x y :=
  ⟨h.W.below hb, h.L.below hb, h.FG, Go.Proofs.Ytbjaphldncagjaa.nx h.bw hb⟩
theorem PairSt.stepW (h : PairSt w wr g l F G x y) (hw : Wtr w' w.heap.size F' g x') (hc : Chg F wr w') (hF : ∀ z, F' z → F z ∨ wr.heap.size ≤ z) : PairSt w w' g l F' G x' y :=
  ⟨hw, h.L.chg hc (fun b hb hf => h.FG b hf hb), fun b hb hg => (hF b hb).elim (fun hf => h.FG b hf hg) (fun hl => by have := (h.L.F_lt b hg).2; omega), h.W.bw h.bw (Nat.le_refl _) hc⟩
theorem PairSt.stepL (h : PairSt w wr g l F G x y) (hw : RWtr w' w.heap.size F' l y') (hc : Chg G wr w') (hF : ∀ z, F' z → G z ∨ wr.heap.size ≤ z) : PairSt w w' g l F F' x y' :=
  ⟨h.W.chg hc (fun b hb hf => h.FG b hb hf), hw, fun b hb hg => (hF b hg).elim (fun hf => h.FG b hb hf) (fun hl => by have := (h.W.F_lt b hb).2; omega), h.L.bw h.bw (Nat.le_refl _) hc⟩
/-- The reference's bytes, where they lie. -/
theorem PairSt.bytes (h : PairSt w wr g l F G x y) : ∃ A c, wr.cell? ⟨l, 0, none⟩ = some (.slice A y.b.length c) ∧ RdB wr A y.b.length y.b ∧ y.b.length ≤ c ∧ c ≤ maxLen := by
  obtain ⟨bv, rv, S, hg, hb, _⟩ := h.L
  obtain ⟨A, c, rfl, hr, h1, h2⟩ := hb.form
  exact ⟨A, c, (cell_of_row _ _ _ _ _ _ hg).trans rfl, hr, h1, h2⟩
theorem PairSt.F_lt (h : PairSt w wr g l F G x y) : ∀ b, F b ∨ G b → b < wr.heap.size := fun b hb => hb.elim (fun hf => (h.W.F_lt b hf).2) (fun hg => (h.L.F_lt b hg).2)
/-- What is neither's keeps through a call. -/
theorem PairSt.far (h : PairSt w wr g l F G x y) {b : Nat} (hb : b < w.heap.size) : ¬ F b ∧ ¬ G b :=
  ⟨fun hf => by have := (h.W.F_lt b hf).1; omega, fun hg => by have := (h.L.F_lt b hg).1; omega⟩
end
end Go.Proofs.Ytbjaphldncagjaa

/- rdata: data that was written is read as it is. No program in it. -/
namespace Go.Proofs.Ytbjaphldncagjaa

/-- Bytes l stand at p. -/
def Seg (b : List UInt8) (p : Nat) (l : List UInt8) : Prop := ∃ a y, b = a ++ l ++ y ∧ a.length = p
theorem Seg.cut {b l : List UInt8} {p : Nat} (h : Seg b p l) : (b.drop p).take l.length = l := by
  obtain ⟨a, y, rfl, rfl⟩ := h
  rw [List.append_assoc, List.drop_left, List.take_left]
theorem Seg.left {b l m : List UInt8} {p : Nat} (h : Seg b p (l ++ m)) : Seg b p l := by
  obtain ⟨a, y, rfl, rfl⟩ := h
  exact ⟨a, m ++ y, by simp, rfl⟩
theorem Seg.right {b l m : List UInt8} {p : Nat} (h : Seg b p (l ++ m)) : Seg b (p + l.length) m := by
  obtain ⟨a, y, rfl, rfl⟩ := h
  exact ⟨a ++ l, y, by simp, by simp⟩
theorem Seg.mk (a l y : List UInt8) : Seg (a ++ l ++ y) a.length l := ⟨a, y, rfl, rfl⟩

/-- Numbers of a size, one behind the other. -/
def numsB (ns : List Int) (z : Int) : List UInt8 := ns.flatMap fun n => putB [] n z
/-- Texts, one behind the other. -/
def textsB (ts : List (List UInt8)) : List UInt8 := ts.flatMap fun t => putB [] t.length 1 ++ t
theorem Wr.nums_b (x : Wr) (ns : List Int) (z : Int) : x.nums ns z = x.raw (numsB ns z) := by
  refine snoc_ind (P := fun ns => x.nums ns z = x.raw (numsB ns z)) (by simp [Wr.nums, numsB, Wr.raw]) (fun ns n ih => ?_) ns
  rw [Wr.nums_snoc, ih]
  simp [numsB, Wr.raw, List.flatMap_append]
theorem Wr.texts_b (x : Wr) (ts : List (List UInt8)) : x.texts ts = x.raw (textsB ts) := by
  refine snoc_ind (P := fun ts => x.texts ts = x.raw (textsB ts)) (by simp [Wr.texts, textsB, Wr.raw]) (fun ts n ih => ?_) ts
  rw [Wr.texts_snoc, ih]
  simp [textsB, Wr.raw, List.flatMap_append]
theorem numsB_cons (n : Int) (ns : List Int) (z : Int) : numsB (n :: ns) z = putB [] n z ++ numsB ns z := rfl
theorem textsB_cons (t : List UInt8) (ts : List (List UInt8)) : textsB (t :: ts) = putB [] t.length 1 ++ t ++ textsB ts := rfl
theorem putB_len_fit {n z : Int} (h : fitsB n z = true) : (putB [] n z).length = z.toNat := by
  have := putB_length [] n z h
  have h2 := fitsB_true h
  simp at this
  omega
theorem numsB_len {ns : List Int} {z : Int} (h : ∀ n ∈ ns, fitsB n z = true) : (numsB ns z).length = z.toNat * ns.length := by
  induction ns with
  | nil => simp [numsB]
  | cons n ns ih =>
    rw [numsB_cons, List.length_append, putB_len_fit (h n (List.mem_cons_self ..)), ih (fun m hm => h m (List.mem_cons_of_mem _ hm)), List.length_cons, Nat.mul_succ]
    omega
theorem fits_nat {n z : Int} (h : fitsB n z = true) : n.toNat < 256 ^ z.toNat := by
  obtain ⟨h1, h2, h3, h4⟩ := fitsB_true h
  obtain ⟨z, rfl⟩ := Int.eq_ofNat_of_zero_le (Int.le_trans (by decide) h1)
  obtain ⟨q, rfl⟩ := Int.eq_ofNat_of_zero_le h3
  simp only [Int.toNat_natCast] at h4 ⊢
  have : (q : Int) < ((256 ^ z : Nat) : Int) := by rw [Int.natCast_pow]; exact h4
  omega
theorem numR_back {b : List UInt8} {p en : Nat} {n z : Int} (hf : fitsB n z = true) (h : Seg b p (putB [] n z)) (he : p + z.toNat ≤ en) : numR b p en z.toNat = .ok (n.toNat, p + z.toNat) := by
  have h2 := fitsB_true hf
  have hc := h.cut
  rw [putB_len_fit hf] at hc
  unfold numR
  rw [if_neg (by omega), hc]
  unfold putB
  rw [if_pos hf, List.nil_append, val_be _ _ (fits_nat hf)]
theorem numR_cut {b : List UInt8} {p en z : Nat} (he : en < p + z) : numR b p en z = .error 3 := by unfold numR; rw [if_pos he]
theorem bytesR_back {b l : List UInt8} {p en : Nat} (h : Seg b p l) (he : p + l.length ≤ en) : bytesR b p en l.length = .ok (l, p + l.length) := by
  unfold bytesR
  rw [if_neg (by omega), h.cut]
theorem bytesR_cut {b : List UInt8} {p en z : Nat} (he : en < p + z) : bytesR b p en z = .error 3 := by unfold bytesR; rw [if_pos he]
theorem numsR_back {b : List UInt8} {en : Nat} {z : Int} : ∀ {ns : List Int} {p : Nat} {acc : List Int}, (∀ n ∈ ns, fitsB n z = true) → Seg b p (numsB ns z) → p + (numsB ns z).length ≤ en → numsR b en z.toNat ns.length p acc = .ok (acc ++ ns, p + (numsB ns z).length)
  | [], p, acc, _, _, _ => by simp [numsR, numsB]
  | n :: ns, p, acc, hf, h, he => by
    have hn := hf n (List.mem_cons_self ..)
    have hl := putB_len_fit hn
    rw [numsB_cons] at h he ⊢
    rw [List.length_append, hl] at he ⊢
    have h2 := h.right
    rw [hl] at h2
    rw [List.length_cons, numsR, numR_back hn h.left (by omega)]
    simp only
    rw [numsR_back (fun m hm => hf m (List.mem_cons_of_mem _ hm)) h2 (by omega)]
    have := (fitsB_true hn).2.2.1
    rw [Int.toNat_of_nonneg this, List.append_assoc, List.singleton_append, Nat.add_assoc]
/-- Too short by something: none. -/
theorem numsR_cut {b : List UInt8} {en z : Nat} : ∀ {k p : Nat} {acc : List Int}, p ≤ en → en < p + z * k → ∃ e, numsR b en z k p acc = .error e ∧ e = 3
  | 0, p, acc, h0, h => by omega
  | k + 1, p, acc, h0, h => by
    rw [numsR]
    by_cases h1 : en < p + z
    · rw [numR_cut h1]; exact ⟨3, rfl, rfl⟩
    · unfold numR
      rw [if_neg h1]
      simp only
      exact numsR_cut (by omega) (by rw [Nat.mul_succ] at h; omega)
theorem fits_len {t : List UInt8} (h : t.length ≤ 255) : fitsB (t.length : Int) 1 = true := by unfold fitsB; simp; omega
theorem textsR_back {b : List UInt8} {en : Nat} {ts : List (List UInt8)} : ∀ {k p : Nat} {acc : List (List UInt8)}, (∀ t ∈ ts, t.length ≤ 255) → ts.length ≤ k → 0 < (acc ++ ts).length → Seg b p (textsB ts) → p + (textsB ts).length = en → textsR b en k p acc = .ok (acc ++ ts, en) := by
  induction ts with
  | nil =>
    intro k p acc _ _ h0 _ he
    have he' : p = en := he
    rw [List.append_nil] at h0 ⊢
    cases k with
    | zero => rw [textsR, if_neg (by omega), if_neg (by omega), he']
    | succ k => rw [textsR, if_neg (by omega), if_neg (by omega), he']
  | cons t ts ih =>
    intro k p acc hf hk h0 h he
    cases k with
    | zero => simp at hk
    | succ k =>
      have ht := hf t (List.mem_cons_self ..)
      have hn := fits_len ht
      have hl : (putB [] (t.length : Int) 1).length = 1 := putB_len_fit hn
      rw [textsB_cons] at h he
      rw [List.length_append, List.length_append, hl] at he
      have h1 := h.left.left
      have h2 := h.left.right
      have h3 := h.right
      rw [List.length_append, hl] at h3
      rw [hl] at h2
      have hr : numR b p en 1 = .ok ((t.length : Int).toNat, p + 1) := numR_back (z := 1) hn h1 (by show p + 1 ≤ en; omega)
      rw [textsR, if_pos (by omega), hr]
      simp only
      rw [Int.toNat_natCast, bytesR_back h2 (by omega)]
      simp only
      rw [ih (acc := acc ++ [t]) (fun m hm => hf m (List.mem_cons_of_mem _ hm)) (by simpa using hk) (by simp; omega) (by rw [show p + 1 + t.length = p + (1 + t.length) by omega]; exact h3) (by omega)]
      simp
theorem nameX_back {b : List UInt8} {p q en : Nat} {n : List (List UInt8)} (hs : SoundN n) (h : Stands b p p q n) (hq : q ≤ en) : nameX b p en = .ok (n, q) := by
  have hr := h.read 0 [] (by simpa using hs.2)
  rw [List.nil_append, Nat.zero_max] at hr
  unfold nameX
  rw [hr]
  simp only
  rw [if_pos trivial, Int.toNat_natCast, if_neg (by omega)]
theorem nameX_cut {b : List UInt8} {p q en : Nat} {n : List (List UInt8)} (hs : SoundN n) (h : Stands b p p q n) (hq : en < q) : nameX b p en = .error 3 := by
  have hr := h.read 0 [] (by simpa using hs.2)
  rw [List.nil_append, Nat.zero_max] at hr
  unfold nameX
  rw [hr]
  simp only
  rw [if_pos trivial, Int.toNat_natCast, if_pos hq]

theorem Da.eta5 (d : Da) {b : List UInt8} {h m : List (List UInt8)} {n : List Int} {t : List (List UInt8)} (e1 : d.bytes = b) (e2 : d.host = h) (e3 : d.mail = m) (e4 : d.nums = n) (e5 : d.texts = t) : d = ⟨b, h, m, n, t⟩ := by
  cases d; simp_all
theorem nil_of_len0 {α : Type} {l : List α} (h : (l.length : Int) = 0) : l = [] := List.eq_nil_of_length_eq_zero (by omega)
section
variable {x : Wr} {d : Da}
theorem data_A (hf : FineS shpA d) : ∃ bs, d = ⟨bs, [], [], [], []⟩ ∧ bs.length = 4 ∧ x.data shpA d = x.raw bs := by
  obtain ⟨h1, h2, h3, h4, h5, h6, h7⟩ := hf
  simp [shpA, hostP, textsP] at h1 h3 h4 h5 h7
  have e := Da.eta5 d rfl h4 h5 h3 h7
  refine ⟨d.bytes, e, by omega, ?_⟩
  rw [e]; simp [Wr.data, shpA, Wr.texts, Wr.nums]
theorem data_Q (hf : FineS shpQ d) : ∃ bs, d = ⟨bs, [], [], [], []⟩ ∧ bs.length = 16 ∧ x.data shpQ d = x.raw bs := by
  obtain ⟨h1, h2, h3, h4, h5, h6, h7⟩ := hf
  simp [shpQ, hostP, textsP] at h1 h3 h4 h5 h7
  have e := Da.eta5 d rfl h4 h5 h3 h7
  refine ⟨d.bytes, e, by omega, ?_⟩
  rw [e]; simp [Wr.data, shpQ, Wr.texts, Wr.nums]
theorem data_B (hf : FineS shpB d) : ∃ bs, d = ⟨bs, [], [], [], []⟩ ∧ x.data shpB d = x.raw bs := by
  obtain ⟨h1, h2, h3, h4, h5, h6, h7⟩ := hf
  simp [shpB, hostP, textsP] at h3 h4 h5 h7
  have e := Da.eta5 d rfl h4 h5 h3 h7
  refine ⟨d.bytes, e, ?_⟩
  rw [e]; simp [Wr.data, shpB, Wr.texts, Wr.nums]
theorem data_T (hf : FineS shpT d) : ∃ ts, d = ⟨[], [], [], [], ts⟩ ∧ 1 ≤ ts.length ∧ ts.length ≤ 64 ∧ (∀ t ∈ ts, t.length ≤ 255) ∧ x.data shpT d = x.raw (textsB ts) := by
  obtain ⟨h1, h2, h3, h4, h5, h6, h7⟩ := hf
  simp only [shpT, hostP, textsP, if_pos, Bool.false_eq_true, ite_false] at h1 h3 h4 h5 h7
  have e := Da.eta5 d (nil_of_len0 (h1 (by decide))) h4 h5 (nil_of_len0 h3) rfl
  refine ⟨d.texts, e, h7.1, h7.2.1, h7.2.2, ?_⟩
  rw [e]; simp [Wr.data, shpT, Wr.texts_b, Wr.nums, Wr.raw]
theorem data_N (hf : FineS shpN d) : ∃ h, d = ⟨[], h, [], [], []⟩ ∧ SoundN h ∧ x.data shpN d = x.name h true := by
  obtain ⟨h1, h2, h3, h4, h5, h6, h7⟩ := hf
  simp only [shpN, hostP, textsP, if_pos, Bool.false_eq_true, ite_false] at h1 h3 h4 h5 h7
  have e := Da.eta5 d (nil_of_len0 (h1 (by decide))) rfl h5 (nil_of_len0 h3) h7
  refine ⟨d.host, e, h4, ?_⟩
  rw [e]; simp [Wr.data, shpN, Wr.texts, Wr.nums, Wr.raw_nil]
theorem data_M (hf : FineS shpM d) : ∃ ns h, d = ⟨[], h, [], ns, []⟩ ∧ ns.length = 1 ∧ (∀ n ∈ ns, fitsB n 2 = true) ∧ SoundN h ∧ x.data shpM d = (x.raw (numsB ns 2)).name h true := by
  obtain ⟨h1, h2, h3, h4, h5, h6, h7⟩ := hf
  simp only [shpM, hostP, textsP, if_pos, Bool.false_eq_true, ite_false] at h1 h3 h4 h5 h6 h7
  have e := Da.eta5 d (nil_of_len0 (h1 (by decide))) rfl h5 rfl h7
  refine ⟨d.nums, d.host, e, by omega, h6, h4, ?_⟩
  rw [e]; simp [Wr.data, shpM, Wr.texts, Wr.nums_b, Wr.raw_nil]
theorem data_V (hf : FineS shpV3 d) : ∃ ns h, d = ⟨[], h, [], ns, []⟩ ∧ ns.length = 3 ∧ (∀ n ∈ ns, fitsB n 2 = true) ∧ SoundN h ∧ x.data shpV3 d = (x.raw (numsB ns 2)).name h false := by
  obtain ⟨h1, h2, h3, h4, h5, h6, h7⟩ := hf
  simp only [shpV3, hostP, textsP, if_pos, Bool.false_eq_true, ite_false] at h1 h3 h4 h5 h6 h7
  have e := Da.eta5 d (nil_of_len0 (h1 (by decide))) rfl h5 rfl h7
  refine ⟨d.nums, d.host, e, by omega, h6, h4, ?_⟩
  rw [e]; simp [Wr.data, shpV3, Wr.texts, Wr.nums_b, Wr.raw_nil]
theorem data_S (hf : FineS shpS d) : ∃ ns h m, d = ⟨[], h, m, ns, []⟩ ∧ ns.length = 5 ∧ (∀ n ∈ ns, fitsB n 4 = true) ∧ SoundN h ∧ SoundN m ∧ x.data shpS d = ((x.name h true).name m true).raw (numsB ns 4) := by
  obtain ⟨h1, h2, h3, h4, h5, h6, h7⟩ := hf
  simp only [shpS, hostP, textsP, if_pos, Bool.false_eq_true, ite_false] at h1 h3 h4 h5 h6 h7
  have e := Da.eta5 d (nil_of_len0 (h1 (by decide))) rfl rfl rfl h7
  refine ⟨d.nums, d.host, d.mail, e, by omega, h6, h4, h5, ?_⟩
  rw [e]; simp [Wr.data, shpS, Wr.texts, Wr.nums_b, Wr.raw_nil]
end
theorem Wr.True.data {x : Wr} (hx : x.True) {k : Int} {d : Da} (hf : FineS (shapeP k) d) : (x.data (shapeP k) d).True := by
  rcases shape_cases k with e | e | e | e | e | e | e | e <;> rw [e] at hf ⊢
  · obtain ⟨_, _, _, e⟩ := data_A (x := x) hf; rw [e]; exact hx.raw _
  · obtain ⟨_, _, _, e⟩ := data_Q (x := x) hf; rw [e]; exact hx.raw _
  · obtain ⟨_, _, h, e⟩ := data_N (x := x) hf; rw [e]; exact (hx.name h.1 _).1
  · obtain ⟨_, _, _, _, _, h, e⟩ := data_M (x := x) hf; rw [e]; exact ((hx.raw _).name h.1 _).1
  · obtain ⟨_, _, _, _, _, _, h, h2, e⟩ := data_S (x := x) hf; rw [e]; exact (((hx.name h.1 _).1.name h2.1 _).1).raw _
  · obtain ⟨_, _, _, _, _, h, e⟩ := data_V (x := x) hf; rw [e]; exact ((hx.raw _).name h.1 _).1
  · obtain ⟨_, _, _, _, _, e⟩ := data_T (x := x) hf; rw [e]; exact hx.raw _
  · obtain ⟨_, _, e⟩ := data_B (x := x) hf; rw [e]; exact hx.raw _

theorem seg_raw (x : Wr) (l y : List UInt8) : Seg ((x.raw l).b ++ y) x.b.length l := Seg.mk _ _ _
theorem raw_len (x : Wr) (l : List UInt8) : (x.raw l).b.length = x.b.length + l.length := by simp [Wr.raw]
theorem seg_name (x : Wr) (l y : List UInt8) (n : List (List UInt8)) (sh : Bool) : Seg (((x.raw l).name n sh).b ++ y) x.b.length l := by
  obtain ⟨z, hz, _⟩ := Wr.name_b (x := x.raw l) n sh
  rw [hz]
  exact ⟨x.b, z ++ y, by simp [Wr.raw], rfl⟩

section
variable (b : List UInt8) (pos en : Nat)
theorem dataR_A : dataR b pos en shpA = (match bytesR b pos en 4 with | .error e => .error e | .ok (x, q) => .ok ({ Da.zero with bytes := x }, q)) := rfl
theorem dataR_Q : dataR b pos en shpQ = (match bytesR b pos en 16 with | .error e => .error e | .ok (x, q) => .ok ({ Da.zero with bytes := x }, q)) := rfl
theorem dataR_B : dataR b pos en shpB = (match bytesR b pos en (en - pos) with | .error e => .error e | .ok (x, q) => .ok ({ Da.zero with bytes := x }, q)) := rfl
theorem dataR_T : dataR b pos en shpT = (match textsR b en 64 pos [] with | .error e => .error e | .ok (x, q) => .ok ({ Da.zero with texts := x }, q)) := rfl
theorem dataR_N : dataR b pos en shpN = (match nameX b pos en with | .error e => .error e | .ok (n, q) => .ok ({ Da.zero with host := n }, q)) := rfl
theorem dataR_M : dataR b pos en shpM = (match numsR b en 2 1 pos [] with
    | .error e => .error e
    | .ok (x, q) => match nameX b q en with
      | .error e => .error e
      | .ok (n, r) => .ok ({ Da.zero with nums := x, host := n }, r)) := rfl
theorem dataR_V : dataR b pos en shpV3 = (match numsR b en 2 3 pos [] with
    | .error e => .error e
    | .ok (x, q) => match nameX b q en with
      | .error e => .error e
      | .ok (n, r) => .ok ({ Da.zero with nums := x, host := n }, r)) := rfl
theorem dataR_S : dataR b pos en shpS = (match nameX b pos en with
    | .error e => .error e
    | .ok (n, q) => match nameX b q en with
      | .error e => .error e
      | .ok (m, r) => match numsR b en 4 5 r [] with
        | .error e => .error e
        | .ok (x, t) => .ok ({ Da.zero with nums := x, host := n, mail := m }, t)) := rfl
end
/-- What was written is read, all of it; and of one byte less nothing, but of bytes and of many texts. -/
theorem data_back {x : Wr} (hx : x.True) {k : Int} {d : Da} (hf : FineS (shapeP k) d) (y : List UInt8) :
    dataR ((x.data (shapeP k) d).b ++ y) x.b.length (x.data (shapeP k) d).b.length (shapeP k) = .ok (d, (x.data (shapeP k) d).b.length) := by
  rcases shape_cases k with e | e | e | e | e | e | e | e <;> rw [e] at hf ⊢
  · obtain ⟨bs, rfl, hl, e⟩ := data_A (x := x) hf
    rw [e]
    have h := bytesR_back (en := (x.raw bs).b.length) (seg_raw x bs y) (by rw [raw_len]; omega)
    rw [hl] at h
    rw [dataR_A]
    rw [h, raw_len, hl]; rfl
  · obtain ⟨bs, rfl, hl, e⟩ := data_Q (x := x) hf
    rw [e]
    have h := bytesR_back (en := (x.raw bs).b.length) (seg_raw x bs y) (by rw [raw_len]; omega)
    rw [hl] at h
    rw [dataR_Q]
    rw [h, raw_len, hl]; rfl
  · obtain ⟨n, rfl, hn, e⟩ := data_N (x := x) hf
    rw [e]
    have h := nameX_back hn ((hx.name hn.1 true).2.ext y) (Nat.le_refl _)
    rw [dataR_N]
    rw [h]; rfl
  · obtain ⟨ns, n, rfl, hl, hns, hn, e⟩ := data_M (x := x) hf
    rw [e]
    have h := nameX_back hn (((hx.raw (numsB ns 2)).name hn.1 true).2.ext y) (Nat.le_refl _)
    obtain ⟨z, hz, _⟩ := Wr.name_b (x := x.raw (numsB ns 2)) n true
    have h2 := numsR_back (en := ((x.raw (numsB ns 2)).name n true).b.length) (acc := []) hns (seg_name x _ y n true) (by rw [hz]; simp [Wr.raw])
    rw [hl] at h2
    rw [raw_len] at h
    rw [dataR_M]
    rw [show numsR _ _ 2 1 _ [] = _ from h2]
    simp only
    rw [h]; rfl
  · obtain ⟨ns, n, m, rfl, hl, hns, hn, hm, e⟩ := data_S (x := x) hf
    rw [e]
    have t1 := hx.name hn.1 true
    have t2 := t1.1.name hm.1 true
    obtain ⟨z, hz, _⟩ := Wr.name_b (x := x.name n true) m true
    have hw : (((x.name n true).name m true).raw (numsB ns 4)).b ++ y = (x.name n true).b ++ (z ++ numsB ns 4 ++ y) := by simp [Wr.raw, hz]
    have hw2 : (((x.name n true).name m true).raw (numsB ns 4)).b ++ y = ((x.name n true).name m true).b ++ (numsB ns 4 ++ y) := by simp [Wr.raw]
    have q1 : (x.name n true).b.length ≤ ((x.name n true).name m true).b.length := by rw [hz]; simp
    have q2 := raw_len ((x.name n true).name m true) (numsB ns 4)
    have h := nameX_back (en := (((x.name n true).name m true).raw (numsB ns 4)).b.length) hn (t1.2.ext (z ++ numsB ns 4 ++ y)) (by omega)
    have h' := nameX_back (en := (((x.name n true).name m true).raw (numsB ns 4)).b.length) hm (t2.2.ext (numsB ns 4 ++ y)) (by omega)
    rw [← hw] at h
    rw [← hw2] at h'
    have h2 := numsR_back (en := (((x.name n true).name m true).raw (numsB ns 4)).b.length) (acc := []) hns (seg_raw ((x.name n true).name m true) _ y) (by omega)
    rw [hl] at h2
    rw [dataR_S]
    rw [h]
    simp only
    rw [h']
    simp only
    rw [show numsR _ _ 4 5 _ [] = _ from h2, q2]; rfl
  · obtain ⟨ns, n, rfl, hl, hns, hn, e⟩ := data_V (x := x) hf
    rw [e]
    have h := nameX_back hn (((hx.raw (numsB ns 2)).name hn.1 false).2.ext y) (Nat.le_refl _)
    obtain ⟨z, hz, _⟩ := Wr.name_b (x := x.raw (numsB ns 2)) n false
    have h2 := numsR_back (en := ((x.raw (numsB ns 2)).name n false).b.length) (acc := []) hns (seg_name x _ y n false) (by rw [hz]; simp [Wr.raw])
    rw [hl] at h2
    rw [raw_len] at h
    rw [dataR_V]
    rw [show numsR _ _ 2 3 _ [] = _ from h2]
    simp only
    rw [h]; rfl
  · obtain ⟨ts, rfl, h1, h64, ht, e⟩ := data_T (x := x) hf
    rw [e]
    have h := textsR_back (en := (x.raw (textsB ts)).b.length) (k := 64) (acc := []) ht h64 (by simp; omega) (seg_raw x _ y) (raw_len _ _).symm
    rw [dataR_T]
    rw [h]; rfl
  · obtain ⟨bs, rfl, e⟩ := data_B (x := x) hf
    rw [e]
    have h := bytesR_back (en := (x.raw bs).b.length) (seg_raw x bs y) (by rw [raw_len]; omega)
    rw [dataR_B]
    rw [raw_len, Nat.add_sub_cancel_left]
    rw [raw_len] at h
    rw [h]; rfl
theorem data_cut {x : Wr} (hx : x.True) {k : Int} {d : Da} (hf : FineS (shapeP k) d) (y : List UInt8) (hg : x.b.length < (x.data (shapeP k) d).b.length) (hb : d.bytes = []) (ht1 : d.texts.length ≤ 1) :
    ∃ e, dataR ((x.data (shapeP k) d).b ++ y) x.b.length ((x.data (shapeP k) d).b.length - 1) (shapeP k) = .error e ∧ (e = 2 ∨ e = 3) := by
  rcases shape_cases k with e | e | e | e | e | e | e | e <;> rw [e] at hf hg ⊢
  · obtain ⟨bs, rfl, hl, e⟩ := data_A (x := x) hf
    rw [show bs = [] from hb] at hl; cases hl
  · obtain ⟨bs, rfl, hl, e⟩ := data_Q (x := x) hf
    rw [show bs = [] from hb] at hl; cases hl
  · obtain ⟨n, rfl, hn, e⟩ := data_N (x := x) hf
    rw [e] at hg ⊢
    have h := nameX_cut (en := (x.name n true).b.length - 1) hn ((hx.name hn.1 true).2.ext y) (by omega)
    rw [dataR_N]
    rw [h]
    exact ⟨3, rfl, .inr rfl⟩
  · obtain ⟨ns, n, rfl, hl, hns, hn, e⟩ := data_M (x := x) hf
    rw [e] at hg ⊢
    have hst := (((hx.raw (numsB ns 2)).name hn.1 true).2.ext y)
    have hst2 := ((hx.raw (numsB ns 2)).name hn.1 true).2.lt
    have h := nameX_cut (en := ((x.raw (numsB ns 2)).name n true).b.length - 1) hn hst (by omega)
    rw [raw_len] at hst2
    have h2 := numsR_back (en := ((x.raw (numsB ns 2)).name n true).b.length - 1) (acc := []) hns (seg_name x _ y n true) (by omega)
    rw [hl] at h2
    rw [raw_len] at h
    rw [dataR_M]
    rw [show numsR _ _ 2 1 _ [] = _ from h2]
    simp only
    rw [h]
    exact ⟨3, rfl, .inr rfl⟩
  · obtain ⟨ns, n, m, rfl, hl, hns, hn, hm, e⟩ := data_S (x := x) hf
    rw [e] at hg ⊢
    have t1 := hx.name hn.1 true
    have t2 := t1.1.name hm.1 true
    obtain ⟨z, hz, _⟩ := Wr.name_b (x := x.name n true) m true
    have hw : (((x.name n true).name m true).raw (numsB ns 4)).b ++ y = (x.name n true).b ++ (z ++ numsB ns 4 ++ y) := by simp [Wr.raw, hz]
    have hw2 : (((x.name n true).name m true).raw (numsB ns 4)).b ++ y = ((x.name n true).name m true).b ++ (numsB ns 4 ++ y) := by simp [Wr.raw]
    have q1 : (x.name n true).b.length ≤ ((x.name n true).name m true).b.length := by rw [hz]; simp
    have q2 := raw_len ((x.name n true).name m true) (numsB ns 4)
    have q3 : (numsB ns 4).length = 20 := by rw [numsB_len hns, hl]; rfl
    have h := nameX_back (en := (((x.name n true).name m true).raw (numsB ns 4)).b.length - 1) hn (t1.2.ext (z ++ numsB ns 4 ++ y)) (by omega)
    have h' := nameX_back (en := (((x.name n true).name m true).raw (numsB ns 4)).b.length - 1) hm (t2.2.ext (numsB ns 4 ++ y)) (by omega)
    rw [← hw] at h
    rw [← hw2] at h'
    obtain ⟨e', h2, he'⟩ := numsR_cut (b := (((x.name n true).name m true).raw (numsB ns 4)).b ++ y) (en := (((x.name n true).name m true).raw (numsB ns 4)).b.length - 1) (z := 4) (k := 5) (p := ((x.name n true).name m true).b.length) (acc := []) (by omega) (by omega)
    rw [dataR_S]
    rw [h]
    simp only
    rw [h']
    simp only
    rw [h2]
    exact ⟨e', rfl, .inr he'⟩
  · obtain ⟨ns, n, rfl, hl, hns, hn, e⟩ := data_V (x := x) hf
    rw [e] at hg ⊢
    have hst := (((hx.raw (numsB ns 2)).name hn.1 false).2.ext y)
    have hst2 := ((hx.raw (numsB ns 2)).name hn.1 false).2.lt
    have h := nameX_cut (en := ((x.raw (numsB ns 2)).name n false).b.length - 1) hn hst (by omega)
    rw [raw_len] at hst2
    have h2 := numsR_back (en := ((x.raw (numsB ns 2)).name n false).b.length - 1) (acc := []) hns (seg_name x _ y n false) (by omega)
    rw [hl] at h2
    rw [raw_len] at h
    rw [dataR_V]
    rw [show numsR _ _ 2 3 _ [] = _ from h2]
    simp only
    rw [h]
    exact ⟨3, rfl, .inr rfl⟩
  · obtain ⟨ts, rfl, h1, h64, ht, e⟩ := data_T (x := x) hf
    rw [e] at hg ⊢
    obtain ⟨t, rfl⟩ : ∃ t, ts = [t] := by
      cases ts with
      | nil => simp at h1
      | cons t ts => cases ts with
        | nil => exact ⟨t, rfl⟩
        | cons u us => simp at ht1
    have htl := ht t (List.mem_singleton.2 rfl)
    have hn := fits_len htl
    have hl : (putB [] (t.length : Int) 1).length = 1 := putB_len_fit hn
    have hs := seg_raw x (textsB [t]) y
    have hq := raw_len x (textsB [t])
    have hb1 : (textsB [t]).length = 1 + t.length := by rw [textsB_cons]; simp [hl, textsB]
    rw [textsB_cons] at hs
    rw [dataR_T]
    obtain ⟨en, hen⟩ : ∃ en, en = (x.raw (textsB [t])).b.length - 1 := ⟨_, rfl⟩
    rw [← hen]
    obtain ⟨k, hk⟩ : ∃ k, k = 63 := ⟨_, rfl⟩
    rw [show (64 : Nat) = k + 1 by omega]
    by_cases h0 : t.length = 0
    · rw [textsR, if_neg (by omega), if_pos (by rfl)]
      exact ⟨2, rfl, .inl rfl⟩
    · have hr : numR ((x.raw (textsB [t])).b ++ y) x.b.length en 1 = .ok ((t.length : Int).toNat, x.b.length + 1) := numR_back (z := 1) hn hs.left.left (by show _ + 1 ≤ _; omega)
      rw [textsR, if_pos (by omega), hr]
      simp only
      rw [Int.toNat_natCast, bytesR_cut (by omega)]
      exact ⟨3, rfl, .inr rfl⟩
  · obtain ⟨bs, rfl, e⟩ := data_B (x := x) hf
    rw [show bs = [] from hb] at e
    rw [show bs = [] from hb, e] at hg
    simp [Wr.raw] at hg
theorem textsB_len {ts : List (List UInt8)} (h : ∀ t ∈ ts, t.length ≤ 255) : (textsB ts).length ≤ 256 * ts.length := by
  induction ts with
  | nil => simp [textsB]
  | cons t ts ih =>
    have h1 := ih fun u hu => h u (List.mem_cons_of_mem _ hu)
    have h2 := h t (List.mem_cons_self ..)
    have h3 : (putB [] (t.length : Int) 1).length = 1 := putB_len_fit (fits_len h2)
    rw [textsB_cons]
    simp only [List.length_append, List.length_cons, h3]
    omega
/-- Data takes at most so much, and writes down so many rests. -/
theorem Wr.data_len (x : Wr) {k : Int} {d : Da} (hf : FineS (shapeP k) d) : x.b.length ≤ (x.data (shapeP k) d).b.length ∧ (x.data (shapeP k) d).b.length ≤ x.b.length + 65535 ∧ (x.data (shapeP k) d).rests.length ≤ x.rests.length + 510 := by
  have name_b : ∀ (y : Wr) n sh, y.b.length ≤ (y.name n sh).b.length := fun y n sh => by obtain ⟨z, hz, _⟩ := Wr.name_b (x := y) n sh; rw [hz]; simp
  rcases shape_cases k with e | e | e | e | e | e | e | e <;> rw [e] at hf ⊢
  · obtain ⟨bs, rfl, hl, e⟩ := data_A (x := x) hf; rw [e]; have := raw_len x bs; refine ⟨by omega, by omega, by simp [Wr.raw]⟩
  · obtain ⟨bs, rfl, hl, e⟩ := data_Q (x := x) hf; rw [e]; have := raw_len x bs; refine ⟨by omega, by omega, by simp [Wr.raw]⟩
  · obtain ⟨n, rfl, hn, e⟩ := data_N (x := x) hf; rw [e]
    have h1 := Wr.name_le (x := x) n true; have h2 := Wr.name_rests (x := x) n true; have h3 := name_b x n true; have h4 := sizeN_length n; have h5 := hn.2
    exact ⟨h3, by omega, by omega⟩
  · obtain ⟨ns, n, rfl, hl, hns, hn, e⟩ := data_M (x := x) hf; rw [e]
    have h0 := raw_len x (numsB ns 2); have h00 := numsB_len hns; rw [hl] at h00
    have h1 := Wr.name_le (x := x.raw (numsB ns 2)) n true; have h2 := Wr.name_rests (x := x.raw (numsB ns 2)) n true; have h3 := name_b (x.raw (numsB ns 2)) n true; have h4 := sizeN_length n; have h5 := hn.2
    have h6 : (x.raw (numsB ns 2)).rests = x.rests := rfl
    rw [h6] at h2
    have h7 : (numsB ns 2).length = 2 := h00
    exact ⟨by omega, by omega, by omega⟩
  · obtain ⟨ns, n, m, rfl, hl, hns, hn, hm, e⟩ := data_S (x := x) hf; rw [e]
    have h0 := raw_len ((x.name n true).name m true) (numsB ns 4); have h00 := numsB_len hns; rw [hl] at h00
    have h1 := Wr.name_le (x := x) n true; have h2 := Wr.name_rests (x := x) n true; have h3 := name_b x n true; have h4 := sizeN_length n; have h5 := hn.2
    have h1' := Wr.name_le (x := x.name n true) m true; have h2' := Wr.name_rests (x := x.name n true) m true; have h3' := name_b (x.name n true) m true; have h4' := sizeN_length m; have h5' := hm.2
    have h6 : (((x.name n true).name m true).raw (numsB ns 4)).rests = ((x.name n true).name m true).rests := rfl
    have h7 : (numsB ns 4).length = 20 := h00
    rw [h6]
    exact ⟨by omega, by omega, by omega⟩
  · obtain ⟨ns, n, rfl, hl, hns, hn, e⟩ := data_V (x := x) hf; rw [e]
    have h0 := raw_len x (numsB ns 2); have h00 := numsB_len hns; rw [hl] at h00
    have h1 := Wr.name_le (x := x.raw (numsB ns 2)) n false; have h2 := Wr.name_rests (x := x.raw (numsB ns 2)) n false; have h3 := name_b (x.raw (numsB ns 2)) n false; have h4 := sizeN_length n; have h5 := hn.2
    have h6 : (x.raw (numsB ns 2)).rests = x.rests := rfl
    rw [h6] at h2
    have h7 : (numsB ns 2).length = 6 := h00
    exact ⟨by omega, by omega, by omega⟩
  · obtain ⟨ts, rfl, h1, h64, ht, e⟩ := data_T (x := x) hf; rw [e]; have := raw_len x (textsB ts); have := textsB_len ht; exact ⟨by omega, by omega, by simp [Wr.raw]⟩
  · obtain ⟨bs, he, e⟩ := data_B (x := x) hf
    have h6 : bs.length ≤ 65535 := by have := hf.2.1; rw [he] at this; exact this
    rw [e]; have := raw_len x bs; exact ⟨by omega, by omega, by simp [Wr.raw]⟩
theorem getD_back {x : Wr} (hx : x.True) {k : Int} {d : Da} (hf : FineD k d) (y : List UInt8) {z : Nat} (hz : x.b.length + z = (x.data (shapeP k) d).b.length) :
    getD ((x.data (shapeP k) d).b ++ y) (x.b.length : Int) (z : Int) k = (d, 0) := by
  have h1 := hf.1
  unfold getD
  rw [if_neg (by omega), if_neg (by rw [List.length_append]; omega), Int.toNat_natCast, Int.toNat_natCast, hz, data_back hx hf.2 y]
  simp
theorem getD_cut {x : Wr} (hx : x.True) {k : Int} {d : Da} (hf : FineD k d) (y : List UInt8) {z : Nat} (hz : x.b.length + z = (x.data (shapeP k) d).b.length) (h0 : 0 < z) (hb : d.bytes = []) (ht : d.texts.length ≤ 1) :
    ∃ e, getD ((x.data (shapeP k) d).b ++ y) (x.b.length : Int) ((z - 1 : Nat) : Int) k = (Da.zero, e) ∧ (e = 2 ∨ e = 3) := by
  have h1 := hf.1
  obtain ⟨e, h2, he⟩ := data_cut hx hf.2 y (by omega) hb ht
  refine ⟨e, ?_, he⟩
  unfold getD
  rw [if_neg (by omega), if_neg (by rw [List.length_append]; omega), Int.toNat_natCast, Int.toNat_natCast, show x.b.length + (z - 1) = (x.data (shapeP k) d).b.length - 1 by omega, h2]
end Go.Proofs.Ytbjaphldncagjaa

/- RdataWrites: the law's walk. -/
namespace Go.Proofs.Ytbjaphldncagjaa
open Go.RowKit
set_option maxRecDepth 100000

/-- Where the walk stands behind some names. -/
def WriN (w wr : World) (g l : Nat) (k : Nat) : Prop := ∃ F G x y, PairSt w wr g l F G x y ∧ Alike x y ∧ y.Fine ∧ y.b.length ≤ 300 * k ∧ x.rests.length ≤ 300 * k ∧ y.rests.length ≤ 300 * k
theorem WriN.nx {w wr w' : World} {g l k : Nat} (h : WriN w wr g l k) (hb : Below wr.heap.size wr w') : WriN w w' g l k := by
  obtain ⟨F, G, x, y, h1, h2⟩ := h
  exact ⟨F, G, x, y, h1.nx hb, h2⟩
theorem WriN.more {w wr : World} {g l k k' : Nat} (h : WriN w wr g l k) (hk : k ≤ k') : WriN w wr g l k' := by
  obtain ⟨F, G, x, y, h1, h2, h3, h4, h5, h6⟩ := h
  exact ⟨F, G, x, y, h1, h2, h3, by omega, by omega, by omega⟩
theorem WriN.bw {w wr : World} {g l k : Nat} (h : WriN w wr g l k) : Below w.heap.size w wr := by
  obtain ⟨F, G, x, y, h1, h2⟩ := h
  exact h1.bw
/-- A list of names read in memory. -/
theorem names_at {w : World} {A : Option Addr} {n : Nat} {data : List (List (List UInt8))} (h : RdE (slE encS) w A n data) {k : Nat} {ns : List (List UInt8)} (hx : data[k]? = some ns) :
    ∃ b off A' cx, A = some ⟨b, off, none⟩ ∧ w.cell? ⟨b, off + k, none⟩ = some (.slice A' ns.length cx) ∧ RdE encS w A' ns.length ns ∧ ns.length ≤ cx ∧ cx ≤ maxLen := by
  obtain ⟨b, off, rfl, _, hat⟩ := Els.flat h (by rw [← h.len]; exact Nat.lt_of_le_of_lt (Nat.zero_le k) (List.getElem?_eq_some_iff.1 hx).1)
  obtain ⟨r, ⟨A', m, cx, rfl, he, h1, h2⟩, hc⟩ := hat k ns hx
  have hl := he.len
  subst hl
  exact ⟨b, off, A', cx, rfl, by simpa [slE] using hc 0 _ rfl, he, h1, h2⟩

set_option maxHeartbeats 8000000 in
theorem rdataWrites_ok (k : Int) (s : DS) (d : Da) (A : Option Addr) (c : Nat) (names : List (List (List UInt8))) (w : World) (hd : DRd w s d) (hn : RdE (slE encS) w A names.length names) (hl : lightD d = true) (h30 : names.length ≤ 30) :
    Calls Try.prog 11 #[.int .i64 k, dsV s d, .slice A names.length c] w (LawT w) := by
  obtain ⟨w1, hw1⟩ : ∃ w1, w1 = w.alloc (.cells #[.slice s.A0 d.bytes.length s.c0, .slice s.A1 d.host.length s.c1, .slice s.A2 d.mail.length s.c2, .slice s.A3 d.nums.length s.c3, .slice s.A4 d.texts.length s.c4] 46) := ⟨_, rfl⟩
  have hb1 : Below w.heap.size w w1 := by rw [hw1]; exact bl.alloc (Nat.le_refl _) _
  have HB1 : Hid (DBox w1 w.heap.size s d) := by show DBox _ _ _ _; rw [hw1]; exact DBox.made w s d _
  have HD := Lib.hid hd
  have HN := Lib.hid hn
  have HL := Lib.hid hl
  have HBW1 := Lib.hid hb1
  unfold dsV
  obtain ⟨x0, x1, x2, x3, x4⟩ := HB1.out
  clear hd hn hl hb1
  go_enter Try.func11, Try.ntmps11
  go_upto_region 1 with (fail)
  rw [← hw1]
  clear hw1
  go_upto_region 3 with (first
    | (go_at_call 47; refine (light04_any s d w2 (HD.out.below (nx HBW1.out hb2))).mono ?_; rw [HL.out]; rintro e w3 ⟨v3, rfl, rfl, hb3⟩)
    | (go_at_call 46; refine (answers04_any w1).mono ?_; rintro e w2 ⟨rfl, hb2⟩; have HB2 := Lib.hid (HB1.out.below hb2); obtain ⟨a0, a1, a2, a3, a4⟩ := HB2.out)
    | fail)
  have HB13 := Lib.hid (nx hb2 hb3)
  have HD1 := Lib.hid (HD.out.below HBW1.out)
  have HN1 := Lib.hid (HN.out.below HBW1.out)
  clear x0 x1 x2 x3 x4 a0 a1 a2 a3 a4 HB2 HD HN hb2 hb3
  go_upto_region 4 with (first
    | (go_at_call 48; refine (wnew_any w3).mono ?_; rintro e w4 ⟨g, F, rfl, hw4, hb4⟩; have HW4 := Lib.hid hw4; have HB14 := Lib.hid (nx HB13.out hb4); clear hw4 hb4)
    | fail)
  obtain ⟨w5, hw5⟩ : ∃ w5, w5 = w4.alloc (.cells #[.slice none 0 0, .slice none 0 0] 86) := ⟨_, rfl⟩
  have HS5 : Hid (WriN w1 w5 g w4.heap.size 0) := by
    have hb5 : Below w4.heap.size w4 w5 := by rw [hw5]; exact bl.alloc (Nat.le_refl _) _
    have hm : RWtr w5 w4.heap.size (fun k => k = w4.heap.size) w4.heap.size RW.nil := by rw [hw5]; exact RWtr.made w4
    exact ⟨F, fun k => k = w4.heap.size, Wr.nil, RW.nil, ⟨(HW4.out.below hb5).base_le HB13.out.size, hm.base_le HB14.out.size, fun b hf hg => by have h1 := (HW4.out.F_lt b hf).2; have h2 : b = w4.heap.size := hg; omega, nx HB14.out hb5⟩, alike_nil, RW.fine_nil, Nat.zero_le _, Nat.le_refl _, Nat.le_refl _⟩
  rw [← hw5]
  clear hw5 HW4 HB14
  generalize w4.heap.size = l at HS5 ⊢
  go_wp2_with fail
  go_loopw [9] (fun iv wr => ∃ j : Nat, iv = .int .i64 j ∧ j ≤ names.length ∧ Hid (WriN w1 wr g l j)) (fun iv _ => names.length - (intOf iv).toNat)
  case atStart => exact ⟨0, rfl, Nat.zero_le _, HS5⟩
  case round =>
    clear HS5
    obtain ⟨j, rfl, hj, HS⟩ := hrel
    by_cases hlt : j < names.length
    · obtain ⟨ns, hns⟩ : ∃ ns, names[j]? = some ns := ⟨_, List.getElem?_eq_getElem hlt⟩
      obtain ⟨b0, off0, A', cx, hA, hc1, hrn1, hnc, hcm⟩ := names_at HN1.out hns
      have hc0 := below_cell HS.out.bw hc1
      have HC1 := Lib.hid hc1
      have hrn := hrn1.below HS.out.bw
      have HRN1 := Lib.hid hrn1
      clear hc1 hrn1
      have HA := Lib.hid hA
      rw [hA]
      clear hns hA
      by_cases hs : SoundN ns
      · have HSN := Lib.hid hs
        have hlen : ns.length ≤ 255 := by have := sizeN_length ns; have := hs.2; omega
        have HSB := Lib.hid (soundB_true hs)
        clear hs
        obtain ⟨F, G, x, y, HP, HAL, HFY, hy1, hr1, hr2⟩ := HS.out
        have hxy : x.b.length = y.b.length := by rw [HAL.1]
        have HPP := Lib.hid HP
        have HALL := Lib.hid HAL
        have HFF := Lib.hid HFY
        have HRN := Lib.hid hrn
        have hj30 : j ≤ 30 := by omega
        have hc2 := below_cell (bl.alloc (Nat.le_refl _) (.cells #[] 9)) hc0
        clear HP HAL HFY hrn
        go_wp2_with (first
          | (go_at_call 51; refine (rwname_any w8 w1.heap.size l G y A' _ cx ns true (So := ltS w1) (Si := ltS w1) HP8.out.L (Els.below HRN1.out HP8.out.bw (fun _ h => h) (fun _ h => h)) (fun b (hb : b < w1.heap.size) => ⟨Nat.lt_of_lt_of_le hb HP8.out.bw.size, (HP8.out.far hb).2⟩) HSN.out HFF.out hnc hcm (by omega) (by omega)).mono ?_; rintro e w9 ⟨rfl, G9, h9, hc9, hG9⟩; have HP9 := Lib.hid (HP8.out.stepL h9 hc9 hG9))
          | (go_at_call 50; refine (name_any w7 w1.heap.size g F x A7 _ c7 ns true HP7.out.W hel7 (fun b hb => ⟨(OwnE.lt hown7 b hb).2, fun hf => by have h1 := (OwnE.lt hown7 b hb).1; have h2 := HPP.out.F_lt b (.inl hf); omega⟩) (by omega) hl7 hm7 (by omega) (by omega)).mono ?_; rw [nameS_sound HSN.out]; rintro e w8 ⟨rfl, F8, h8, hc8, hF8⟩; have HP8 := Lib.hid (HP7.out.stepW h8 hc8 hF8); have g8 := below_cell HP8.out.bw HC1.out)
          | ((with_reducible show wpList _ _ _ (⟨some 45, _, _, _, _, _⟩ :: _) _ _); refine wpL_cloneS rfl (.tmp 40) (.tmp 44) rfl rfl A' _ cx ns rfl HRN.out (by omega) ?_; intro v7 w7 hown7 hb7; have HP7 := Lib.hid (HPP.out.nx hb7); have g7 := below_cell HP7.out.bw HC1.out; obtain ⟨A7, c7, rfl, hel7, hl7, hm7⟩ := OwnE.form hown7)
          | (go_at_call 49; refine (rsound_any A' _ cx ns wr HRN.out).mono ?_; rw [HSB.out]; rintro e w6 ⟨rfl, rfl⟩)
          | fail)
        have HW9 : Hid (WriN w1 w9 g l (j + 1)) := by
          have hb9 := RW.name_le (y := y) ns true
          have hx9 := Wr.name_rests (x := x) ns true
          have hy9 := RW.name_rests (x := y) ns true
          have hs9 := HSN.out.2
          exact ⟨F8, G9, x.name ns true, y.name ns true, HP9.out, HALL.out.name (small_of_sound HSN.out) true, RW.Fine.name HSN.out true HFF.out, by omega, by omega, by omega⟩
        go_roundw
        case rel => exact ⟨j + 1, by go_num, by omega, HW9⟩
        case measure => simp [intOf]; omega
      · have HSB := Lib.hid (soundB_false hs)
        clear hs
        have HRN := Lib.hid hrn
        have HW9 := Lib.hid (HS.out.more (Nat.le_succ j))
        clear hrn
        go_wp2_with (first
          | (go_at_call 49; refine (rsound_any A' _ cx ns wr HRN.out).mono ?_; rw [HSB.out]; rintro e w6 ⟨rfl, rfl⟩)
          | fail)
        go_roundw
        case rel => exact ⟨j + 1, by go_num, by omega, HW9⟩
        case measure => simp [intOf]; omega
    · have HW9 := Lib.hid (HS.out.more (show j ≤ 30 by omega))
      clear HS
      obtain ⟨F, G, x, y, HP, HAL, HFY, hy1, hr1, hr2⟩ := HW9.out
      have hxy : x.b.length = y.b.length := by rw [HAL.1]
      have HPP := Lib.hid HP
      have HALL := Lib.hid HAL
      have HFF := Lib.hid HFY
      have hlim : d.bytes.length ≤ 70000 ∧ d.host.length ≤ 300 ∧ d.mail.length ≤ 300 ∧ d.nums.length ≤ 200 ∧ d.texts.length ≤ 200 := by have h : LightD d := of_decide_eq_true HL.out; exact ⟨h.2.2.2.2.2.2.2, h.2.2.2.1, h.2.2.2.2.1, h.2.2.2.2.2.2.1, h.2.2.2.2.2.1⟩
      have HLIM := Lib.hid hlim
      obtain ⟨x0, x1, x2, x3, x4⟩ := HB1.out.below HP.bw
      clear HP HAL HFY HW9 hlim
      by_cases hf : FineD k d
      · have HFD := Lib.hid hf
        have HFB := Lib.hid (fineB_true hf)
        clear hf
        go_upto_region 11 with (first
          | (go_at_call 52; refine (dput_any k w6 w1.heap.size g F x s6 d (geS wr.heap.size w6) HFD.out HP6.out.W HO6.out.din (fun b hb => ⟨hb.2, fun hf => by have h1 := hb.1; have h2 := HPP.out.F_lt b (.inl hf); omega⟩) (by omega) (by omega)).mono ?_; rintro e w7 ⟨rfl, F7, h7, hc7, hF7⟩; have HP7 := Lib.hid (HP6.out.stepW h7 hc7 hF7))
          | (go_at_call 53; refine (ownData_any s d wr (HD1.out.below HPP.out.bw) (by have := HLIM.out; omega)).mono ?_; rintro e w6 ⟨v6, rfl, ⟨s6, rfl, ho6⟩, hb6⟩; have HO6 := Lib.hid ho6; have HP6 := Lib.hid (HPP.out.nx hb6); clear ho6)
          | fail)
        obtain ⟨y0, y1, y2, y3, y4⟩ := HB1.out.below HP7.out.bw
        clear x0 x1 x2 x3 x4 HO6 HP6 h7 hc7 hF7
        go_upto_region 12 with (first
          | (go_at_call 54; refine (rdata_any k s d w7 (HD1.out.below HP7.out.bw) (by have := HLIM.out; omega) (by have := HLIM.out; omega)).mono ?_; rw [HFB.out]; rintro e w8 ⟨v8, rfl, rfl, hb8⟩; have HP8 := Lib.hid (HP7.out.nx hb8); clear hb8)
          | fail)
        obtain ⟨x0, x1, x2, x3, x4⟩ := HB1.out.below HP8.out.bw
        clear y0 y1 y2 y3 y4
        go_upto_region 14 with (first
          | (go_at_call 55; refine (rputD_any k w8 w1.heap.size l G y s d (ltS w1) HFD.out HP8.out.L HFF.out (DIn.below HD1.out.din HP8.out.bw (fun _ h => h)) (fun b (hb : b < w1.heap.size) => ⟨Nat.lt_of_lt_of_le hb HP8.out.bw.size, (HP8.out.far hb).2⟩) (by omega) (by omega)).mono ?_; rintro e w9 ⟨rfl, G9, h9, hc9, hG9⟩; have HP9 := Lib.hid (HP8.out.stepL h9 hc9 hG9); clear h9 hc9 hG9)
          | fail)
        have HA9 := Lib.hid (HALL.out.data HFD.out.2)
        obtain ⟨y0, y1, y2, y3, y4⟩ := HB1.out.below HP9.out.bw
        obtain ⟨Ay, cy, z0, hzr, hzc, hzm⟩ := HP9.out.bytes
        have HZR := Lib.hid hzr
        have hql := HB1.out.lt
        clear x0 x1 x2 x3 x4 hzr
        have HBZ := Lib.hid HP9.out.bw
        have HXL : Hid ((x.data (shapeP k) d).b.length ≤ 1000000 ∧ (y.data (shapeP k) d).b.length ≤ 1000000) := by
          have h1 := Wr.data_len x HFD.out.2
          have h2 := congrArg List.length HA9.out.1
          exact ⟨by omega, by omega⟩
        first
        | go_region_held (fun w' => w'.cell? ⟨w.heap.size, 0, none⟩ = some (.slice s.A0 d.bytes.length s.c0) ∧ w'.cell? ⟨w.heap.size, 1, none⟩ = some (.slice s.A1 d.host.length s.c1) ∧ w'.cell? ⟨w.heap.size, 2, none⟩ = some (.slice s.A2 d.mail.length s.c2) ∧ w'.cell? ⟨w.heap.size, 3, none⟩ = some (.slice s.A3 d.nums.length s.c3) ∧ w'.cell? ⟨w.heap.size, 4, none⟩ = some (.slice s.A4 d.texts.length s.c4) ∧ w'.cell? ⟨l, 0, none⟩ = some (.slice Ay (y.data (shapeP k) d).b.length cy))
            (first
              | with_reducible exact ⟨y0, y1, y2, y3, y4, z0⟩
              | with_reducible exact ⟨below_cell bl.drew y0, below_cell bl.drew y1, below_cell bl.drew y2, below_cell bl.drew y3, below_cell bl.drew y4, below_cell bl.drew z0⟩
              | with_reducible exact ⟨pa0, pa1, pa2, pa3, pa4, za⟩
              | with_reducible exact ⟨pb0, pb1, pb2, pb3, pb4, zb⟩
              | with_reducible exact ⟨pc0, pc1, pc2, pc3, pc4, zc⟩
              | with_reducible exact ⟨pd0, pd1, pd2, pd3, pd4, zd⟩
              | with_reducible exact ⟨pe0, pe1, pe2, pe3, pe4, ze⟩
              | with_reducible exact ⟨pf0, pf1, pf2, pf3, pf4, zf⟩
              | fail)
            (first
              | (go_at_call 52; refine (dput_nil k we se d).mono ?_; rintro e wf ⟨vf, rfl, rfl, hbf⟩; have pf0 := below_cell hbf pe0; have pf1 := below_cell hbf pe1; have pf2 := below_cell hbf pe2; have pf3 := below_cell hbf pe3; have pf4 := below_cell hbf pe4; have zf := below_cell hbf ze; have hbF := nx hbE hbf)
              | (go_at_call 53; refine (ownData_any s d wd (HD1.out.below (nx HBZ.out hbD)) (by have := HLIM.out; omega)).mono ?_; rintro e we ⟨ve, rfl, ⟨se, rfl, hoe⟩, hbe⟩; have pe0 := below_cell hbe pd0; have pe1 := below_cell hbe pd1; have pe2 := below_cell hbe pd2; have pe3 := below_cell hbe pd3; have pe4 := below_cell hbe pd4; have ze := below_cell hbe zd; have hbE := nx hbD hbe)
              | (go_at_call 25; refine (same_any _ _ _ _ _ _ (x.data (shapeP k) d).b (y.data (shapeP k) d).b wc hrc (HZR.out.below hbC) (by unfold maxLen; have := HXL.out; omega) (by unfold maxLen; have := HXL.out; omega)).mono ?_; rw [decide_eq_true HA9.out.1]; rintro e wd ⟨rfl, md, hwd⟩; have hbd : Below wc.heap.size wc wd := (by rw [hwd]; exact dN bl md); clear hwd; have pd0 := below_cell hbd pc0; have pd1 := below_cell hbd pc1; have pd2 := below_cell hbd pc2; have pd3 := below_cell hbd pc3; have pd4 := below_cell hbd pc4; have zd := below_cell hbd zc; have hbD := nx hbC hbd)
              | (go_at_call 57; refine (wbytes_any wb w1.heap.size g F7 (x.data (shapeP k) d) (HP9.out.W.below hbB) (by have := HXL.out; omega)).mono ?_; rintro e wc ⟨vc, rfl, hownc, hbc⟩; obtain ⟨Ac, cc, rfl, hrc, hlc, hmc⟩ := hownc.form; have pc0 := below_cell hbc pb0; have pc1 := below_cell hbc pb1; have pc2 := below_cell hbc pb2; have pc3 := below_cell hbc pb3; have pc4 := below_cell hbc pb4; have zc := below_cell hbc zb; have hbC := nx hbB hbc)
              | (go_at_call 56; refine (dsound_any k sa d wa (hoa.din.rd (fun b hb => hb.2)) (by have := HLIM.out; omega) (by have := HLIM.out; omega) (by have := HLIM.out; omega) (by have := HLIM.out; omega)).mono ?_; rw [HFB.out]; rintro e wb ⟨vb, rfl, rfl, hbb⟩; have pb0 := below_cell hbb pa0; have pb1 := below_cell hbb pa1; have pb2 := below_cell hbb pa2; have pb3 := below_cell hbb pa3; have pb4 := below_cell hbb pa4; have zb := below_cell hbb za; have hbB := nx hbA hbb)
              | (go_at_call 53; refine (ownData_any s d w9.drew (HD1.out.below (nx HBZ.out bl.drew)) (by have := HLIM.out; omega)).mono ?_; rintro e wa ⟨va, rfl, ⟨sa, rfl, hoa⟩, hba'⟩; have hbA : Below w9.heap.size w9 wa := bl.drew.trans hba'; have pa0 := below_cell hbA y0; have pa1 := below_cell hbA y1; have pa2 := below_cell hbA y2; have pa3 := below_cell hbA y3; have pa4 := below_cell hbA y4; have za := below_cell hbA z0)
              | fail)
        | fail
        go_wp2
        go_ret
        exact ⟨rfl, nx HBW1.out (nx HBZ.out hbF)⟩
      · have HFD := Lib.hid hf
        have HFB := Lib.hid (fineB_false hf)
        clear hf
        go_upto_region 11 with (first
          | (go_at_call 52; refine (dput_bad k w6 s6 d HFD.out g (HO6.out.din.rd (fun b hb => hb.2)) (by have := HLIM.out; omega) (by have := HLIM.out; omega) (by have := HLIM.out; omega) (by have := HLIM.out; omega)).mono ?_; rintro e w7 ⟨v7, rfl, rfl, hb7⟩; have HP7 := Lib.hid (HP6.out.nx hb7); clear hb7)
          | (go_at_call 53; refine (ownData_any s d wr (HD1.out.below HPP.out.bw) (by have := HLIM.out; omega)).mono ?_; rintro e w6 ⟨v6, rfl, ⟨s6, rfl, ho6⟩, hb6⟩; have HO6 := Lib.hid ho6; have HP6 := Lib.hid (HPP.out.nx hb6); clear ho6)
          | fail)
        obtain ⟨y0, y1, y2, y3, y4⟩ := HB1.out.below HP7.out.bw
        clear x0 x1 x2 x3 x4 HO6 HP6
        go_upto_region 12 with (first
          | (go_at_call 54; refine (rdata_any k s d w7 (HD1.out.below HP7.out.bw) (by have := HLIM.out; omega) (by have := HLIM.out; omega)).mono ?_; rw [HFB.out]; rintro e w8 ⟨v8, rfl, rfl, hb8⟩; have HP8 := Lib.hid (HP7.out.nx hb8); clear hb8)
          | fail)
        clear y0 y1 y2 y3 y4
        obtain ⟨y0, y1, y2, y3, y4⟩ := HB1.out.below HP8.out.bw
        go_upto_region 14 with (fail)
        obtain ⟨Ay, cy, z0, hzr, hzc, hzm⟩ := HP8.out.bytes
        have HZR := Lib.hid hzr
        have hql := HB1.out.lt
        clear hzr
        have HBZ := Lib.hid HP8.out.bw
        have HXL : Hid (x.b.length ≤ 1000000 ∧ y.b.length ≤ 1000000) := ⟨by omega, by omega⟩
        clear hxy
        first
        | go_region_held (fun w' => w'.cell? ⟨w.heap.size, 0, none⟩ = some (.slice s.A0 d.bytes.length s.c0) ∧ w'.cell? ⟨w.heap.size, 1, none⟩ = some (.slice s.A1 d.host.length s.c1) ∧ w'.cell? ⟨w.heap.size, 2, none⟩ = some (.slice s.A2 d.mail.length s.c2) ∧ w'.cell? ⟨w.heap.size, 3, none⟩ = some (.slice s.A3 d.nums.length s.c3) ∧ w'.cell? ⟨w.heap.size, 4, none⟩ = some (.slice s.A4 d.texts.length s.c4) ∧ w'.cell? ⟨l, 0, none⟩ = some (.slice Ay y.b.length cy))
            (first
              | with_reducible exact ⟨y0, y1, y2, y3, y4, z0⟩
              | with_reducible exact ⟨below_cell bl.drew y0, below_cell bl.drew y1, below_cell bl.drew y2, below_cell bl.drew y3, below_cell bl.drew y4, below_cell bl.drew z0⟩
              | with_reducible exact ⟨pa0, pa1, pa2, pa3, pa4, za⟩
              | with_reducible exact ⟨pb0, pb1, pb2, pb3, pb4, zb⟩
              | with_reducible exact ⟨pc0, pc1, pc2, pc3, pc4, zc⟩
              | with_reducible exact ⟨pd0, pd1, pd2, pd3, pd4, zd⟩
              | with_reducible exact ⟨pe0, pe1, pe2, pe3, pe4, ze⟩
              | with_reducible exact ⟨pf0, pf1, pf2, pf3, pf4, zf⟩
              | fail)
            (first
              | (go_at_call 52; refine (dput_nil k we se d).mono ?_; rintro e wf ⟨vf, rfl, rfl, hbf⟩; have pf0 := below_cell hbf pe0; have pf1 := below_cell hbf pe1; have pf2 := below_cell hbf pe2; have pf3 := below_cell hbf pe3; have pf4 := below_cell hbf pe4; have zf := below_cell hbf ze; have hbF := nx hbE hbf)
              | (go_at_call 53; refine (ownData_any s d wd (HD1.out.below (nx HBZ.out hbD)) (by have := HLIM.out; omega)).mono ?_; rintro e we ⟨ve, rfl, ⟨se, rfl, hoe⟩, hbe⟩; have pe0 := below_cell hbe pd0; have pe1 := below_cell hbe pd1; have pe2 := below_cell hbe pd2; have pe3 := below_cell hbe pd3; have pe4 := below_cell hbe pd4; have ze := below_cell hbe zd; have hbE := nx hbD hbe)
              | (go_at_call 25; refine (same_any _ _ _ _ _ _ x.b y.b wc hrc (HZR.out.below hbC) (by unfold maxLen; have := HXL.out; omega) (by unfold maxLen; have := HXL.out; omega)).mono ?_; rw [decide_eq_true HALL.out.1]; rintro e wd ⟨rfl, md, hwd⟩; have hbd : Below wc.heap.size wc wd := (by rw [hwd]; exact dN bl md); clear hwd; have pd0 := below_cell hbd pc0; have pd1 := below_cell hbd pc1; have pd2 := below_cell hbd pc2; have pd3 := below_cell hbd pc3; have pd4 := below_cell hbd pc4; have zd := below_cell hbd zc; have hbD := nx hbC hbd)
              | (go_at_call 57; refine (wbytes_any wb w1.heap.size g F x (HP8.out.W.below hbB) (by have := HXL.out; omega)).mono ?_; rintro e wc ⟨vc, rfl, hownc, hbc⟩; obtain ⟨Ac, cc, rfl, hrc, hlc, hmc⟩ := hownc.form; have pc0 := below_cell hbc pb0; have pc1 := below_cell hbc pb1; have pc2 := below_cell hbc pb2; have pc3 := below_cell hbc pb3; have pc4 := below_cell hbc pb4; have zc := below_cell hbc zb; have hbC := nx hbB hbc)
              | (go_at_call 56; refine (dsound_any k sa d wa (hoa.din.rd (fun b hb => hb.2)) (by have := HLIM.out; omega) (by have := HLIM.out; omega) (by have := HLIM.out; omega) (by have := HLIM.out; omega)).mono ?_; rw [HFB.out]; rintro e wb ⟨vb, rfl, rfl, hbb⟩; have pb0 := below_cell hbb pa0; have pb1 := below_cell hbb pa1; have pb2 := below_cell hbb pa2; have pb3 := below_cell hbb pa3; have pb4 := below_cell hbb pa4; have zb := below_cell hbb za; have hbB := nx hbA hbb)
              | (go_at_call 53; refine (ownData_any s d w8.drew (HD1.out.below (nx HBZ.out bl.drew)) (by have := HLIM.out; omega)).mono ?_; rintro e wa ⟨va, rfl, ⟨sa, rfl, hoa⟩, hba'⟩; have hbA : Below w8.heap.size w8 wa := bl.drew.trans hba'; have pa0 := below_cell hbA y0; have pa1 := below_cell hbA y1; have pa2 := below_cell hbA y2; have pa3 := below_cell hbA y3; have pa4 := below_cell hbA y4; have za := below_cell hbA z0)
              | fail)
        | fail
        go_wp2
        go_ret
        exact ⟨rfl, nx HBW1.out (nx HBZ.out hbF)⟩

set_option maxHeartbeats 2000000 in
theorem rdataWrites_heavy (k : Int) (s : DS) (d : Da) (A : Option Addr) (c : Nat) (names : List (List (List UInt8))) (w : World) (hd : DRd w s d) (hl : lightD d = true → 30 < names.length) :
    Calls Try.prog 11 #[.int .i64 k, dsV s d, .slice A names.length c] w (LawT w) := by
  obtain ⟨w1, hw1⟩ : ∃ w1, w1 = w.alloc (.cells #[.slice s.A0 d.bytes.length s.c0, .slice s.A1 d.host.length s.c1, .slice s.A2 d.mail.length s.c2, .slice s.A3 d.nums.length s.c3, .slice s.A4 d.texts.length s.c4] 46) := ⟨_, rfl⟩
  have hb1 : Below w.heap.size w w1 := by rw [hw1]; exact bl.alloc (Nat.le_refl _) _
  have HB1 : Hid (DBox w1 w.heap.size s d) := by show DBox _ _ _ _; rw [hw1]; exact DBox.made w s d _
  have HD := Lib.hid hd
  have HBW1 := Lib.hid hb1
  have HLL := Lib.hid hl
  unfold dsV
  obtain ⟨x0, x1, x2, x3, x4⟩ := HB1.out
  clear hd hb1 hl
  cases hl : lightD d with
  | false =>
    have HL := Lib.hid hl
    clear hl
    go_enter Try.func11, Try.ntmps11
    go_upto_region 1 with (fail)
    rw [← hw1]
    clear hw1
    go_wp2_with (first
      | (go_at_call 46; refine (answers04_any w3).mono ?_; rintro e w4 ⟨rfl, hb4⟩)
      | (go_at_call 47; refine (light04_any s d w2 (HD.out.below (nx HBW1.out hb2))).mono ?_; rw [HL.out]; rintro e w3 ⟨v3, rfl, rfl, hb3⟩)
      | (go_at_call 46; refine (answers04_any w1).mono ?_; rintro e w2 ⟨rfl, hb2⟩; have HB2 := Lib.hid (HB1.out.below hb2); obtain ⟨a0, a1, a2, a3, a4⟩ := HB2.out)
      | fail)
    go_ret
    exact ⟨rfl, nx (nx (nx HBW1.out hb2) hb3) hb4⟩
  | true =>
    have HL := Lib.hid hl
    have h30 : (30 : Int) < (names.length : Int) := by have := HLL.out hl; omega
    clear hl
    go_enter Try.func11, Try.ntmps11
    go_upto_region 1 with (fail)
    rw [← hw1]
    clear hw1
    go_wp2_with (first
      | (go_at_call 46; refine (answers04_any w3).mono ?_; rintro e w4 ⟨rfl, hb4⟩)
      | (go_at_call 47; refine (light04_any s d w2 (HD.out.below (nx HBW1.out hb2))).mono ?_; rw [HL.out]; rintro e w3 ⟨v3, rfl, rfl, hb3⟩)
      | (go_at_call 46; refine (answers04_any w1).mono ?_; rintro e w2 ⟨rfl, hb2⟩; have HB2 := Lib.hid (HB1.out.below hb2); obtain ⟨a0, a1, a2, a3, a4⟩ := HB2.out)
      | fail)
    go_ret
    exact ⟨rfl, nx (nx (nx HBW1.out hb2) hb3) hb4⟩

theorem rdataWrites_walk (k : Int) (s : DS) (d : Da) (A : Option Addr) (n c : Nat) (names : List (List (List UInt8))) (w : World) (hd : DRd w s d) (hn : RdE (slE encS) w A n names) :
    Calls Try.prog 11 #[.int .i64 k, dsV s d, .slice A n c] w (LawT w) := by
  have hl := hn.len
  subst hl
  by_cases h : lightD d = true ∧ names.length ≤ 30
  · exact rdataWrites_ok k s d A c names w hd hn h.1 h.2
  · exact rdataWrites_heavy k s d A c names w hd fun h1 => by
      by_cases h2 : names.length ≤ 30
      · exact absurd ⟨h1, h2⟩ h
      · omega
end Go.Proofs.Ytbjaphldncagjaa
