/- Parts of a proof, joined: Wget, RdG1, RdG2, RdG3, Ints, RdG4, RdG5, RdG6, RrMem, DIn, Wtr4. -/
import Derived.Defers
import Derived.Recover
import Derived.StillTailTactics
import Derived.Test.YtbjaphldncagjaaChecked
import Derived.Test.YtbjaphldncagjaaG04
import Derived.Test.YtbjaphldncagjaaG02
import Derived.Test.YtbjaphldncagjaaG03
import Derived.Test.YtbjaphldncagjaaG01
/- wname.Get: the name at a place, as the program reads it. -/
namespace Go.Proofs.Ytbjaphldncagjaa
open Go.RowKit

def RetW (r : List (List UInt8) × Int × Int) (w : World) (e : Ending) (w' : World) : Prop := ∃ v, e = .returned (.tuple #[v, .int .i64 r.2.1, .int .i64 r.2.2]) ∧ OwnS w' w.heap.size v r.1 ∧ Below w.heap.size w w'

theorem retG_eq {r r' : Int × Int} (h : r = r') {w : World} {e : Ending} {w' : World} (hr : RetG r w e w') : RetG r' w e w' := h ▸ hr

set_option maxRecDepth 100000 in
set_option maxHeartbeats 1000000 in
theorem wget_any (A : Option Addr) (m c : Nat) (bs : List UInt8) (p : Int) (w : World) (hb : RdB w A m bs) (hm : m ≤ c) (hc : m ≤ 140737488355328) :
    Calls Try.prog 117 #[.slice A m c, .int .i64 p] w (RetW (if p < 0 then ([], 0, 1) else getP bs p.toNat p.toNat 0 []) w) := by
  have hlb := hb.len
  subst hlb
  by_cases hp : p < 0
  · rw [if_pos hp]
    go_enter Try.func117, Try.ntmps117
    go_wp2
    go_ret3
    exact ⟨_, rfl, OwnE.nil _ _ _ _, bl⟩
  · rw [if_neg hp]
    obtain ⟨q, rfl⟩ := Int.eq_ofNat_of_zero_le (show 0 ≤ p by omega)
    rw [Int.toNat_natCast]
    obtain ⟨R, hR⟩ : ∃ R, R = getP bs q q 0 [] := ⟨_, rfl⟩
    rw [← hR]
    have HR := Lib.hid hR
    clear hR
    go_enter Try.func117, Try.ntmps117
    go_wp2
    go_loopw [1, 4, 5, 7, 8, 9, 10, 11, 12] (fun at_ n nx bg sz _ _ _ _ wr => ∃ (a0 b0 x0 : Nat) (ls : List (List UInt8)), at_ = .int .i64 a0 ∧ bg = .int .i64 b0 ∧ nx = .int .i64 x0 ∧ sz = .int .i64 (sizeN ls : Nat) ∧ sizeN ls ≤ 255 ∧ R = getP bs a0 b0 x0 ls ∧
        x0 ≤ bs.length + 2 ∧ OwnS wr w.heap.size n ls ∧ Below w.heap.size w wr) (fun _ _ _ bg sz _ _ _ _ _ => (intOf bg).toNat * 256 + (255 - (intOf sz).toNat))
    case atStart => exact ⟨q, q, 0, [], rfl, rfl, rfl, rfl, by simp [sizeN], HR.out, by omega, OwnE.nil _ _ _ _, bl⟩
    case round =>
      obtain ⟨a0, b0, x0, ls, rfl, rfl, rfl, rfl, hsz, hRe, hx0, hown, hbw⟩ := hrel
      have HRE := Lib.hid hRe
      clear hRe
      have hbr := hb.below hbw
      rcases hca : bs[a0]? with _ | ca
      · have hg1 := Lib.hid (getN_1n hca)
        have hl : bs.length ≤ a0 := List.getElem?_eq_none_iff.1 hca
        have hRv : Hid (R = ([], 0, 3)) := HRE.out.trans (getP_short hl)
        rw [hRv.out]
        clear hca
        go_wp2_with (go_at_call 118; refine (get_any _ _ _ bs _ _ _ hbr hm hc).mono ?_; rintro e w' ⟨he, rfl⟩; rw [hg1.out] at he; subst he)
        go_ret3
        exact ⟨_, rfl, OwnE.nil _ _ _ _, hbw⟩
      · have hg1 := getN_1s hca
        have hl : a0 < bs.length := (List.getElem?_eq_some_iff.1 hca).1
        have HCA := Lib.hid hca
        clear hca
        obtain ⟨k, hk⟩ : ∃ k, k = ca.toNat := ⟨_, rfl⟩
        have hk8 : k < 256 := by rw [hk]; exact ca.toNat_lt
        rw [← hk] at hg1
        have hg1 := Lib.hid hg1
        have HK := Lib.hid hk
        clear hk
        by_cases hk0 : k = 0
        · have hRv : Hid (R = (ls, ((max x0 (a0 + 1) : Nat) : Int), 0)) := HRE.out.trans (getP_end HCA.out (by rw [← HK.out]; exact hk0))
          subst hk0
          by_cases hx1 : x0 < a0 + 1
          · rw [show max x0 (a0 + 1) = a0 + 1 by omega] at hRv
            rw [hRv.out]
            go_wp2_with (go_at_call 118; refine (get_any _ _ _ bs _ _ _ hbr hm hc).mono ?_; rintro e w' ⟨he, rfl⟩; rw [hg1.out] at he; subst he)
            go_ret3
            exact ⟨_, rfl, hown, hbw⟩
          · rw [show max x0 (a0 + 1) = x0 by omega] at hRv
            rw [hRv.out]
            go_wp2_with (go_at_call 118; refine (get_any _ _ _ bs _ _ _ hbr hm hc).mono ?_; rintro e w' ⟨he, rfl⟩; rw [hg1.out] at he; subst he)
            go_ret3
            exact ⟨_, rfl, hown, hbw⟩
        · have e0 : ((k : Int) == 0) = false := by rw [beq_eq_false_iff_ne]; omega
          by_cases hk2 : 192 ≤ k
          · rcases hda : bs[a0 + 1]? with _ | da
            · have hg2 := Lib.hid (getN_2n HCA.out hda)
              have hl2 : bs.length ≤ a0 + 1 := List.getElem?_eq_none_iff.1 hda
              have hRv : Hid (R = ([], 0, 3)) := HRE.out.trans (getP_short2 HCA.out (by rw [← HK.out]; exact hk2) hl2)
              rw [hRv.out]
              clear hda hk0
              go_wp2_with (go_at_call 118; refine (get_any _ _ _ bs _ _ _ hbr hm hc).mono ?_; rintro e w' ⟨he, rfl⟩; first | rw [hg1.out] at he | rw [hg2.out] at he; subst he)
              go_ret3
              exact ⟨_, rfl, OwnE.nil _ _ _ _, hbw⟩
            · have hg2 := getN_2s HCA.out hda
              have hl2 : a0 + 1 < bs.length := (List.getElem?_eq_some_iff.1 hda).1
              have HDA := Lib.hid hda
              obtain ⟨t, ht⟩ : ∃ t, t = ca.toNat * 256 + da.toNat := ⟨_, rfl⟩
              have ht6 : t < 65536 := by have := ca.toNat_lt; have := da.toNat_lt; omega
              rw [← ht] at hg2
              have hg2 := Lib.hid hg2
              have HT := Lib.hid ht
              have hand := and_16383 t (by omega)
              obtain ⟨u, hu⟩ : ∃ u, u = t % 16384 := ⟨_, rfl⟩
              rw [← hu] at hand
              have hu2 : u < 16384 := by omega
              have HU := Lib.hid hu
              clear hda hk0 ht hu
              by_cases hub : u < b0
              · have hRv : Hid (R = getP bs u u (max x0 (a0 + 2)) ls) := HRE.out.trans (by
                  have h := getP_ptr (nx := x0) (ls := ls) (beg := b0) HCA.out (by rw [← HK.out]; exact hk2) HDA.out (by rw [← HT.out, ← HU.out]; exact hub)
                  rw [← HT.out, ← HU.out] at h; exact h)
                by_cases hx1 : x0 < a0 + 2
                · rw [show max x0 (a0 + 2) = a0 + 2 by omega] at hRv
                  go_wp2_with (go_at_call 118; refine (get_any _ _ _ bs _ _ _ hbr hm hc).mono ?_; rintro e w' ⟨he, rfl⟩; first | rw [hg1.out] at he | rw [hg2.out] at he; subst he)
                  go_roundw
                  case rel => exact ⟨u, u, a0 + 2, ls, rfl, rfl, rfl, rfl, hsz, hRv.out, by omega, hown, hbw⟩
                  case measure => simp [intOf]; omega
                · rw [show max x0 (a0 + 2) = x0 by omega] at hRv
                  go_wp2_with (go_at_call 118; refine (get_any _ _ _ bs _ _ _ hbr hm hc).mono ?_; rintro e w' ⟨he, rfl⟩; first | rw [hg1.out] at he | rw [hg2.out] at he; subst he)
                  go_roundw
                  case rel => exact ⟨u, u, x0, ls, rfl, rfl, rfl, rfl, hsz, hRv.out, by omega, hown, hbw⟩
                  case measure => simp [intOf]; omega
              · have hRv : Hid (R = ([], 0, 6)) := HRE.out.trans (getP_loop HCA.out (by rw [← HK.out]; exact hk2) HDA.out (by rw [← HT.out, ← HU.out]; exact hub))
                rw [hRv.out]
                by_cases hx1 : x0 < a0 + 2
                · go_wp2_with (go_at_call 118; refine (get_any _ _ _ bs _ _ _ hbr hm hc).mono ?_; rintro e w' ⟨he, rfl⟩; first | rw [hg1.out] at he | rw [hg2.out] at he; subst he)
                  go_ret3
                  exact ⟨_, rfl, OwnE.nil _ _ _ _, hbw⟩
                · go_wp2_with (go_at_call 118; refine (get_any _ _ _ bs _ _ _ hbr hm hc).mono ?_; rintro e w' ⟨he, rfl⟩; first | rw [hg1.out] at he | rw [hg2.out] at he; subst he)
                  go_ret3
                  exact ⟨_, rfl, OwnE.nil _ _ _ _, hbw⟩
          · by_cases hk3 : 63 < k
            · have hRv : Hid (R = ([], 0, 5)) := HRE.out.trans (getP_name HCA.out (by rw [← HK.out]; exact hk3) (by rw [← HK.out]; omega))
              rw [hRv.out]
              clear hk0
              go_wp2_with (go_at_call 118; refine (get_any _ _ _ bs _ _ _ hbr hm hc).mono ?_; rintro e w' ⟨he, rfl⟩; rw [hg1.out] at he; subst he)
              go_ret3
              exact ⟨_, rfl, OwnE.nil _ _ _ _, hbw⟩
            · by_cases hk4 : bs.length < a0 + 1 + k
              · have hRv : Hid (R = ([], 0, 3)) := HRE.out.trans (getP_cut HCA.out (by rw [← HK.out]; exact hk0) (by rw [← HK.out]; omega) (by rw [← HK.out]; exact hk4))
                rw [hRv.out]
                clear hk0
                go_wp2_with (go_at_call 118; refine (get_any _ _ _ bs _ _ _ hbr hm hc).mono ?_; rintro e w' ⟨he, rfl⟩; rw [hg1.out] at he; subst he)
                go_ret3
                exact ⟨_, rfl, OwnE.nil _ _ _ _, hbw⟩
              · by_cases hk5 : 255 < sizeN ls + 1 + k
                · have hRv : Hid (R = ([], 0, 5)) := HRE.out.trans (getP_long HCA.out (by rw [← HK.out]; exact hk0) (by rw [← HK.out]; omega) (by rw [← HK.out]; omega) (by rw [← HK.out]; exact hk5))
                  rw [hRv.out]
                  clear hk0
                  go_wp2_with (go_at_call 118; refine (get_any _ _ _ bs _ _ _ hbr hm hc).mono ?_; rintro e w' ⟨he, rfl⟩; rw [hg1.out] at he; subst he)
                  go_ret3
                  exact ⟨_, rfl, OwnE.nil _ _ _ _, hbw⟩
                · have hRv : Hid (R = getP bs (a0 + 1 + k) b0 x0 (ls ++ [(bs.drop (a0 + 1)).take k])) := HRE.out.trans (by
                    have h := getP_label (nx := x0) (ls := ls) (beg := b0) HCA.out (by rw [← HK.out]; exact hk0) (by rw [← HK.out]; omega) (by rw [← HK.out]; omega) (by rw [← HK.out]; omega)
                    rw [← HK.out] at h; exact h)
                  have hk1 : 1 ≤ k := by omega
                  clear hk0
                  obtain ⟨b, off, rfl, _⟩ := hb.flat (by omega)
                  have hcut := hbr.cut (i := a0 + 1) (k := k) (by omega)
                  obtain ⟨seg, hseg⟩ : ∃ seg, seg = (bs.drop (a0 + 1)).take k := ⟨_, rfl⟩
                  rw [← hseg] at hcut hRv
                  have hsl : seg.length = k := hcut.len
                  have hcv := conv_str (P := Try.prog) _ _ _ Try.underlying35 Try.underlying5 Try.underlying9 wr (some ⟨b, off + (a0 + 1), none⟩) k (c - (a0 + 1)) seg hcut
                  have hsn := sizeN_snoc ls seg
                  have hll := sizeN_length ls
                  have HSL := Lib.hid hsl
                  have HSN := Lib.hid hsn
                  clear hseg hsl hsn hcut
                  go_wp2_with (first
                    | (go_at_call 118; refine (get_any _ _ _ bs _ _ _ hbr hm hc).mono ?_; rintro e w' ⟨he, rfl⟩; rw [hg1.out] at he; subst he)
                    | ((with_reducible show wpList _ _ _ (⟨some 39, _, _, _, _, _⟩ :: _) _ _); refine wpL_pushS rfl (.tmp 28) (.tmp 38) rfl w.heap.size _ ls rfl hown seg ?hy rfl ?hb hbw.size ?_; rotate_right; intro v2 w2 hown2 hg2 _))
                  case hy => rw [HSL.out]; unfold maxLen; omega
                  case hb => omega
                  go_roundw
                  case rel => exact ⟨a0 + 1 + k, b0, x0, ls ++ [seg], by go_num, rfl, rfl, by rw [HSN.out, HSL.out]; go_num, by rw [HSN.out, HSL.out]; omega, hRv.out, hx0, hown2, hbw.grown hg2 hbw.size (fun j hj => (hown.lt j hj).1)⟩
                  case measure => simp [intOf]; omega
end Go.Proofs.Ytbjaphldncagjaa

/- rdata: the reader's parts, whatever the bytes: num, name, bytes. -/
namespace Go.Proofs.Ytbjaphldncagjaa
open Go.RowKit
set_option maxRecDepth 100000

def shpV (s : Shp) : Value := .agg #[.int .i64 s.bytes, .bool s.host, .bool s.mail, .bool s.short, .int .i64 s.nums, .int .i64 s.size, .bool s.texts, .bool s.first]
/-- A reader, in its block. -/
def Rdr (w : World) (p : Nat) (v : Value) (pos en : Int) : Prop := w.heap[p]? = some (.cells #[v, .int .i64 pos, .int .i64 en] 158 (0, 0))
section
variable {w w' : World} {p : Nat} {v : Value} {pos en : Int}
theorem Rdr.cells (h : Rdr w p v pos en) : w.cell? ⟨p, 0, none⟩ = some v ∧ w.cell? ⟨p, 1, none⟩ = some (.int .i64 pos) ∧ w.cell? ⟨p, 2, none⟩ = some (.int .i64 en) ∧ ∀ k, w.frozen? ⟨p, k, none⟩ = false :=
  ⟨(cell_of_row _ _ _ _ _ _ h).trans rfl, (cell_of_row _ _ _ _ _ _ h).trans rfl, (cell_of_row _ _ _ _ _ _ h).trans rfl, fun _ => frozen_of_row _ _ _ _ _ h⟩
theorem Rdr.lt (h : Rdr w p v pos en) : p < w.heap.size := (Array.getElem?_eq_some_iff.1 h).1
theorem Rdr.below (h : Rdr w p v pos en) (hb : Below w.heap.size w w') : Rdr w' p v pos en := (hb.block p h.lt).trans h
theorem Rdr.move (h : Rdr w p v pos en) (q : Int) : Rdr (w.setCell ⟨p, 1, none⟩ (.int .i64 q)) p v q en := (heap_setCell_same _ _ _ _ _ _ h).trans rfl
end
/-- The panic with an error. -/
def pnc (x : Int) : List PanicEntry := [{ v := .iface 24 (.int .i64 x), recovered := false }]
/-- A reader's call: it says what the plain law says, or gives up with its error. -/
def RdX {α : Type} (r : Except Int (α × Nat)) (good : Value → World → α → Prop) (w : World) (p : Nat) (bv : Value) (en : Nat) (e : Ending) (w' : World) : Prop :=
  match r with
  | .ok (a, q) => ∃ v, e = .returned v ∧ good v w' a ∧ Rdr w' p bv (q : Int) (en : Int) ∧ Chg (fun k => k = p) w w'
  | .error x => e = .panicked (pnc x) ∧ Chg (fun k => k = p) w w'
/-- The bytes do not lie in the reader's block. -/
def offA (A : Option Addr) (p : Nat) : Prop := ∀ b off, A = some ⟨b, off, none⟩ → b ≠ p
theorem RdB.chgP {w w' : World} {A : Option Addr} {n p : Nat} {bs : List UInt8} (h : RdB w A n bs) (hc : Chg (fun k => k = p) w w') (ho : offA A p) : RdB w' A n bs := h.chg hc fun b off e e2 => ho b off e e2

set_option maxHeartbeats 1000000 in
theorem gnum_any (w : World) (p : Nat) (A : Option Addr) (n c pos en size : Nat) (bs : List UInt8) (h : Rdr w p (.slice A n c) (pos : Int) (en : Int)) (hr : RdB w A n bs) (hpe : pos ≤ en) (hen : en ≤ n) (hn : n ≤ c) (hn2 : n ≤ 100000000) (hs1 : 1 ≤ size) (hs7 : size ≤ 7) :
    Calls Try.prog 154 #[.pointer (some ⟨p, 0, none⟩), .int .i64 (size : Int)] w (RdX (numR bs pos en size) (fun v _ a => v = .int .i64 (a : Int)) w p (.slice A n c) en) := by
  obtain ⟨c0, c1, c2, f0⟩ := h.cells
  have H := Lib.hid h
  have hl := hr.len
  have hg := numR_get (b := bs) hs1 hs7 hpe (by omega)
  have HR := Lib.hid (hr.take hen)
  clear h hr
  have hi1 : (0 : Int) ≤ en := by omega
  have hi2 : (en : Int) ≤ c := by omega
  cases hx : numR bs pos en size with
  | error x =>
    rw [hx] at hg
    obtain ⟨rfl, _⟩ := numR_err hx
    have HG := Lib.hid hg
    clear hg hx
    go_enter Try.func154, Try.ntmps154
    go_wp2
    go_region_held3 (fun w' => w'.cell? ⟨p, 0, none⟩ = some (.slice A n c) ∧ w'.cell? ⟨p, 1, none⟩ = some (.int .i64 (pos : Int)) ∧ w'.cell? ⟨p, 2, none⟩ = some (.int .i64 (en : Int)))
      (first
        | with_reducible exact ⟨c0, c1, c2⟩
        | with_reducible exact ⟨below_cell bl.drew c0, below_cell bl.drew c1, below_cell bl.drew c2⟩
        | with_reducible exact ⟨y0, y1, y2⟩
        | fail)
      (first
        | (go_at_call 118; refine (get_any A en c (bs.take en) (pos : Int) (size : Int) w.drew (HR.out.below bl.drew) (by omega) (by omega)).mono ?_; rw [HG.out]; rintro e w2 ⟨rfl, rfl⟩)
        | fail)
    go_wp2
    exact ⟨rfl, rfl, (Chg.refl (fun k => k = p) w).drew⟩
  | ok r =>
    obtain ⟨m, q⟩ := r
    rw [hx] at hg
    obtain ⟨rfl, hq⟩ := numR_le hx
    have HG := Lib.hid hg
    clear hg hx
    go_enter Try.func154, Try.ntmps154
    go_wp2
    go_region_held3 (fun w' => w'.cell? ⟨p, 0, none⟩ = some (.slice A n c) ∧ w'.cell? ⟨p, 1, none⟩ = some (.int .i64 (pos : Int)) ∧ w'.cell? ⟨p, 2, none⟩ = some (.int .i64 (en : Int)))
      (first
        | with_reducible exact ⟨c0, c1, c2⟩
        | with_reducible exact ⟨below_cell bl.drew c0, below_cell bl.drew c1, below_cell bl.drew c2⟩
        | with_reducible exact ⟨y0, y1, y2⟩
        | fail)
      (first
        | (go_at_call 118; refine (get_any A en c (bs.take en) (pos : Int) (size : Int) w.drew (HR.out.below bl.drew) (by omega) (by omega)).mono ?_; rw [HG.out]; rintro e w2 ⟨rfl, rfl⟩)
        | fail)
    go_wp2
    go_ret
    rw [show ((pos : Int) + size) = ((pos + size : Nat) : Int) by omega]
    exact ⟨_, rfl, rfl, (H.out.below bl.drew).move _, (Chg.refl (fun k => k = p) w).drew.setCell (p := ⟨p, 1, none⟩) (Or.inl rfl) _⟩
end Go.Proofs.Ytbjaphldncagjaa

/- rdata: the reader's parts, whatever the bytes: name, bytes. -/
namespace Go.Proofs.Ytbjaphldncagjaa
open Go.RowKit
set_option maxRecDepth 100000

theorem own_noP {w0 w : World} {v : Value} {ns : List (List UInt8)} {p : Nat} (h : OwnS w w0.heap.size v ns) (hp : p < w0.heap.size) : ∀ z, v.ownBlock = some z → ¬ z = p := fun z hz e => by have := (OwnE.lt h z hz).1; omega

set_option maxHeartbeats 1000000 in
theorem gname_any (w : World) (p : Nat) (A : Option Addr) (n c pos en : Nat) (bs : List UInt8) (h : Rdr w p (.slice A n c) (pos : Int) (en : Int)) (hr : RdB w A n bs) (hn : n ≤ c) (hn2 : n ≤ 100000000) :
    Calls Try.prog 150 #[.pointer (some ⟨p, 0, none⟩)] w (RdX (nameX bs pos en) (fun v w' a => OwnS w' w.heap.size v a) w p (.slice A n c) en) := by
  obtain ⟨c0, c1, c2, f0⟩ := h.cells
  have H := Lib.hid h
  have HR := Lib.hid hr
  have hpl := h.lt
  have hwg : ∀ w1 : World, RdB w1 A n bs → Calls Try.prog 117 #[.slice A n c, .int .i64 (pos : Int)] w1 (RetW (getP bs pos pos 0 []) w1) := fun w1 h1 => by
    have := wget_any A n c bs (pos : Int) w1 h1 hn (by omega)
    rwa [if_neg (by omega), Int.toNat_natCast] at this
  have HW := Lib.hid hwg
  clear h hr hwg
  unfold nameX
  have hnn := getP_nn bs pos pos 0 []
  obtain ⟨⟨ls, nx', er⟩, hg⟩ : ∃ g, g = getP bs pos pos 0 [] := ⟨_, rfl⟩
  rw [← hg] at HW hnn ⊢
  clear hg
  simp only at hnn ⊢
  by_cases he : er = 0
  · subst he
    rw [if_pos rfl]
    by_cases hlt : en < nx'.toNat
    · have h1 : (en : Int) < nx' := by omega
      rw [if_pos hlt]
      go_enter Try.func150, Try.ntmps150
      go_wp2
      go_region_held3 (fun w' => w'.cell? ⟨p, 0, none⟩ = some (.slice A n c) ∧ w'.cell? ⟨p, 1, none⟩ = some (.int .i64 (pos : Int)))
        (first
          | with_reducible exact ⟨c0, c1⟩
          | with_reducible exact ⟨below_cell bl.drew c0, below_cell bl.drew c1⟩
          | with_reducible exact ⟨y0, y1⟩
          | fail)
        (first
          | (go_at_call 117; refine (HW.out w.drew (HR.out.below bl.drew)).mono ?_; rintro e w2 ⟨v2, rfl, hown2, hb2'⟩; have hb2 : Below w.heap.size w w2 := bl.drew.trans hb2'; have y0 := below_cell hb2 c0; have y1 := below_cell hb2 c1)
          | fail)
      have z2 := below_cell hb2 c2
      go_wp2
      exact ⟨rfl, rfl, Chg.of_below hb2⟩
    · rw [if_neg hlt]
      · obtain ⟨q, rfl⟩ := Int.eq_ofNat_of_zero_le hnn
        rw [Int.toNat_natCast] at hlt ⊢
        have h1 : ¬ (en : Int) < (q : Int) := by omega
        go_enter Try.func150, Try.ntmps150
        go_wp2
        go_region_held3 (fun w' => w'.cell? ⟨p, 0, none⟩ = some (.slice A n c) ∧ w'.cell? ⟨p, 1, none⟩ = some (.int .i64 (pos : Int)))
          (first
            | with_reducible exact ⟨c0, c1⟩
            | with_reducible exact ⟨below_cell bl.drew c0, below_cell bl.drew c1⟩
            | with_reducible exact ⟨y0, y1⟩
            | fail)
          (first
            | (go_at_call 117; refine (HW.out w.drew (HR.out.below bl.drew)).mono ?_; rintro e w2 ⟨v2, rfl, hown2, hb2'⟩; have hb2 : Below w.heap.size w w2 := bl.drew.trans hb2'; have y0 := below_cell hb2 c0; have y1 := below_cell hb2 c1)
            | fail)
        have z2 := below_cell hb2 c2
        have fz := (H.out.below hb2).cells.2.2.2
        have hch : Chg (fun k => k = p) w2 (w2.setCell ⟨p, 1, none⟩ (.int .i64 (q : Int))) := chg_g1 _ _ _ _
        go_wp2
        go_ret
        exact ⟨_, rfl, OwnE.chg hown2 hch (own_noP (w0 := w) hown2 hpl) (fun _ hz => hz.elim), (H.out.below hb2).move _, (Chg.of_below (F := fun k => k = p) hb2).trans hch (fun _ h => .inl h)⟩
  · rw [if_neg he]
    go_enter Try.func150, Try.ntmps150
    go_wp2
    go_region_held3 (fun w' => w'.cell? ⟨p, 0, none⟩ = some (.slice A n c) ∧ w'.cell? ⟨p, 1, none⟩ = some (.int .i64 (pos : Int)))
      (first
        | with_reducible exact ⟨c0, c1⟩
        | with_reducible exact ⟨below_cell bl.drew c0, below_cell bl.drew c1⟩
        | with_reducible exact ⟨y0, y1⟩
        | fail)
      (first
        | (go_at_call 117; refine (HW.out w.drew (HR.out.below bl.drew)).mono ?_; rintro e w2 ⟨v2, rfl, hown2, hb2'⟩; have hb2 : Below w.heap.size w w2 := bl.drew.trans hb2'; have y0 := below_cell hb2 c0; have y1 := below_cell hb2 c1)
        | fail)
    have z2 := below_cell hb2 c2
    go_wp2
    exact ⟨rfl, rfl, Chg.of_below hb2⟩
end Go.Proofs.Ytbjaphldncagjaa

/- rdata: the reader's bytes, whatever they are. -/
namespace Go.Proofs.Ytbjaphldncagjaa
open Go.RowKit
set_option maxRecDepth 100000

theorem cutA {w : World} {A : Option Addr} {n c i k : Nat} {bs : List UInt8} (h : RdB w A n bs) (hk : i + k ≤ n) (hc : n ≤ c) : RdB w (if c = i then A else A.map (·.add i)) k ((bs.drop i).take k) := by
  by_cases h0 : k = 0
  · subst h0
    rw [List.take_zero]
    exact Rd.nil _ _ _
  · rw [if_neg (by omega)]
    have hl := h.len
    obtain ⟨b, off, rfl, hcell⟩ := h.2 (by simp; omega)
    rw [Option.map_some, add_flat]
    exact h.cut hk

set_option maxHeartbeats 1000000 in
theorem gbytes_any (w : World) (p : Nat) (A : Option Addr) (n c pos en m : Nat) (bs : List UInt8) (h : Rdr w p (.slice A n c) (pos : Int) (en : Int)) (hr : RdB w A n bs) (ho : offA A p) (hpe : pos ≤ en) (hen : en ≤ n) (hn : n ≤ c) (hc : c ≤ 9223372036854775807) (hn2 : n ≤ 100000000) (hm : m ≤ 100000000) :
    Calls Try.prog 147 #[.pointer (some ⟨p, 0, none⟩), .int .i64 (m : Int)] w (RdX (bytesR bs pos en m) (fun v w' a => OwnB w' w.heap.size v a) w p (.slice A n c) en) := by
  obtain ⟨c0, c1, c2, f0⟩ := h.cells
  have H := Lib.hid h
  have hpl := h.lt
  unfold bytesR
  by_cases hlt : en < pos + m
  · rw [if_pos hlt]
    have h1 : (en : Int) - pos < m := by omega
    go_enter Try.func147, Try.ntmps147
    go_wp2
    go_quiet (fail)
    go_wp2
    exact ⟨rfl, rfl, (Chg.refl (fun k => k = p) w).drewN nq⟩
  · rw [if_neg hlt]
    have h1 : ¬ ((en : Int) - pos < m) := by omega
    go_enter Try.func147, Try.ntmps147
    go_wp2
    go_quiet (fail)
    go_wp2
    obtain ⟨w1, hw1⟩ : ∃ w1, w1 = (w.drewN nq).setCell ⟨p, 1, none⟩ (.int .i64 ((pos + m : Nat) : Int)) := ⟨_, rfl⟩
    have H1 : Hid (Rdr w1 p (.slice A n c) ((pos + m : Nat) : Int) en) := by
      show Rdr _ _ _ _ _
      rw [hw1]
      exact (h.below (dN bl nq)).move _
    have hch : Chg (fun k => k = p) w w1 := by rw [hw1]; exact ((Chg.refl (fun k => k = p) w).drewN nq).setCell (p := ⟨p, 1, none⟩) (Or.inl rfl) _
    have hr1 := RdB.chgP hr hch ho
    rw [show ((pos : Int) + m) = ((pos + m : Nat) : Int) by omega, ← hw1]
    clear hw1
    have HC := Lib.hid (cutA (i := pos) (k := m) (c := c) hr1 (by omega) hn)
    clear hr1 c0 c1 c2 f0 h hr
    obtain ⟨c0, c1, c2, f0⟩ := H1.out.cells
    rw [show ((pos + m : Nat) : Int) = (pos : Int) + m by omega] at c1
    have hwp : IntKind.i64.wrap (pos : Int) = pos := by rw [IntKind.wrap_i64]; omega
    have hs1 : (0 : Int) ≤ pos := by omega
    have hs2 : (pos : Int) ≤ (pos : Int) + m := by omega
    have hs3 : ((pos : Int) + m) ≤ c := by omega
    obtain ⟨A2, hA2⟩ : ∃ A2 : Option Addr, A2 = if c = pos then A else A.map (·.add pos) := ⟨_, rfl⟩
    have HA2 := Lib.hid hA2
    rw [← hA2] at HC
    clear hA2
    go_region_held3 (fun w' => w'.cell? ⟨p, 0, none⟩ = some (.slice A n c) ∧ w'.cell? ⟨p, 1, none⟩ = some (.int .i64 ((pos : Int) + m)))
      (first
        | with_reducible exact ⟨c0, c1⟩
        | with_reducible exact ⟨below_cell bl.drew c0, below_cell bl.drew c1⟩
        | with_reducible exact ⟨y0, y1⟩
        | fail)
      (first
        | (go_at_call 113; rw [← HA2.out, show ((pos : Int) + m).toNat - pos = m by omega]; refine (sclone_any A2 m _ _ w1.drew (HC.out.below bl.drew) (by omega)).mono ?_; rintro e w2 ⟨v2, rfl, hown2, hb2'⟩; have hb2 : Below w1.heap.size w1 w2 := bl.drew.trans hb2'; have y0 := below_cell hb2 c0; have y1 := below_cell hb2 c1)
        | fail)
    go_wp2
    go_ret
    exact ⟨_, rfl, hown2.mono (by have := hch.size; show w.heap.size ≤ w1.heap.size; omega), H1.out.below hb2, hch.nx hb2⟩
end Go.Proofs.Ytbjaphldncagjaa

/- Slices of numbers of the call's own. -/
namespace Go.Proofs.Ytbjaphldncagjaa
open Go.RowKit

theorem elN : ElT Try.prog 44 3 encI 8 := ElT.mk Try.underlying44 (.int .i64 0) 1 (by kernel_rfl) rfl rfl
def OwnI (w : World) (base : Nat) (v : Value) (l : List Int) : Prop := OwnE encI 3 noS w base v l
theorem OwnI.nil (w : World) (base : Nat) : OwnI w base (.slice none 0 0) [] := OwnE.nil _ _ _ _
theorem orS_noS : orS noS noS = noS := by funext b; simp [orS, noS]
/-- append(s, n): one number. -/
theorem wpL_pushI {w : World} {ops : Array Oper} {rest : List Oper} {o : Oper} {a : Act} {Q : Exit → Act → World → Prop} (hgd : Region.wanted o (yielded ops a.tmps) = true) (s x : Operand)
    (ho : o.op = .call { callee := .builtin .append, args := #[s, x], argTypes := #[44, 44] })
    (base : Nat) (v : Value) (xs : List Int) (hs : a.eval s = v) (hown : OwnI w base v xs) (y : Int) (hy : -9223372036854775808 ≤ y ∧ y ≤ 9223372036854775807)
    {g : Nat} (hx : a.eval x = .slice (some ⟨g, 0, none⟩) 1 1) (hb : xs.length + 1 ≤ 8796093022208) (hbase : base ≤ w.heap.size)
    (h : ∀ v' w', OwnI w' base v' (xs ++ [y]) → w.grownBy w' v.ownBlock → (v'.ownBlock = v.ownBlock ∨ v'.ownBlock = some (w.heap.size + 1)) → wpList Try.prog ops Q rest (a.put o.dst v') w') (hgs : g = w.heap.size := by simp) :
    wpList Try.prog ops Q (o :: rest) a (w.alloc (.cells #[.int .i64 y] 3)) := by
  refine wpL_pushE (S' := noS) elN hgd s x ho base v xs hs hown [.int .i64 y] y ⟨rfl, hy⟩ (fun b hb => hb.elim) hx (by omega) (by unfold maxLen; omega) hbase (fun v' w' h1 h2 h3 => h v' w' ?_ h2 h3) hgs
  rw [orS_noS] at h1
  exact h1
end Go.Proofs.Ytbjaphldncagjaa

/- rdata: the reader's numbers. -/
namespace Go.Proofs.Ytbjaphldncagjaa
open Go.RowKit
set_option maxRecDepth 100000

def lenOf : Value → Nat
  | .slice _ n _ => n
  | _ => 0
theorem val_i64 {l : List UInt8} (h : l.length ≤ 7) : -9223372036854775808 ≤ (val l : Int) ∧ (val l : Int) ≤ 9223372036854775807 := by
  have := val_lt l
  have h2 : 256 ^ l.length ≤ 256 ^ 7 := Nat.pow_le_pow_right (by decide) h
  have h3 : (256 : Nat) ^ 7 = 72057594037927936 := by decide
  omega
theorem numR_i64 {b : List UInt8} {pos en size n q : Nat} (h7 : size ≤ 7) (h : numR b pos en size = .ok (n, q)) : -9223372036854775808 ≤ (n : Int) ∧ (n : Int) ≤ 9223372036854775807 := by
  unfold numR at h
  split at h
  · cases h
  · injection h with h
    injection h with h1 h2
    rw [← h1]
    exact val_i64 (by rw [List.length_take]; omega)

set_option maxHeartbeats 2000000 in
theorem gnums_any (w : World) (p : Nat) (A : Option Addr) (n c pos en k z : Nat) (bs : List UInt8) (s : Shp) (hk : s.nums = (k : Int)) (hz : s.size = (z : Int)) (h : Rdr w p (.slice A n c) (pos : Int) (en : Int)) (hr : RdB w A n bs) (ho : offA A p) (hpe : pos ≤ en) (hen : en ≤ n) (hn : n ≤ c) (hn2 : n ≤ 100000000) (hkk : k ≤ 5) (hz1 : 0 < k → 1 ≤ z) (hz7 : z ≤ 7) :
    Calls Try.prog 149 #[.pointer (some ⟨p, 0, none⟩), shpV s] w (RdX (numsR bs en z k pos []) (fun v w' a => OwnI w' w.heap.size v a) w p (.slice A n c) en) := by
  have hpl := h.lt
  unfold shpV
  rw [hk, hz]
  obtain ⟨w0, hw0⟩ : ∃ w0, w0 = w.alloc (.cells #[.int .i64 s.bytes, .bool s.host, .bool s.mail, .bool s.short, .int .i64 (k : Int), .int .i64 (z : Int), .bool s.texts, .bool s.first] 146) := ⟨_, rfl⟩
  have hb0 : Below w.heap.size w w0 := by rw [hw0]; exact bl.alloc (Nat.le_refl _) _
  have hs0 : Hid (w0.heap[w.heap.size]? = some (.cells #[.int .i64 s.bytes, .bool s.host, .bool s.mail, .bool s.short, .int .i64 (k : Int), .int .i64 (z : Int), .bool s.texts, .bool s.first] 146 (0, 0))) := by show _ = _; rw [hw0]; exact heap_alloc_new w _
  have H := Lib.hid (h.below hb0)
  have HR := Lib.hid (hr.below hb0)
  have x4 : w0.cell? ⟨w.heap.size, 4, none⟩ = some (.int .i64 (k : Int)) := (cell_of_row _ _ _ _ _ _ hs0.out).trans rfl
  have hsz : Hid (w0.heap.size = w.heap.size + 1) := by show _ = _; rw [hw0]; simp
  clear h hr
  go_enter Try.func149, Try.ntmps149
  go_upto_region 1 with (fail)
  rw [← hw0]
  clear hw0
  go_wp2
  go_loopw [5, 8] (fun ov iv wr => ∃ (j q : Nat) (acc : List Int) (A' : Option Addr) (c' : Nat), ov = .slice A' acc.length c' ∧ iv = .int .i64 (j : Int) ∧ j ≤ k ∧ acc.length = j ∧ Hid (OwnI wr w0.heap.size (.slice A' acc.length c') acc) ∧ Hid (Rdr wr p (.slice A n c) (q : Int) (en : Int)) ∧ q ≤ en ∧ Hid (Chg (fun x => x = p) w0 wr) ∧ Hid (numsR bs en z k pos [] = numsR bs en z (k - j) q acc)) (fun _ iv _ => k - (intOf iv).toNat)
  case atStart => exact ⟨0, pos, [], none, 0, rfl, rfl, Nat.zero_le _, rfl, OwnI.nil _ _, H, hpe, Chg.refl _ _, rfl⟩
  case round =>
    clear H x4
    obtain ⟨j, q, acc, A', c', rfl, rfl, hj, hal, HO, HP, hq, HC, HE⟩ := hrel
    have hs1 := HC.out.heap hs0.out (by omega)
    have x4 : wr.cell? ⟨w.heap.size, 4, none⟩ = some (.int .i64 (k : Int)) := (cell_of_row _ _ _ _ _ _ hs1).trans rfl
    have x5 : wr.cell? ⟨w.heap.size, 5, none⟩ = some (.int .i64 (z : Int)) := (cell_of_row _ _ _ _ _ _ hs1).trans rfl
    by_cases hlt : j < k
    · have HR1 := Lib.hid (RdB.chgP HR.out HC.out ho)
      have hkj : k - j = (k - (j + 1)) + 1 := by omega
      have he := HE.out
      rw [hkj, numsR] at he
      cases hx : numR bs q en z with
      | error x =>
        rw [hx] at he
        simp only at he
        have HEE := Lib.hid he
        have HX := Lib.hid hx
        clear hx he hs1
        go_wp2_with (first
          | (go_at_call 154; refine (gnum_any wr p A n c q en z bs HP.out HR1.out hq hen hn hn2 (hz1 (by omega)) hz7).mono ?_; rw [HX.out]; rintro e w2 ⟨rfl, hc2⟩)
          | fail)
        refine ⟨rfl, ?_⟩
        rw [HEE.out]
        exact ⟨rfl, (Chg.of_below (F := fun x => x = p) hb0).trans (HC.out.trans hc2 (fun _ h => .inl h)) (fun _ h => .inl h)⟩
      | ok r =>
        obtain ⟨m, q2⟩ := r
        rw [hx] at he
        simp only at he
        have hm := numR_i64 hz7 hx
        have hq2 := (numR_le hx).2
        have HX := Lib.hid hx
        have HE2 := Lib.hid he
        have hno : ∀ x, (Value.slice A' acc.length c').ownBlock = some x → ¬ x = p := fun x hx e => by have := (OwnE.lt HO.out x hx).1; have := hsz.out; omega
        clear hx he hs1
        have hal5 : acc.length + 1 ≤ 8796093022208 := by omega
        have HAL := Lib.hid hal
        clear hal
        go_wp2_with (first
          | ((with_reducible show wpList _ _ _ (⟨some 16, _, _, _, _, _⟩ :: _) _ _); refine wpL_pushI rfl (.tmp 10) (.tmp 15) rfl w0.heap.size (.slice A' acc.length c') acc rfl HO2.out _ hm rfl hal5 HSZ.out ?_; intro v5 w5 hown5 hg5 hv5; obtain ⟨A5, c5, rfl, _⟩ := OwnE.form hown5)
          | (go_at_call 154; refine (gnum_any wr p A n c q en z bs HP.out HR1.out hq hen hn hn2 (hz1 (by omega)) hz7).mono ?_; rw [HX.out]; rintro e w2 ⟨v2, rfl, rfl, hp2, hc2⟩; have HP2 := Lib.hid hp2; have HC2 := Lib.hid hc2; have HO2 := Lib.hid (OwnE.chg HO.out hc2 hno (fun _ hz => hz.elim)); have HSZ := Lib.hid (show w0.heap.size ≤ w2.heap.size from Nat.le_trans HC.out.size hc2.size); clear hp2 hc2)
          | fail)
        have hge : ∀ x, (Value.slice A' acc.length c').ownBlock = some x → w0.heap.size ≤ x := fun x hx => (OwnE.lt HO.out x hx).1
        have hp5 : Rdr w5 p (.slice A n c) (q2 : Int) en := (hg5.block p HP2.out.lt (fun e => by have := hge p e.symm; have := hsz.out; omega)).trans HP2.out
        have hc5 : Chg (fun x => x = p) w0 w5 := (HC.out.trans HC2.out (fun _ h => .inl h)).grown hg5 (fun x hx => .inr (hge x hx))
        have hl5 : (acc ++ [(m : Int)]).length = j + 1 := by rw [List.length_append, HAL.out]; rfl
        go_roundw
        case rel => exact ⟨j + 1, q2, acc ++ [(m : Int)], A5, c5, by rw [List.length_append]; rfl, by go_num, by omega, hl5, hown5, hp5, hq2, hc5, HE2.out⟩
        case measure => simp [intOf]; omega
    · obtain rfl : j = k := by omega
      have he := HE.out
      rw [Nat.sub_self, numsR] at he
      have HEE := Lib.hid he
      clear he
      go_wp2
      go_ret
      rw [HEE.out]
      exact ⟨_, rfl, OwnE.base_le HO.out (by have := hsz.out; omega), HP.out, (Chg.of_below (F := fun x => x = p) hb0).trans HC.out (fun _ h => .inl h)⟩
end Go.Proofs.Ytbjaphldncagjaa

/- rdata: the reader's texts. -/
namespace Go.Proofs.Ytbjaphldncagjaa
open Go.RowKit
set_option maxRecDepth 100000

theorem numR_byte {b : List UInt8} {pos en n q : Nat} (h : numR b pos en 1 = .ok (n, q)) : n ≤ 1000000 := by
  unfold numR at h
  split at h
  · cases h
  · injection h with h
    injection h with h1 h2
    have h3 := val_lt ((b.drop pos).take 1)
    have h4 : ((b.drop pos).take 1).length ≤ 1 := by rw [List.length_take]; omega
    have h5 : 256 ^ ((b.drop pos).take 1).length ≤ 256 ^ 1 := Nat.pow_le_pow_right (by decide) h4
    have h6 : (256 : Nat) ^ 1 = 256 := by decide
    omega
theorem bytesR_len {b l : List UInt8} {pos en n q : Nat} (h : bytesR b pos en n = .ok (l, q)) : l.length ≤ n := by
  unfold bytesR at h
  split at h
  · cases h
  · injection h with h
    injection h with h1 h2
    rw [← h1, List.length_take]
    omega

theorem textsR_full {b : List UInt8} {en q : Nat} {acc : List (List UInt8)} (h : q < en) : textsR b en 0 q acc = .error 4 := by rw [textsR, if_pos h]
theorem textsR_more {b : List UInt8} {en k q : Nat} {acc : List (List UInt8)} (h : q < en) : textsR b en (k + 1) q acc = (match numR b q en 1 with
      | .error e => .error e
      | .ok (n, r) => match bytesR b r en n with
        | .error e => .error e
        | .ok (t, r2) => textsR b en k r2 (acc ++ [t])) := by rw [textsR, if_pos h]; rfl

set_option maxHeartbeats 2000000 in
theorem gtexts_any (w : World) (p : Nat) (A : Option Addr) (n c pos en : Nat) (bs : List UInt8) (h : Rdr w p (.slice A n c) (pos : Int) (en : Int)) (hr : RdB w A n bs) (ho : offA A p) (hpe : pos ≤ en) (hen : en ≤ n) (hn : n ≤ c) (hc : c ≤ 9223372036854775807) (hn2 : n ≤ 100000000) :
    Calls Try.prog 148 #[.pointer (some ⟨p, 0, none⟩)] w (RdX (textsR bs en 64 pos []) (fun v w' a => OwnS w' w.heap.size v a) w p (.slice A n c) en) := by
  have hpl := h.lt
  have H := Lib.hid h
  have HR := Lib.hid hr
  clear h hr
  go_enter Try.func148, Try.ntmps148
  go_wp2
  go_loopw [3] (fun ov wr => ∃ (a k q : Nat) (acc : List (List UInt8)) (A' : Option Addr) (c' : Nat), ov = .slice A' a c' ∧ a + k = 64 ∧ Hid (acc.length = a) ∧ Hid (OwnS wr w.heap.size (.slice A' a c') acc) ∧ Hid (Rdr wr p (.slice A n c) (q : Int) (en : Int)) ∧ q ≤ en ∧ Hid (Chg (fun x => x = p) w wr) ∧ Hid (textsR bs en 64 pos [] = textsR bs en k q acc)) (fun ov _ => 64 - lenOf ov)
  case atStart => exact ⟨0, 64, pos, [], none, 0, rfl, rfl, rfl, OwnS.nil _ _, H, hpe, Chg.refl _ _, rfl⟩
  case round =>
    clear H
    obtain ⟨a, k, q, acc, A', c', rfl, hak, HAL, HO, HP, hq, HC, HE⟩ := hrel
    obtain ⟨c0, c1, c2, f0⟩ := HP.out.cells
    by_cases hlt : q < en
    · rcases k with _ | k
      · have he := HE.out
        rw [textsR, if_pos hlt] at he
        have HEE := Lib.hid he
        clear he
        have ha : a = 64 := by omega
        subst ha
        go_wp2
        go_quiet (fail)
        go_wp2
        refine ⟨rfl, ?_⟩
        rw [HEE.out]
        exact ⟨rfl, HC.out.drewN nq⟩
      · have ha64 : ¬ a = 64 := by omega
        have he := HE.out.trans (textsR_more hlt)
        have HR1 := Lib.hid (RdB.chgP HR.out HC.out ho)
        cases hx : numR bs q en 1 with
        | error x =>
          rw [hx] at he
          simp only at he
          have HEE := Lib.hid he
          have HX := Lib.hid hx
          clear hx he
          go_wp2
          go_quiet (fail)
          go_wp2_with (first
            | (go_at_call 154; refine (gnum_any (wr.drewN nq) p A n c q en 1 bs (HP.out.below (dN bl nq)) (HR1.out.below (dN bl nq)) hq hen hn hn2 (by omega) (by omega)).mono ?_; rw [HX.out]; rintro e w2 ⟨rfl, hc2⟩)
            | fail)
          refine ⟨rfl, ?_⟩
          rw [HEE.out]
          exact ⟨rfl, (HC.out.drewN nq).trans hc2 (fun _ h => .inl h)⟩
        | ok r =>
          obtain ⟨m, q2⟩ := r
          rw [hx] at he
          simp only at he
          have hm := numR_byte hx
          have hq2 := (numR_le hx).2
          have HX := Lib.hid hx
          have hno : ∀ {wz : World} {v : Value} {ns : List (List UInt8)}, OwnS wz w.heap.size v ns → ∀ z, v.ownBlock = some z → ¬ z = p := fun h z hz e => by have := (OwnE.lt h z hz).1; omega
          clear hx
          cases hy : bytesR bs q2 en m with
          | error x =>
            rw [hy] at he
            simp only at he
            have HEE := Lib.hid he
            have HY := Lib.hid hy
            clear hy he
            go_wp2
            go_quiet (fail)
            go_wp2_with (first
              | (go_at_call 147; refine (gbytes_any w2 p A n c q2 en m bs HP2.out (RdB.chgP HR1.out HC2.out ho) ho hq2 hen hn hc hn2 (by omega)).mono ?_; rw [HY.out]; rintro e w3 ⟨rfl, hc3⟩)
              | (go_at_call 154; refine (gnum_any (wr.drewN nq) p A n c q en 1 bs (HP.out.below (dN bl nq)) (HR1.out.below (dN bl nq)) hq hen hn hn2 (by omega) (by omega)).mono ?_; rw [HX.out]; rintro e w2 ⟨v2, rfl, rfl, hp2, hc2⟩; have HP2 := Lib.hid hp2; have HC2 := Lib.hid (((Chg.refl (fun z => z = p) wr).drewN nq).trans hc2 (fun _ h => .inl h)); clear hp2 hc2)
              | fail)
            refine ⟨rfl, ?_⟩
            rw [HEE.out]
            exact ⟨rfl, (HC.out.trans HC2.out (fun _ h => .inl h)).trans hc3 (fun _ h => .inl h)⟩
          | ok r2 =>
            obtain ⟨t, q3⟩ := r2
            rw [hy] at he
            simp only at he
            have htl := bytesR_len hy
            have hq3 := (bytesR_le hy).2
            have HY := Lib.hid hy
            have HE2 := Lib.hid he
            clear hy he
            go_wp2
            go_quiet (fail)
            go_wp2_with (first
              | ((with_reducible show wpList _ _ _ (⟨some 24, _, _, _, _, _⟩ :: _) _ _); refine wpL_pushS rfl (.tmp 17) (.tmp 23) rfl w.heap.size (.slice A' a c') acc rfl HO3.out t (by unfold maxLen; omega) rfl (by rw [HAL.out]; omega) HSZ.out ?_; intro v5 w5 hown5 hg5 hv5; obtain ⟨A5, c5, rfl, _⟩ := OwnE.form hown5)
              | (go_at_call 147; refine (gbytes_any w2 p A n c q2 en m bs HP2.out (RdB.chgP HR1.out HC2.out ho) ho hq2 hen hn hc hn2 (by omega)).mono ?_; rw [HY.out]; rintro e w3 ⟨v3, rfl, hown3, hp3, hc3⟩; have HP3 := Lib.hid hp3; have HC3 := Lib.hid hc3; have HO3 := Lib.hid (OwnE.chg HO2.out hc3 (hno HO2.out) (fun _ hz => hz.elim)); have HSZ := Lib.hid (show w.heap.size ≤ w3.heap.size from Nat.le_trans (Nat.le_trans HC.out.size HC2.out.size) hc3.size); obtain ⟨A3, c3, rfl, hr3, _⟩ := hown3.form; have hcv := conv_str (P := Try.prog) _ _ _ Try.underlying35 Try.underlying5 Try.underlying9 w3 A3 t.length c3 t hr3; clear hc3 hp3 hown3 hr3)
              | (go_at_call 154; refine (gnum_any (wr.drewN nq) p A n c q en 1 bs (HP.out.below (dN bl nq)) (HR1.out.below (dN bl nq)) hq hen hn hn2 (by omega) (by omega)).mono ?_; rw [HX.out]; rintro e w2 ⟨v2, rfl, rfl, hp2, hc2⟩; have HP2 := Lib.hid hp2; have HC2 := Lib.hid (((Chg.refl (fun z => z = p) wr).drewN nq).trans hc2 (fun _ h => .inl h)); have HO2 := Lib.hid (OwnE.chg HO.out HC2.out (hno HO.out) (fun _ hz => hz.elim)); clear hp2 hc2)
              | fail)
            have hge : ∀ z, (Value.slice A' a c').ownBlock = some z → w.heap.size ≤ z := fun z hz => (OwnE.lt HO.out z hz).1
            have hp5 : Rdr w5 p (.slice A n c) (q3 : Int) en := (hg5.block p HP3.out.lt (fun e => by have := hge p e.symm; omega)).trans HP3.out
            have hc5 : Chg (fun z => z = p) w w5 := ((HC.out.trans HC2.out (fun _ h => .inl h)).trans HC3.out (fun _ h => .inl h)).grown hg5 (fun z hz => .inr (hge z hz))
            have hl5 : (acc ++ [t]).length = a + 1 := by rw [List.length_append, HAL.out]; rfl
            rw [hl5] at hown5
            rw [HAL.out]
            go_roundw
            case rel => exact ⟨a + 1, k, q3, acc ++ [t], A5, c5, rfl, by omega, hl5, hown5, hp5, hq3, hc5, HE2.out⟩
            case measure => simp [lenOf]; omega
    · by_cases h0 : a = 0
      · have he : textsR bs en 64 pos [] = .error 2 := by
          rw [HE.out]
          cases k <;> rw [textsR, if_neg hlt, if_pos (by rw [HAL.out]; exact h0)]
        have HEE := Lib.hid he
        clear he
        subst h0
        go_wp2
        go_quiet (fail)
        go_wp2
        refine ⟨rfl, ?_⟩
        rw [HEE.out]
        exact ⟨rfl, HC.out.drewN nq⟩
      · have he : textsR bs en 64 pos [] = .ok (acc, q) := by
          rw [HE.out]
          cases k <;> rw [textsR, if_neg hlt, if_neg (by rw [HAL.out]; exact h0)]
        have HEE := Lib.hid he
        clear he
        go_wp2
        go_quiet (fail)
        go_wp2
        go_ret
        rw [HEE.out]
        exact ⟨_, rfl, HO.out, HP.out.below (dN bl nq), HC.out.drewN nq⟩
end Go.Proofs.Ytbjaphldncagjaa

/- rdata: the reader's data: where its walk stands. -/
namespace Go.Proofs.Ytbjaphldncagjaa
open Go.RowKit
set_option maxRecDepth 100000

theorem ownB_chg {w w' : World} {base : Nat} {v : Value} {F : Nat → Prop} {bs : List UInt8} (h : OwnB w base v bs) (hc : Chg F w w') (hv : ∀ k, base ≤ k → k < w.heap.size → ¬ F k) : OwnB w' base v bs := by
  have hl := fun k hk => World.ownsRow.lt h k hk
  refine ⟨h.1, ?_⟩
  rcases h.2 with h0 | ⟨g, cap, cur, rfl, h1, h2, h3⟩
  · exact .inl h0
  · exact .inr ⟨g, cap, cur, rfl, h1, (hc.heap h2 (hv g (hl g rfl).1 (hl g rfl).2)), h3⟩
theorem ownE_chg {α : Type} {E : Enc α} {e : TypeId} {w w' : World} {base : Nat} {v : Value} {F : Nat → Prop} {xs : List α} (h : OwnE E e noS w base v xs) (hc : Chg F w w') (hv : ∀ k, base ≤ k → k < w.heap.size → ¬ F k) : OwnE E e noS w' base v xs :=
  OwnE.chg h hc (fun k hk => hv k (OwnE.lt h k hk).1 (OwnE.lt h k hk).2) (fun _ hz => hz.elim)

/-- Data whose slices are rows of the call's own. -/
structure DGot (w : World) (B : Nat) (s : DS) (x : Da) : Prop where
  b : OwnB w B (.slice s.A0 x.bytes.length s.c0) x.bytes
  h : OwnS w B (.slice s.A1 x.host.length s.c1) x.host
  m : OwnS w B (.slice s.A2 x.mail.length s.c2) x.mail
  n : OwnI w B (.slice s.A3 x.nums.length s.c3) x.nums
  t : OwnS w B (.slice s.A4 x.texts.length s.c4) x.texts
def DS.nil : DS := ⟨none, none, none, none, none, 0, 0, 0, 0, 0⟩
theorem DGot.nil (w : World) (B : Nat) : DGot w B DS.nil Da.zero := ⟨OwnB.nil _ _, OwnS.nil _ _, OwnS.nil _ _, OwnI.nil _ _, OwnS.nil _ _⟩
theorem DGot.chg {w w' : World} {B : Nat} {s : DS} {x : Da} {F : Nat → Prop} (h : DGot w B s x) (hc : Chg F w w') (hv : ∀ k, B ≤ k → k < w.heap.size → ¬ F k) : DGot w' B s x :=
  ⟨ownB_chg h.b hc hv, ownE_chg h.h hc hv, ownE_chg h.m hc hv, ownE_chg h.n hc hv, ownE_chg h.t hc hv⟩
theorem DGot.below {w w' : World} {B : Nat} {s : DS} {x : Da} (h : DGot w B s x) (hb : Below w.heap.size w w') : DGot w' B s x := h.chg (Chg.of_below (F := fun _ => False) hb) (fun _ _ _ h => h)
theorem DGot.base_le {w : World} {B B' : Nat} {s : DS} {x : Da} (h : DGot w B s x) (hb : B' ≤ B) : DGot w B' s x :=
  ⟨h.b.mono hb, OwnE.base_le h.h hb, OwnE.base_le h.m hb, OwnE.base_le h.n hb, OwnE.base_le h.t hb⟩
theorem OwnE.slc {α : Type} {E : Enc α} {e : TypeId} {S : Nat → Prop} {w : World} {base : Nat} {A : Option Addr} {n c : Nat} {xs : List α} (h : OwnE E e S w base (.slice A n c) xs) : RdE E w A n xs ∧ n = xs.length ∧ n ≤ c ∧ c ≤ maxLen := by
  obtain ⟨A', c', hv, hr, h1, h2⟩ := h.rdE
  injection hv with e1 e2 e3
  subst e1 e2 e3
  exact ⟨hr, rfl, h1, h2⟩
theorem DGot.rd {w : World} {B : Nat} {s : DS} {x : Da} (h : DGot w B s x) : DRd w s x := by
  obtain ⟨hb, _⟩ := h.b.rd
  obtain ⟨A0, c0, e0, _, hb1, hb2⟩ := h.b.form
  injection e0 with e1 e2 e3
  subst e1 e3
  obtain ⟨h1, _, h2⟩ := OwnE.slc h.h
  obtain ⟨m1, _, m2⟩ := OwnE.slc h.m
  obtain ⟨n1, _, n2⟩ := OwnE.slc h.n
  obtain ⟨t1, _, t2⟩ := OwnE.slc h.t
  exact ⟨hb, h1, m1, n1, t1, ⟨hb1, hb2⟩, h2, m2, n2, t2⟩

def dCells (s : DS) (d : Da) : Array Value := #[.slice s.A0 d.bytes.length s.c0, .slice s.A1 d.host.length s.c1, .slice s.A2 d.mail.length s.c2, .slice s.A3 d.nums.length s.c3, .slice s.A4 d.texts.length s.c4]
def shCells (s : Shp) : Array Value := #[.int .i64 s.bytes, .bool s.host, .bool s.mail, .bool s.short, .int .i64 s.nums, .int .i64 s.size, .bool s.texts, .bool s.first]
structure RdSt (w wr : World) (p : Nat) (bv : Value) (q en : Nat) (sh : Shp) (s : DS) (d : Da) : Prop where
  P : Rdr wr p bv (q : Int) (en : Int)
  S : wr.heap[w.heap.size]? = some (.cells (shCells sh) 146 (0, 0))
  D : wr.heap[w.heap.size + 1]? = some (.cells (dCells s d) 46 (0, 0))
  G : DGot wr (w.heap.size + 2) s d
  C : Chg (fun k => k = p) w wr
  lt : p < w.heap.size
section
variable {w wr w' : World} {p q q' en : Nat} {bv : Value} {sh : Shp} {s : DS} {d : Da}
theorem RdSt.start (h : Rdr w p bv (q : Int) (en : Int)) (sh : Shp) : RdSt w ((w.alloc (.cells (shCells sh) 146)).alloc (.cells (dCells DS.nil Da.zero) 46)) p bv q en sh DS.nil Da.zero := by
  have hb : Below w.heap.size w ((w.alloc (.cells (shCells sh) 146)).alloc (.cells (dCells DS.nil Da.zero) 46)) := nx (bl.alloc (Nat.le_refl _) _) (bl.alloc (Nat.le_refl _) _)
  have hsz : (w.alloc (.cells (shCells sh) 146)).heap.size = w.heap.size + 1 := by simp
  refine ⟨h.below hb, (heap_alloc_old _ _ (by rw [hsz]; omega)).trans (heap_alloc_new w _), ?_, DGot.nil _ _, Chg.of_below hb, h.lt⟩
  rw [← hsz]
  exact heap_alloc_new _ _
theorem RdSt.size (h : RdSt w wr p bv q en sh s d) : w.heap.size + 2 ≤ wr.heap.size := (Array.getElem?_eq_some_iff.1 h.D).1
theorem RdSt.call (h : RdSt w wr p bv q en sh s d) (hp : Rdr w' p bv (q' : Int) (en : Int)) (hc : Chg (fun k => k = p) wr w') : RdSt w w' p bv q' en sh s d := by
  have hl := h.lt
  exact ⟨hp, hc.heap h.S (by omega), hc.heap h.D (by omega), h.G.chg hc (fun k h1 _ => by omega), h.C.trans hc (fun _ h => .inl h), h.lt⟩
theorem RdSt.below (h : RdSt w wr p bv q en sh s d) (hb : Below wr.heap.size wr w') : RdSt w w' p bv q en sh s d := h.call (h.P.below hb) (Chg.of_below hb)
theorem RdSt.shc (h : RdSt w wr p bv q en sh s d) (j : Nat) : wr.cell? ⟨w.heap.size, j, none⟩ = (shCells sh)[j]? := cell_of_row _ _ _ _ _ _ h.S
theorem RdSt.dc (h : RdSt w wr p bv q en sh s d) (j : Nat) : wr.cell? ⟨w.heap.size + 1, j, none⟩ = (dCells s d)[j]? := cell_of_row _ _ _ _ _ _ h.D
theorem RdSt.df (h : RdSt w wr p bv q en sh s d) (j : Nat) : wr.frozen? ⟨w.heap.size + 1, j, none⟩ = false := frozen_of_row _ _ _ _ _ h.D
theorem RdSt.put (h : RdSt w wr p bv q en sh s d) (j : Nat) (v : Value) (s' : DS) (d' : Da) (hd : (dCells s d).setIfInBounds j v = dCells s' d') (hg : DGot wr (w.heap.size + 2) s' d') : RdSt w (wr.setCell ⟨w.heap.size + 1, j, none⟩ v) p bv q en sh s' d' := by
  have hl := h.lt
  have hc : Chg (fun k => k = w.heap.size + 1) wr (wr.setCell ⟨w.heap.size + 1, j, none⟩ v) := chg_g1 _ _ _ _
  refine ⟨hc.heap h.P (by omega), hc.heap h.S (by omega), ?_, hg.chg hc (fun k h1 _ => by omega), h.C.trans hc (fun k hk => .inr (by omega)), h.lt⟩
  rw [← hd]
  exact heap_setCell_same _ _ _ _ _ _ h.D
theorem RdSt.setB (h : RdSt w wr p bv q en sh s d) {A : Option Addr} {c : Nat} {x : List UInt8} (ho : OwnB wr (w.heap.size + 2) (.slice A x.length c) x) : RdSt w (wr.setCell ⟨w.heap.size + 1, 0, none⟩ (.slice A x.length c)) p bv q en sh { s with A0 := A, c0 := c } { d with bytes := x } :=
  h.put 0 _ _ _ rfl ⟨ho, h.G.h, h.G.m, h.G.n, h.G.t⟩
theorem RdSt.setH (h : RdSt w wr p bv q en sh s d) {A : Option Addr} {c : Nat} {x : List (List UInt8)} (ho : OwnS wr (w.heap.size + 2) (.slice A x.length c) x) : RdSt w (wr.setCell ⟨w.heap.size + 1, 1, none⟩ (.slice A x.length c)) p bv q en sh { s with A1 := A, c1 := c } { d with host := x } :=
  h.put 1 _ _ _ rfl ⟨h.G.b, ho, h.G.m, h.G.n, h.G.t⟩
theorem RdSt.setM (h : RdSt w wr p bv q en sh s d) {A : Option Addr} {c : Nat} {x : List (List UInt8)} (ho : OwnS wr (w.heap.size + 2) (.slice A x.length c) x) : RdSt w (wr.setCell ⟨w.heap.size + 1, 2, none⟩ (.slice A x.length c)) p bv q en sh { s with A2 := A, c2 := c } { d with mail := x } :=
  h.put 2 _ _ _ rfl ⟨h.G.b, h.G.h, ho, h.G.n, h.G.t⟩
theorem RdSt.setN (h : RdSt w wr p bv q en sh s d) {A : Option Addr} {c : Nat} {x : List Int} (ho : OwnI wr (w.heap.size + 2) (.slice A x.length c) x) : RdSt w (wr.setCell ⟨w.heap.size + 1, 3, none⟩ (.slice A x.length c)) p bv q en sh { s with A3 := A, c3 := c } { d with nums := x } :=
  h.put 3 _ _ _ rfl ⟨h.G.b, h.G.h, h.G.m, ho, h.G.t⟩
theorem RdSt.setT (h : RdSt w wr p bv q en sh s d) {A : Option Addr} {c : Nat} {x : List (List UInt8)} (ho : OwnS wr (w.heap.size + 2) (.slice A x.length c) x) : RdSt w (wr.setCell ⟨w.heap.size + 1, 4, none⟩ (.slice A x.length c)) p bv q en sh { s with A4 := A, c4 := c } { d with texts := x } :=
  h.put 4 _ _ _ rfl ⟨h.G.b, h.G.h, h.G.m, h.G.n, ho⟩
/-- The end's store of what is there already. -/
theorem RdSt.same (h : RdSt w wr p bv q en sh s d) : RdSt w (((((wr.setCell ⟨w.heap.size + 1, 0, none⟩ (.slice s.A0 d.bytes.length s.c0)).setCell ⟨w.heap.size + 1, 1, none⟩ (.slice s.A1 d.host.length s.c1)).setCell ⟨w.heap.size + 1, 2, none⟩ (.slice s.A2 d.mail.length s.c2)).setCell ⟨w.heap.size + 1, 3, none⟩ (.slice s.A3 d.nums.length s.c3)).setCell ⟨w.heap.size + 1, 4, none⟩ (.slice s.A4 d.texts.length s.c4)) p bv q en sh s d := by
  have k : ∀ {u : World} (j : Nat) (v : Value), (dCells s d).setIfInBounds j v = dCells s d → RdSt w u p bv q en sh s d → RdSt w (u.setCell ⟨w.heap.size + 1, j, none⟩ v) p bv q en sh s d := fun j v e h => h.put j v _ _ e h.G
  exact k 4 _ rfl (k 3 _ rfl (k 2 _ rfl (k 1 _ rfl (k 0 _ rfl h))))
end
/-- What the reader's data says. -/
def dataE (b : List UInt8) (pos en : Nat) (s : Shp) : Except Int (Da × Nat) :=
  match dataR b pos en s with
  | .error e => .error e
  | .ok (d, q) => if q < en then .error 7 else .ok (d, q)
def goodD (B : Nat) (v : Value) (w' : World) (x : Da) : Prop := ∃ s, v = dsV s x ∧ DGot w' B s x
end Go.Proofs.Ytbjaphldncagjaa

/- rr: how records lie in memory. -/
namespace Go.Proofs.Ytbjaphldncagjaa
open Go.RowKit
set_option maxRecDepth 100000

/-- Where a record's slices lead. -/
structure RS where
  A : Option Addr
  c : Nat
  d : DS
def RS.nil : RS := ⟨none, 0, DS.nil⟩
def rrCells (s : RS) (x : RR) : Array Value := #[.slice s.A x.name.length s.c, .int .i64 x.type, .int .i64 x.cls, .int .i64 x.ttl, .slice s.d.A0 x.data.bytes.length s.d.c0, .slice s.d.A1 x.data.host.length s.d.c1, .slice s.d.A2 x.data.mail.length s.d.c2, .slice s.d.A3 x.data.nums.length s.d.c3, .slice s.d.A4 x.data.texts.length s.d.c4]
def rrV (s : RS) (x : RR) : Value := .agg (rrCells s x)
/-- A record whose slices are rows of the call's own. -/
structure RGot (w : World) (B : Nat) (s : RS) (x : RR) : Prop where
  n : OwnS w B (.slice s.A x.name.length s.c) x.name
  d : DGot w B s.d x.data
theorem RGot.nil (w : World) (B : Nat) : RGot w B RS.nil RR.zero := ⟨OwnS.nil _ _, DGot.nil _ _⟩
theorem RGot.chg {w w' : World} {B : Nat} {s : RS} {x : RR} {F : Nat → Prop} (h : RGot w B s x) (hc : Chg F w w') (hv : ∀ k, B ≤ k → k < w.heap.size → ¬ F k) : RGot w' B s x := ⟨ownE_chg h.n hc hv, h.d.chg hc hv⟩
theorem RGot.below {w w' : World} {B : Nat} {s : RS} {x : RR} (h : RGot w B s x) (hb : Below w.heap.size w w') : RGot w' B s x := h.chg (Chg.of_below (F := fun _ => False) hb) (fun _ _ _ h => h)
theorem RGot.base_le {w : World} {B B' : Nat} {s : RS} {x : RR} (h : RGot w B s x) (hb : B' ≤ B) : RGot w B' s x := ⟨OwnE.base_le h.n hb, h.d.base_le hb⟩

/-- A record in a block of its own. -/
def RRow (w : World) (q : Nat) (s : RS) (x : RR) : Prop := w.heap[q]? = some (.cells (rrCells s x) 48 (0, 0))
section
variable {w w' : World} {q : Nat} {s s' : RS} {x x' : RR}
theorem RRow.lt (h : RRow w q s x) : q < w.heap.size := (Array.getElem?_eq_some_iff.1 h).1
theorem RRow.below (h : RRow w q s x) (hb : Below w.heap.size w w') : RRow w' q s x := (hb.block q h.lt).trans h
theorem RRow.cell (h : RRow w q s x) (j : Nat) : w.cell? ⟨q, j, none⟩ = (rrCells s x)[j]? := cell_of_row _ _ _ _ _ _ h
theorem RRow.free (h : RRow w q s x) (j : Nat) : w.frozen? ⟨q, j, none⟩ = false := frozen_of_row _ _ _ _ _ h
theorem RRow.put (h : RRow w q s x) (j : Nat) (v : Value) (s' : RS) (x' : RR) (e : (rrCells s x).setIfInBounds j v = rrCells s' x') : RRow (w.setCell ⟨q, j, none⟩ v) q s' x' := by
  unfold RRow
  rw [← e]
  exact heap_setCell_same _ _ _ _ _ _ h
theorem RRow.cells (h : RRow w q s x) : w.cell? ⟨q, 0, none⟩ = some (.slice s.A x.name.length s.c) ∧ w.cell? ⟨q, 1, none⟩ = some (.int .i64 x.type) ∧ w.cell? ⟨q, 2, none⟩ = some (.int .i64 x.cls) ∧ w.cell? ⟨q, 3, none⟩ = some (.int .i64 x.ttl) ∧
    w.cell? ⟨q, 4, none⟩ = some (.slice s.d.A0 x.data.bytes.length s.d.c0) ∧ w.cell? ⟨q, 5, none⟩ = some (.slice s.d.A1 x.data.host.length s.d.c1) ∧ w.cell? ⟨q, 6, none⟩ = some (.slice s.d.A2 x.data.mail.length s.d.c2) ∧ w.cell? ⟨q, 7, none⟩ = some (.slice s.d.A3 x.data.nums.length s.d.c3) ∧ w.cell? ⟨q, 8, none⟩ = some (.slice s.d.A4 x.data.texts.length s.d.c4) :=
  ⟨(h.cell 0).trans rfl, (h.cell 1).trans rfl, (h.cell 2).trans rfl, (h.cell 3).trans rfl, (h.cell 4).trans rfl, (h.cell 5).trans rfl, (h.cell 6).trans rfl, (h.cell 7).trans rfl, (h.cell 8).trans rfl⟩
end
/-- Nine stores. -/
def put9 (w : World) (q : Nat) (v0 v1 v2 v3 v4 v5 v6 v7 v8 : Value) : World := ((((((((w.setCell ⟨q, 0, none⟩ v0).setCell ⟨q, 1, none⟩ v1).setCell ⟨q, 2, none⟩ v2).setCell ⟨q, 3, none⟩ v3).setCell ⟨q, 4, none⟩ v4).setCell ⟨q, 5, none⟩ v5).setCell ⟨q, 6, none⟩ v6).setCell ⟨q, 7, none⟩ v7).setCell ⟨q, 8, none⟩ v8
theorem set9 {w : World} {g : Nat} {t : TypeId} {a0 a1 a2 a3 a4 a5 a6 a7 a8 : Value} (h : w.heap[g]? = some (.cells #[a0, a1, a2, a3, a4, a5, a6, a7, a8] t (0, 0))) (v0 v1 v2 v3 v4 v5 v6 v7 v8 : Value) : (put9 w g v0 v1 v2 v3 v4 v5 v6 v7 v8).heap[g]? = some (.cells #[v0, v1, v2, v3, v4, v5, v6, v7, v8] t (0, 0)) := by
  unfold put9
  have h0 : (w.setCell ⟨g, 0, none⟩ v0).heap[g]? = some (.cells #[v0, a1, a2, a3, a4, a5, a6, a7, a8] t (0, 0)) := heap_setCell_same _ _ 0 _ _ v0 h
  have h1 : ((w.setCell ⟨g, 0, none⟩ v0).setCell ⟨g, 1, none⟩ v1).heap[g]? = some (.cells #[v0, v1, a2, a3, a4, a5, a6, a7, a8] t (0, 0)) := heap_setCell_same _ _ 1 _ _ v1 h0
  have h2 : (((w.setCell ⟨g, 0, none⟩ v0).setCell ⟨g, 1, none⟩ v1).setCell ⟨g, 2, none⟩ v2).heap[g]? = some (.cells #[v0, v1, v2, a3, a4, a5, a6, a7, a8] t (0, 0)) := heap_setCell_same _ _ 2 _ _ v2 h1
  have h3 : ((((w.setCell ⟨g, 0, none⟩ v0).setCell ⟨g, 1, none⟩ v1).setCell ⟨g, 2, none⟩ v2).setCell ⟨g, 3, none⟩ v3).heap[g]? = some (.cells #[v0, v1, v2, v3, a4, a5, a6, a7, a8] t (0, 0)) := heap_setCell_same _ _ 3 _ _ v3 h2
  have h4 : (((((w.setCell ⟨g, 0, none⟩ v0).setCell ⟨g, 1, none⟩ v1).setCell ⟨g, 2, none⟩ v2).setCell ⟨g, 3, none⟩ v3).setCell ⟨g, 4, none⟩ v4).heap[g]? = some (.cells #[v0, v1, v2, v3, v4, a5, a6, a7, a8] t (0, 0)) := heap_setCell_same _ _ 4 _ _ v4 h3
  have h5 : ((((((w.setCell ⟨g, 0, none⟩ v0).setCell ⟨g, 1, none⟩ v1).setCell ⟨g, 2, none⟩ v2).setCell ⟨g, 3, none⟩ v3).setCell ⟨g, 4, none⟩ v4).setCell ⟨g, 5, none⟩ v5).heap[g]? = some (.cells #[v0, v1, v2, v3, v4, v5, a6, a7, a8] t (0, 0)) := heap_setCell_same _ _ 5 _ _ v5 h4
  have h6 : (((((((w.setCell ⟨g, 0, none⟩ v0).setCell ⟨g, 1, none⟩ v1).setCell ⟨g, 2, none⟩ v2).setCell ⟨g, 3, none⟩ v3).setCell ⟨g, 4, none⟩ v4).setCell ⟨g, 5, none⟩ v5).setCell ⟨g, 6, none⟩ v6).heap[g]? = some (.cells #[v0, v1, v2, v3, v4, v5, v6, a7, a8] t (0, 0)) := heap_setCell_same _ _ 6 _ _ v6 h5
  have h7 : ((((((((w.setCell ⟨g, 0, none⟩ v0).setCell ⟨g, 1, none⟩ v1).setCell ⟨g, 2, none⟩ v2).setCell ⟨g, 3, none⟩ v3).setCell ⟨g, 4, none⟩ v4).setCell ⟨g, 5, none⟩ v5).setCell ⟨g, 6, none⟩ v6).setCell ⟨g, 7, none⟩ v7).heap[g]? = some (.cells #[v0, v1, v2, v3, v4, v5, v6, v7, a8] t (0, 0)) := heap_setCell_same _ _ 7 _ _ v7 h6
  have h8 : (((((((((w.setCell ⟨g, 0, none⟩ v0).setCell ⟨g, 1, none⟩ v1).setCell ⟨g, 2, none⟩ v2).setCell ⟨g, 3, none⟩ v3).setCell ⟨g, 4, none⟩ v4).setCell ⟨g, 5, none⟩ v5).setCell ⟨g, 6, none⟩ v6).setCell ⟨g, 7, none⟩ v7).setCell ⟨g, 8, none⟩ v8).heap[g]? = some (.cells #[v0, v1, v2, v3, v4, v5, v6, v7, v8] t (0, 0)) := heap_setCell_same _ _ 8 _ _ v8 h7
  exact h8
/-- Where rr.Get stands. -/
structure RgSt (w wr : World) (s : RS) (x : RR) : Prop where
  R : RRow wr w.heap.size s x
  G : RGot wr (w.heap.size + 1) s x
  bw : Below w.heap.size w wr
section
variable {w wr w' : World} {s : RS} {x : RR}
theorem RgSt.start (w : World) : RgSt w (w.alloc (.cells (rrCells RS.nil RR.zero) 48)) RS.nil RR.zero := ⟨heap_alloc_new _ _, RGot.nil _ _, bl.alloc (Nat.le_refl _) _⟩
theorem RgSt.below (h : RgSt w wr s x) (hb : Below wr.heap.size wr w') : RgSt w w' s x := ⟨h.R.below hb, h.G.below hb, nx h.bw hb⟩
theorem RgSt.put (h : RgSt w wr s x) (j : Nat) (v : Value) (s' : RS) (x' : RR) (e : (rrCells s x).setIfInBounds j v = rrCells s' x') (hg : RGot wr (w.heap.size + 1) s' x') : RgSt w (wr.setCell ⟨w.heap.size, j, none⟩ v) s' x' := by
  have hc : Chg (fun k => k = w.heap.size) wr (wr.setCell ⟨w.heap.size, j, none⟩ v) := chg_g1 _ _ _ _
  exact ⟨h.R.put j v s' x' e, hg.chg hc (fun k h1 _ => by omega), h.bw.setCell (p := ⟨w.heap.size, j, none⟩) (Nat.le_refl _) v⟩
theorem RgSt.name (h : RgSt w wr s x) {A : Option Addr} {c : Nat} {n : List (List UInt8)} (ho : OwnS wr (w.heap.size + 1) (.slice A n.length c) n) : RgSt w (wr.setCell ⟨w.heap.size, 0, none⟩ (.slice A n.length c)) { s with A := A, c := c } { x with name := n } :=
  h.put 0 _ _ _ rfl ⟨ho, h.G.d⟩
theorem RgSt.type (h : RgSt w wr s x) (n : Int) : RgSt w (wr.setCell ⟨w.heap.size, 1, none⟩ (.int .i64 n)) s { x with type := n } := h.put 1 _ _ _ rfl ⟨h.G.n, h.G.d⟩
theorem RgSt.cls (h : RgSt w wr s x) (n : Int) : RgSt w (wr.setCell ⟨w.heap.size, 2, none⟩ (.int .i64 n)) s { x with cls := n } := h.put 2 _ _ _ rfl ⟨h.G.n, h.G.d⟩
theorem RgSt.ttl (h : RgSt w wr s x) (n : Int) : RgSt w (wr.setCell ⟨w.heap.size, 3, none⟩ (.int .i64 n)) s { x with ttl := n } := h.put 3 _ _ _ rfl ⟨h.G.n, h.G.d⟩
theorem RgSt.data (h : RgSt w wr s x) {t : DS} {d : Da} (hg : DGot wr (w.heap.size + 1) t d) :
    RgSt w (((((wr.setCell ⟨w.heap.size, 4, none⟩ (.slice t.A0 d.bytes.length t.c0)).setCell ⟨w.heap.size, 5, none⟩ (.slice t.A1 d.host.length t.c1)).setCell ⟨w.heap.size, 6, none⟩ (.slice t.A2 d.mail.length t.c2)).setCell ⟨w.heap.size, 7, none⟩ (.slice t.A3 d.nums.length t.c3)).setCell ⟨w.heap.size, 8, none⟩ (.slice t.A4 d.texts.length t.c4)) { s with d := t } { x with data := d } := by
  have hr : RRow (((((wr.setCell ⟨w.heap.size, 4, none⟩ (.slice t.A0 d.bytes.length t.c0)).setCell ⟨w.heap.size, 5, none⟩ (.slice t.A1 d.host.length t.c1)).setCell ⟨w.heap.size, 6, none⟩ (.slice t.A2 d.mail.length t.c2)).setCell ⟨w.heap.size, 7, none⟩ (.slice t.A3 d.nums.length t.c3)).setCell ⟨w.heap.size, 8, none⟩ (.slice t.A4 d.texts.length t.c4)) w.heap.size { s with d := t } { x with data := d } :=
    heap_setCell_same _ _ 8 _ _ _ (heap_setCell_same _ _ 7 _ _ _ (heap_setCell_same _ _ 6 _ _ _ (heap_setCell_same _ _ 5 _ _ _ (heap_setCell_same _ _ 4 _ _ _ h.R))))
  have k : ∀ {u : World} (j : Nat) (v : Value), Chg (fun k => k = w.heap.size) wr u → Chg (fun k => k = w.heap.size) wr (u.setCell ⟨w.heap.size, j, none⟩ v) := fun j v h => h.setCell (p := ⟨w.heap.size, j, none⟩) (Or.inl rfl) v
  have hc := k 8 (.slice t.A4 d.texts.length t.c4) (k 7 (.slice t.A3 d.nums.length t.c3) (k 6 (.slice t.A2 d.mail.length t.c2) (k 5 (.slice t.A1 d.host.length t.c1) (k 4 (.slice t.A0 d.bytes.length t.c0) (Chg.refl _ wr)))))
  exact ⟨hr, ⟨ownE_chg h.G.n hc (fun k h1 _ => by omega), hg.chg hc (fun k h1 _ => by omega)⟩, h.bw.trans (hc.below (fun z hz => by omega) h.bw.size)⟩
theorem RgSt.nine (h : RgSt w wr s x) {s' : RS} {x' : RR} (hg : RGot wr (w.heap.size + 1) s' x') :
    RgSt w (put9 wr w.heap.size (.slice s'.A x'.name.length s'.c) (.int .i64 x'.type) (.int .i64 x'.cls) (.int .i64 x'.ttl) (.slice s'.d.A0 x'.data.bytes.length s'.d.c0) (.slice s'.d.A1 x'.data.host.length s'.d.c1) (.slice s'.d.A2 x'.data.mail.length s'.d.c2) (.slice s'.d.A3 x'.data.nums.length s'.d.c3) (.slice s'.d.A4 x'.data.texts.length s'.d.c4)) s' x' := by
  have hr := set9 h.R (.slice s'.A x'.name.length s'.c) (.int .i64 x'.type) (.int .i64 x'.cls) (.int .i64 x'.ttl) (.slice s'.d.A0 x'.data.bytes.length s'.d.c0) (.slice s'.d.A1 x'.data.host.length s'.d.c1) (.slice s'.d.A2 x'.data.mail.length s'.d.c2) (.slice s'.d.A3 x'.data.nums.length s'.d.c3) (.slice s'.d.A4 x'.data.texts.length s'.d.c4)
  unfold put9 at hr ⊢
  have k : ∀ {u : World} (j : Nat) (v : Value), Chg (fun k => k = w.heap.size) wr u → Chg (fun k => k = w.heap.size) wr (u.setCell ⟨w.heap.size, j, none⟩ v) := fun j v h => h.setCell (p := ⟨w.heap.size, j, none⟩) (Or.inl rfl) v
  have hc := k 8 (.slice s'.d.A4 x'.data.texts.length s'.d.c4) (k 7 (.slice s'.d.A3 x'.data.nums.length s'.d.c3) (k 6 (.slice s'.d.A2 x'.data.mail.length s'.d.c2) (k 5 (.slice s'.d.A1 x'.data.host.length s'.d.c1) (k 4 (.slice s'.d.A0 x'.data.bytes.length s'.d.c0) (k 3 (.int .i64 x'.ttl) (k 2 (.int .i64 x'.cls) (k 1 (.int .i64 x'.type) (k 0 (.slice s'.A x'.name.length s'.c) (Chg.refl _ wr)))))))))
  exact ⟨hr, hg.chg hc (fun k h1 _ => by omega), h.bw.trans (hc.below (fun z hz => by omega) h.bw.size)⟩
end
end Go.Proofs.Ytbjaphldncagjaa

/- Data and records in memory, in blocks of a set; how a list of them lies. -/
namespace Go.Proofs.Ytbjaphldncagjaa
open Go.RowKit
set_option maxRecDepth 100000

structure DIn (S : Nat → Prop) (w : World) (s : DS) (x : Da) : Prop where
  b : Els encB S S w s.A0 x.bytes.length x.bytes
  h : Els encS S S w s.A1 x.host.length x.host
  m : Els encS S S w s.A2 x.mail.length x.mail
  n : Els encI S S w s.A3 x.nums.length x.nums
  t : Els encS S S w s.A4 x.texts.length x.texts
  cb : x.bytes.length ≤ s.c0 ∧ s.c0 ≤ maxLen
  ch : x.host.length ≤ s.c1 ∧ s.c1 ≤ maxLen
  cm : x.mail.length ≤ s.c2 ∧ s.c2 ≤ maxLen
  cn : x.nums.length ≤ s.c3 ∧ s.c3 ≤ maxLen
  ct : x.texts.length ≤ s.c4 ∧ s.c4 ≤ maxLen
section
variable {S S' F : Nat → Prop} {w w' : World} {s : DS} {x : Da} {B : Nat}
theorem DIn.mono (hS : ∀ b, S b → S' b) (h : DIn S w s x) : DIn S' w s x :=
  ⟨h.b.mono hS hS, h.h.mono hS hS, h.m.mono hS hS, h.n.mono hS hS, h.t.mono hS hS, h.cb, h.ch, h.cm, h.cn, h.ct⟩
theorem DIn.keep (hS : ∀ b, S b → w'.heap[b]? = w.heap[b]?) (h : DIn S w s x) : DIn S w' s x :=
  ⟨h.b.keep hS hS, h.h.keep hS hS, h.m.keep hS hS, h.n.keep hS hS, h.t.keep hS hS, h.cb, h.ch, h.cm, h.cn, h.ct⟩
theorem DIn.chg (h : DIn S w s x) (hc : Chg F w w') (hl : ∀ b, S b → b < w.heap.size ∧ ¬ F b) : DIn S w' s x := h.keep fun b hb => hc.block b (hl b hb).1 (hl b hb).2
theorem DIn.below (h : DIn S w s x) (hb : Below w.heap.size w w') (hl : ∀ b, S b → b < w.heap.size) : DIn S w' s x := h.keep fun b hbS => hb.block b (hl b hbS)
theorem DIn.rd (h : DIn S w s x) (hl : ∀ b, S b → b < w.heap.size) : DRd w s x :=
  ⟨els_bytes h.b, h.h.mono hl hl, h.m.mono hl hl, h.n.mono hl hl, h.t.mono hl hl, h.cb, h.ch, h.cm, h.cn, h.ct⟩
theorem DRd.din (h : DRd w s x) : DIn (ltS w) w s x := ⟨bytes_rdE h.b, h.h, h.m, h.n, h.t, h.cb, h.ch, h.cm, h.cn, h.ct⟩
/-- From B on. -/
def geS (B : Nat) (w : World) : Nat → Prop := fun b => B ≤ b ∧ b < w.heap.size
theorem ownB_els {v : Value} {bs : List UInt8} {A : Option Addr} {n c : Nat} (h : OwnB w B v bs) (hv : v = .slice A n c) : Els encB (geS B w) (geS B w) w A n bs ∧ n ≤ c ∧ c ≤ maxLen := by
  subst hv
  obtain ⟨A', c', hv, hr, h1, h2⟩ := h.form
  injection hv with e1 e2 e3
  subst e1 e2 e3
  refine ⟨bytes_els hr fun b off e => ?_, h1, h2⟩
  have hl := World.ownsRow.lt h
  rcases h.2 with ⟨e0, _⟩ | ⟨g, cap, cur, e0, h3, _⟩
  · injection e0 with e0
    rw [e] at e0
    cases e0
  · injection e0 with e0
    rw [e] at e0
    injection e0 with e0
    injection e0 with e0
    subst e0
    subst e
    exact hl _ rfl
theorem ownE_els {α : Type} {E : Enc α} {e : TypeId} {xs : List α} {v : Value} {A : Option Addr} {n c : Nat} (h : OwnE E e noS w B v xs) (hv : v = .slice A n c) : Els E (geS B w) (geS B w) w A n xs ∧ n ≤ c ∧ c ≤ maxLen := by
  subst hv
  have hl := h.lt
  obtain ⟨A', c', hv, hr, h1, h2⟩ := h.form
  injection hv with e1 e2 e3
  subst e1 e2 e3
  exact ⟨hr.mono (fun b hb => hl b hb) (fun b hb => hb.elim), h1, h2⟩
theorem DGot.din (h : DGot w B s x) : DIn (geS B w) w s x := by
  obtain ⟨b1, b2⟩ := ownB_els h.b rfl
  obtain ⟨h1, h2⟩ := ownE_els h.h rfl
  obtain ⟨m1, m2⟩ := ownE_els h.m rfl
  obtain ⟨n1, n2⟩ := ownE_els h.n rfl
  obtain ⟨t1, t2⟩ := ownE_els h.t rfl
  exact ⟨b1, h1, m1, n1, t1, b2, h2, m2, n2, t2⟩
theorem DOwn.din (h : DOwn w B s x) : DIn (geS B w) w s x := by
  obtain ⟨b1, b2⟩ := ownB_els h.b rfl
  obtain ⟨h1, h2⟩ := ownE_els h.h rfl
  obtain ⟨m1, m2⟩ := ownE_els h.m rfl
  obtain ⟨n1, n2⟩ := ownE_els h.n rfl
  obtain ⟨t1, t2⟩ := ownE_els h.t rfl
  exact ⟨b1, h1, m1, n1, t1, b2, h2, m2, n2, t2⟩
end
/-- How data lies in five cells. -/
def encDa : Enc Da where
  size := 5
  R := fun S w r x => ∃ s, r = (dCells s x).toList ∧ DIn S w s x
  pos := by decide
  len := by rintro _ _ r x ⟨s, rfl, _⟩; rfl
  mono := by rintro S S' w r x hS ⟨s, rfl, h⟩; exact ⟨s, rfl, h.mono hS⟩
  keep := by rintro S w w' r x hS ⟨s, rfl, h⟩; exact ⟨s, rfl, h.keep hS⟩
  one := by
    rintro S w r x ⟨s, rfl, _⟩ u hu
    simp [dCells] at hu
    rcases hu with rfl | rfl | rfl | rfl | rfl <;> rfl
structure RIn (S : Nat → Prop) (w : World) (s : RS) (x : RR) : Prop where
  n : Els encS S S w s.A x.name.length x.name
  cn : x.name.length ≤ s.c ∧ s.c ≤ maxLen
  d : DIn S w s.d x.data
  it : -9223372036854775808 ≤ x.type ∧ x.type ≤ 9223372036854775807
  ic : -9223372036854775808 ≤ x.cls ∧ x.cls ≤ 9223372036854775807
  il : -9223372036854775808 ≤ x.ttl ∧ x.ttl ≤ 9223372036854775807
section
variable {S S' F : Nat → Prop} {w w' : World} {s : RS} {x : RR} {B : Nat}
theorem RIn.mono (hS : ∀ b, S b → S' b) (h : RIn S w s x) : RIn S' w s x := ⟨h.n.mono hS hS, h.cn, h.d.mono hS, h.it, h.ic, h.il⟩
theorem RIn.keep (hS : ∀ b, S b → w'.heap[b]? = w.heap[b]?) (h : RIn S w s x) : RIn S w' s x := ⟨h.n.keep hS hS, h.cn, h.d.keep hS, h.it, h.ic, h.il⟩
theorem RIn.chg (h : RIn S w s x) (hc : Chg F w w') (hl : ∀ b, S b → b < w.heap.size ∧ ¬ F b) : RIn S w' s x := h.keep fun b hb => hc.block b (hl b hb).1 (hl b hb).2
theorem RIn.below (h : RIn S w s x) (hb : Below w.heap.size w w') (hl : ∀ b, S b → b < w.heap.size) : RIn S w' s x := h.keep fun b hbS => hb.block b (hl b hbS)
end
/-- How a record lies in nine cells. -/
def encRR : Enc RR where
  size := 9
  R := fun S w r x => ∃ s, r = (rrCells s x).toList ∧ RIn S w s x
  pos := by decide
  len := by rintro _ _ r x ⟨s, rfl, _⟩; rfl
  mono := by rintro S S' w r x hS ⟨s, rfl, h⟩; exact ⟨s, rfl, h.mono hS⟩
  keep := by rintro S w w' r x hS ⟨s, rfl, h⟩; exact ⟨s, rfl, h.keep hS⟩
  one := by
    rintro S w r x ⟨s, rfl, _⟩ u hu
    simp [rrCells] at hu
    rcases hu with rfl | rfl | rfl | rfl | rfl | rfl | rfl | rfl | rfl <;> rfl
/-- A question. -/
structure Qu where
  name : List (List UInt8)
  type : Int
  cls : Int
def encQu : Enc Qu where
  size := 3
  R := fun S w r x => ∃ A c, r = [.slice A x.name.length c, .int .i64 x.type, .int .i64 x.cls] ∧ Els encS S S w A x.name.length x.name ∧ (x.name.length ≤ c ∧ c ≤ maxLen) ∧ (-9223372036854775808 ≤ x.type ∧ x.type ≤ 9223372036854775807) ∧ (-9223372036854775808 ≤ x.cls ∧ x.cls ≤ 9223372036854775807)
  pos := by decide
  len := by rintro _ _ r x ⟨A, c, rfl, _⟩; rfl
  mono := by rintro S S' w r x hS ⟨A, c, rfl, h, h2⟩; exact ⟨A, c, rfl, h.mono hS hS, h2⟩
  keep := by rintro S w w' r x hS ⟨A, c, rfl, h, h2⟩; exact ⟨A, c, rfl, h.keep hS hS, h2⟩
  one := by
    rintro S w r x ⟨A, c, rfl, _⟩ u hu
    simp at hu
    rcases hu with rfl | rfl | rfl <;> rfl
end Go.Proofs.Ytbjaphldncagjaa

/- wname: Name walked. -/
namespace Go.Proofs.Ytbjaphldncagjaa
open Go.RowKit Go.Maps

theorem strs_noS {So Si : Nat → Prop} {w : World} {A : Option Addr} {n : Nat} {ns : List (List UInt8)} (h : Els encS So Si w A n ns) : Els encS So noS w A n ns :=
  ⟨h.1, fun hn => by
    obtain ⟨b, off, e, hb, hx⟩ := h.2 hn
    exact ⟨b, off, e, hb, fun i x hi => by obtain ⟨r, hr, hc⟩ := hx i x hi; exact ⟨r, hr, hc⟩⟩⟩

theorem wpL_look_some {w : World} {mb : Nat} {rs : List (List UInt8 × Nat)} (h : MapIs w mb rs) {k : List UInt8} {p : Nat} (hl : lookR rs k = some p) {ops : Array Oper} {rest : List Oper} {o : Oper} {a : Act} {Q : Exit → Act → World → Prop} (hg : o.guard = none) (m x : Operand) (hop : o.op = Op.lookup 137 m x true)
    (hm : a.eval m = .map (some mb)) (hx : a.eval x = .string (bstr k)) (hk : k.length ≤ maxLen)
    (hK : wpList Try.prog ops Q rest (a.put o.dst (.tuple #[.int .i64 (p : Int), .bool true])) w) : wpList Try.prog ops Q (o :: rest) a w :=
  wpL_look h hg m x hop hm hx hk (fun q hq => by rw [hl] at hq; injection hq with hq; subst hq; exact hK) (fun hn => by rw [hl] at hn; cases hn)
theorem wpL_look_none {w : World} {mb : Nat} {rs : List (List UInt8 × Nat)} (h : MapIs w mb rs) {k : List UInt8} (hl : lookR rs k = none) {ops : Array Oper} {rest : List Oper} {o : Oper} {a : Act} {Q : Exit → Act → World → Prop} (hg : o.guard = none) (m x : Operand) (hop : o.op = Op.lookup 137 m x true)
    (hm : a.eval m = .map (some mb)) (hx : a.eval x = .string (bstr k)) (hk : k.length ≤ maxLen)
    (hK : ∀ c : Int, wpList Try.prog ops Q rest (a.put o.dst (.tuple #[.int .i64 c, .bool false])) w) : wpList Try.prog ops Q (o :: rest) a w :=
  wpL_look h hg m x hop hm hx hk (fun q hq => by rw [hl] at hq; cases hq) (fun _ => hK)

theorem raw_label (x : Wr) (l : List UInt8) : (x.raw [UInt8.ofNat l.length]).raw l = x.label l := by simp [Wr.raw, Wr.label]
theorem Wtr.noted_cells {w w' : World} {B g mb : Nat} {F : Nat → Prop} {bv : Value} (hg : w.heap[g]? = some (.cells #[bv, .map (some mb)] 139 (0, 0))) (hmF : F mb ∧ mb ≠ g) (hF : ∀ k, F k → B ≤ k ∧ k < w.heap.size) (hgF : F g ∧ B ≤ g) (hgr : w.grownBy w' (some mb)) : w'.cell? ⟨g, 0, none⟩ = some bv ∧ w'.cell? ⟨g, 1, none⟩ = some (.map (some mb)) := by
  have h := (hgr.block g (hF g hgF.1).2 (fun e => hmF.2 (by injection e with e; exact e.symm))).trans hg
  exact ⟨(cell_of_row _ _ _ _ _ _ h).trans rfl, (cell_of_row _ _ _ _ _ _ h).trans rfl⟩
theorem Wtr.noted {w w' : World} {B g mb : Nat} {F : Nat → Prop} {x : Wr} {bv : Value} {r : List UInt8} (hn : x.Near) (hg : w.heap[g]? = some (.cells #[bv, .map (some mb)] 139 (0, 0))) (hbv : OwnB w B bv x.b) (hgF : F g ∧ B ≤ g)
    (hbF : ∀ k, bv.ownBlock = some k → F k ∧ k ≠ g ∧ k ≠ mb) (hmF : F mb ∧ mb ≠ g) (hF : ∀ k, F k → B ≤ k ∧ k < w.heap.size) (hl : x.b.length < 16384) (hm : MapIs w' mb ((r, x.b.length) :: x.rests)) (hgr : w.grownBy w' (some mb)) : Wtr w' B F g (x.note r) ∧ Chg F w w' := by
  have hc1 : Chg (fun k => k = mb) w w' := (Chg.refl _ w).grown hgr (fun k hk => .inl (by injection hk with hk; exact hk.symm))
  have e : x.note r = { x with rests := (r, x.b.length) :: x.rests } := by unfold Wr.note; rw [if_pos hl]
  refine ⟨⟨hn.note r, bv, mb, (hc1.block g (hF g hgF.1).2 (fun e => hmF.2 e.symm)).trans hg, ?_, ?_, hgF, hbF, hmF, fun k hk => ⟨(hF k hk).1, Nat.lt_of_lt_of_le (hF k hk).2 hc1.size⟩⟩, hc1.mono (fun k hk => .inl (by subst hk; exact hmF.1))⟩
  · rw [e]; exact hbv.chgv hc1 (fun k hk e => (hbF k hk).2.2 e)
  · rw [e]; exact hm

/-- What a name's writing returns. -/
noncomputable def nameR (ns : List (List UInt8)) : Int := if soundB ns = true then 0 else 5
noncomputable def Wr.nameS (x : Wr) (ns : List (List UInt8)) (short : Bool) : Wr := if soundB ns = true then x.name ns short else x

set_option maxRecDepth 100000 in
set_option maxHeartbeats 4000000 in
theorem name_any (w : World) (B g : Nat) (F : Nat → Prop) (x : Wr) (A : Option Addr) (n c : Nat) (ns : List (List UInt8)) (short : Bool) {So Si : Nat → Prop} (h : Wtr w B F g x) (hns : Els encS So Si w A n ns) (hSo : ∀ b, So b → b < w.heap.size ∧ ¬ F b) (hn : n ≤ 1000000000) (hnc : n ≤ c) (hcm : c ≤ maxLen)
    (hxb : x.b.length ≤ 10000000) (hxr : x.rests.length ≤ 10000000) :
    Calls Try.prog 50 #[.pointer (some ⟨g, 0, none⟩), .slice A n c, .bool short] w (RetX w B F g (x.nameS ns short) (.int .i64 (nameR ns))) := by
  have hl := hns.len
  subst hl
  have H := Lib.hid h
  have hE := strs_noS hns
  clear h hns
  have hcm' : c ≤ 9223372036854775807 := hcm
  clear hcm
  by_cases hs : soundB ns = true
  · have hS := soundB_iff.1 hs
    have hr : nameR ns = 0 := by unfold nameR; rw [if_pos hs]
    have hx : x.nameS ns short = x.name ns short := by unfold Wr.nameS; rw [if_pos hs]
    rw [hr, hx]
    have HSo := Lib.hid hSo
    have hsz := hS.2
    have hsl := sizeN_length ns
    have HS := Lib.hid hS
    clear hr hx hS hSo
    go_enter Try.func50, Try.ntmps50
    go_wp2_with (go_at_call 99; refine (sound_any A ns.length c ns _ hE hn).mono ?_; rw [hs]; rintro e w1 ⟨rfl, rfl⟩)
    clear hs
    go_loopw [21] (fun iv wr => ∃ (k : Nat) (Fk : Nat → Prop) (xk : Wr), iv = .int .i64 k ∧ k ≤ ns.length ∧ Hid (x.name ns short = xk.name (ns.drop k) short) ∧ Hid (Wtr wr B Fk g xk) ∧ Chg F w wr ∧ Hid (∀ z, Fk z → F z ∨ w.heap.size ≤ z) ∧ xk.b.length + sizeN (ns.drop k) ≤ x.b.length + sizeN ns ∧ xk.rests.length ≤ x.rests.length + k) (fun iv _ => ns.length - (intOf iv).toNat)
    case atStart => exact ⟨0, F, x, rfl, Nat.zero_le _, rfl, H, Chg.refl _ _, fun z hz => .inl hz, by simp, Nat.le_refl _⟩
    case round =>
      obtain ⟨k, Fk, xk, rfl, hk, HN, HW, hch, HF, hlb, hlr⟩ := hrel
      by_cases hlt : k < ns.length
      · obtain ⟨l, hx⟩ : ∃ l, ns[k]? = some l := ⟨_, List.getElem?_eq_getElem hlt⟩
        have hdr : ns.drop k = l :: ns.drop (k + 1) := by
          rw [List.drop_eq_getElem_cons hlt]
          rw [List.getElem?_eq_getElem hlt] at hx
          injection hx with hx
          rw [hx]
        obtain ⟨bN, offN, rfl, hsN, hcN, hll⟩ := strs_at hE hx
        have hEr : Els encS So noS wr (some ⟨bN, offN, none⟩) ns.length ns := hE.keep (fun b hb => hch.block b (HSo.out b hb).1 (HSo.out b hb).2) (fun b hb => hb.elim)
        have hcr := hch.cell hcN (HSo.out bN hsN).2
        have hcut := hEr.cut k c (Nat.le_of_lt hlt) hnc
        have hck : ¬ c = k := by omega
        rw [if_neg hck, Option.map_some, add_flat, show encS.size = 1 from rfl, Nat.mul_one] at hcut
        have hsd := (HS.out.drop k)
        have hlab := hsd.1
        have hrl := Lib.hid (restB_length (ns.drop k))
        have hsz2 := hsd.2
        have hl13 : 1 ≤ l.length ∧ l.length ≤ 63 := hlab l (by rw [hdr]; exact List.mem_cons_self ..)
        have HDR := Lib.hid hdr
        have hbs := bstr_size l
        have hl1 := hl13.1
        have hl2 := hl13.2
        have HL := Lib.hid hlab
        clear hx hdr hsd hlab hl13
        have hcb := fun W : World => Lib.run_convert_string_bytes (P := Try.prog) W 9 35 5 (bstr l) Try.underlying9 Try.underlying35 Try.underlying5
        have hkl : (restB (ns.drop k)).length ≤ maxLen := by have := hrl.out; unfold maxLen; omega
        have hsn : sizeN (ns.drop k) = l.length + 1 + sizeN (ns.drop (k + 1)) := by rw [HDR.out]; rfl
        have HSN := Lib.hid hsn
        have hle2 : xk.b.length + (l.length + 1 + sizeN (ns.drop (k + 1))) ≤ x.b.length + sizeN ns := by omega
        clear hsn
        rcases hlk : lookR xk.rests (restB (ns.drop k)) with _ | p
        · have HLK := Lib.hid hlk
          clear hlk
          by_cases h16 : xk.b.length < 16384
          · have HNX : Hid (xk.name (ns.drop k) short = (((xk.note (restB (ns.drop k))).label l).name (ns.drop (k + 1)) short)) := by
              show _ = _
              have := HLK.out
              rw [HDR.out] at this ⊢
              rw [Wr.name, this]
            go_wp2_with (first
              | (go_at_call 100; (with_reducible refine (rest_any _ _ _ (ns.drop k) _ hcut (by omega) (fun y hy => by have := (HL.out y hy).2; omega)).mono ?_); rintro e w2 ⟨_, rfl, rfl, hb2⟩; have HW2 := Lib.hid (HW.out.below hb2); have hch2 := hch.nx hb2; obtain ⟨hn2, bv, mb, hgg, hbv, hm, hgF2, hbF, hmF, hFl⟩ := HW.out.below hb2; obtain ⟨Ab, cb, rfl, _⟩ := hbv.form; have HG := Lib.hid hgg; have e0 : w2.cell? ⟨g, 0, none⟩ = some (.slice Ab xk.b.length cb) := (cell_of_row _ _ _ _ _ _ hgg).trans rfl; have e1 : w2.cell? ⟨g, 1, none⟩ = some (.map (some mb)) := (cell_of_row _ _ _ _ _ _ hgg).trans rfl; clear hgg)
              | ((with_reducible show wpList _ _ _ (⟨some 36, _, _, _, _, _⟩ :: _) _ _); refine wpL_look_none hm HLK.out rfl (.tmp 34) (.tmp 35) rfl rfl rfl hkl ?_; intro cc; have HM := Lib.hid hm; clear hm))
            obtain ⟨w3, hrun, hm3, hg3⟩ := (HM.out.keep (w' := w2.drew) rfl).put (k := restB (ns.drop k)) hkl (p := xk.b.length) (by omega) (by unfold maxLen; omega)
            have hnt := Wtr.noted (w := w2.drew) hn2 HG.out hbv.drew hgF2 hbF hmF hFl h16 hm3 hg3
            have HNT := Lib.hid hnt.1
            have hcn := (hch2.nx bl.drew).trans hnt.2 HF.out
            have HP := Lib.hid (Wtr.noted_cells (w := w2.drew) HG.out hmF hFl hgF2 hg3)
            have hnb := xk.note_b (restB (ns.drop k))
            have hnr := xk.note_rests (restB (ns.drop k))
            have HNB := Lib.hid hnb
            clear hnt hm3 hnb
            go_region_held3 (fun w' => w'.cell? ⟨g, 0, none⟩ = some (.slice (Ab) xk.b.length cb) ∧ w'.cell? ⟨g, 1, none⟩ = some (.map (some mb)))
              (first
                | with_reducible exact ⟨e0, e1⟩
                | with_reducible exact ⟨below_cell bl.drew e0, below_cell bl.drew e1⟩
                | with_reducible exact HP.out)
              (fail)
            go_wp2_with (first
              | (go_at_call 101; refine (wnum_any w3 B g Fk (xk.note (restB (ns.drop k))) l.length 1 HNT.out (by rw [HNB.out]; omega)).mono ?_; rintro e w4 ⟨rfl, F4, h4, hc4, hF4⟩; rw [put_len l hl2] at h4; have H4 := Lib.hid h4; have hr4 := (conv_rd w4 l).1; have hb4 := (conv_rd w4 l).2; clear h4)
              | (go_at_call 58; refine (wraw_any _ B g F4 _ _ _ _ l (H4.out.below hb4) hr4 (by simp only [Wr.raw, List.length_append, List.length_singleton]; rw [HNB.out]; omega)).mono ?_; rintro e w5 ⟨rfl, F5, h5, hc5, hF5⟩))
            go_roundw
            case rel =>
              have hq4 : ∀ z, F4 z → F z ∨ w.heap.size ≤ z := fun z hz => (hF4 z hz).elim (HF.out z) (fun h => .inr (Nat.le_trans hcn.size h))
              have hq5 := (hcn.trans hc4 HF.out).nx hb4
              exact ⟨k + 1, F5, ((xk.note (restB (ns.drop k))).raw [UInt8.ofNat l.length]).raw l, by go_num, by omega, HN.out.trans (HNX.out.trans (by rw [raw_label])), h5, hq5.trans hc5 hq4, fun z hz => (hF5 z hz).elim (hq4 z) (fun h => .inr (Nat.le_trans hq5.size h)), by simp only [Wr.raw, List.length_append, List.length_singleton]; rw [HNB.out]; omega, by show (xk.note (restB (ns.drop k))).rests.length ≤ _; omega⟩
            case measure => simp [intOf]; omega
          · have HNX : Hid (xk.name (ns.drop k) short = (xk.label l).name (ns.drop (k + 1)) short) := by
              show _ = _
              have := HLK.out
              rw [HDR.out] at this ⊢
              rw [Wr.name, this]
              unfold Wr.note
              rw [if_neg h16]
            go_wp2_with (first
              | (go_at_call 100; (with_reducible refine (rest_any _ _ _ (ns.drop k) _ hcut (by omega) (fun y hy => by have := (HL.out y hy).2; omega)).mono ?_); rintro e w2 ⟨_, rfl, rfl, hb2⟩; have HW2 := Lib.hid (HW.out.below hb2); have hch2 := hch.nx hb2; obtain ⟨hn2, bv, mb, hgg, hbv, hm, hgF2, hbF, hmF, hFl⟩ := HW.out.below hb2; obtain ⟨Ab, cb, rfl, _⟩ := hbv.form; have HG := Lib.hid hgg; have e0 : w2.cell? ⟨g, 0, none⟩ = some (.slice Ab xk.b.length cb) := (cell_of_row _ _ _ _ _ _ hgg).trans rfl; have e1 : w2.cell? ⟨g, 1, none⟩ = some (.map (some mb)) := (cell_of_row _ _ _ _ _ _ hgg).trans rfl; clear hgg)
              | ((with_reducible show wpList _ _ _ (⟨some 36, _, _, _, _, _⟩ :: _) _ _); refine wpL_look_none hm HLK.out rfl (.tmp 34) (.tmp 35) rfl rfl rfl hkl ?_; intro cc)
              | (go_at_call 101; refine (wnum_any w2 B g Fk xk l.length 1 HW2.out (by omega)).mono ?_; rintro e w4 ⟨rfl, F4, h4, hc4, hF4⟩; rw [put_len l hl2] at h4; have H4 := Lib.hid h4; have hr4 := (conv_rd w4 l).1; have hb4 := (conv_rd w4 l).2; clear h4)
              | (go_at_call 58; refine (wraw_any _ B g F4 _ _ _ _ l (H4.out.below hb4) hr4 (by simp only [Wr.raw, List.length_append, List.length_singleton]; omega)).mono ?_; rintro e w5 ⟨rfl, F5, h5, hc5, hF5⟩))
            go_roundw
            case rel =>
              have hq4 : ∀ z, F4 z → F z ∨ w.heap.size ≤ z := fun z hz => (hF4 z hz).elim (HF.out z) (fun h => .inr (Nat.le_trans hch2.size h))
              have hq5 := (hch2.trans hc4 HF.out).nx hb4
              exact ⟨k + 1, F5, (xk.raw [UInt8.ofNat l.length]).raw l, by go_num, by omega, HN.out.trans (HNX.out.trans (by rw [raw_label])), h5, hq5.trans hc5 hq4, fun z hz => (hF5 z hz).elim (hq4 z) (fun h => .inr (Nat.le_trans hq5.size h)), by simp only [Wr.raw, List.length_append, List.length_singleton]; omega, by show xk.rests.length ≤ _; omega⟩
            case measure => simp [intOf]; omega
        · have HLK := Lib.hid hlk
          have hp : p < 16384 := HW.out.near _ _ hlk
          have hor := or_ptr p hp
          clear hlk
          rcases short with _ | _
          · have HNX : Hid (xk.name (ns.drop k) false = (xk.label l).name (ns.drop (k + 1)) false) := by
              show _ = _
              have := HLK.out
              rw [HDR.out] at this ⊢
              rw [Wr.name, this]
              rfl
            go_wp2_with (first
              | (go_at_call 100; (with_reducible refine (rest_any _ _ _ (ns.drop k) _ hcut (by omega) (fun y hy => by have := (HL.out y hy).2; omega)).mono ?_); rintro e w2 ⟨_, rfl, rfl, hb2⟩; have HW2 := Lib.hid (HW.out.below hb2); have hch2 := hch.nx hb2; obtain ⟨hn2, bv, mb, hgg, hbv, hm, hgF2, hbF, hmF, hFl⟩ := HW.out.below hb2; obtain ⟨Ab, cb, rfl, _⟩ := hbv.form; have HG := Lib.hid hgg; have e0 : w2.cell? ⟨g, 0, none⟩ = some (.slice Ab xk.b.length cb) := (cell_of_row _ _ _ _ _ _ hgg).trans rfl; have e1 : w2.cell? ⟨g, 1, none⟩ = some (.map (some mb)) := (cell_of_row _ _ _ _ _ _ hgg).trans rfl; clear hgg)
              | ((with_reducible show wpList _ _ _ (⟨some 36, _, _, _, _, _⟩ :: _) _ _); refine wpL_look_some hm HLK.out rfl (.tmp 34) (.tmp 35) rfl rfl rfl hkl ?_)
              | (go_at_call 101; refine (wnum_any w2 B g Fk xk l.length 1 HW2.out (by omega)).mono ?_; rintro e w4 ⟨rfl, F4, h4, hc4, hF4⟩; rw [put_len l hl2] at h4; have H4 := Lib.hid h4; have hr4 := (conv_rd w4 l).1; have hb4 := (conv_rd w4 l).2; clear h4)
              | (go_at_call 58; refine (wraw_any _ B g F4 _ _ _ _ l (H4.out.below hb4) hr4 (by simp only [Wr.raw, List.length_append, List.length_singleton]; omega)).mono ?_; rintro e w5 ⟨rfl, F5, h5, hc5, hF5⟩))
            go_roundw
            case rel =>
              have hq4 : ∀ z, F4 z → F z ∨ w.heap.size ≤ z := fun z hz => (hF4 z hz).elim (HF.out z) (fun h => .inr (Nat.le_trans hch2.size h))
              have hq5 := (hch2.trans hc4 HF.out).nx hb4
              exact ⟨k + 1, F5, (xk.raw [UInt8.ofNat l.length]).raw l, by go_num, by omega, HN.out.trans (HNX.out.trans (by rw [raw_label])), h5, hq5.trans hc5 hq4, fun z hz => (hF5 z hz).elim (hq4 z) (fun h => .inr (Nat.le_trans hq5.size h)), by simp only [Wr.raw, List.length_append, List.length_singleton]; omega, by show xk.rests.length ≤ _; omega⟩
            case measure => simp [intOf]; omega
          · have HNX : Hid (xk.name (ns.drop k) true = xk.raw (ptrB p)) := by
              show _ = _
              have := HLK.out
              rw [HDR.out] at this ⊢
              rw [Wr.name, this]
              rfl
            go_wp2_with (first
              | (go_at_call 100; (with_reducible refine (rest_any _ _ _ (ns.drop k) _ hcut (by omega) (fun y hy => by have := (HL.out y hy).2; omega)).mono ?_); rintro e w2 ⟨_, rfl, rfl, hb2⟩; have HW2 := Lib.hid (HW.out.below hb2); have hch2 := hch.nx hb2; obtain ⟨hn2, bv, mb, hgg, hbv, hm, hgF2, hbF, hmF, hFl⟩ := HW.out.below hb2; obtain ⟨Ab, cb, rfl, _⟩ := hbv.form; have HG := Lib.hid hgg; have e0 : w2.cell? ⟨g, 0, none⟩ = some (.slice Ab xk.b.length cb) := (cell_of_row _ _ _ _ _ _ hgg).trans rfl; have e1 : w2.cell? ⟨g, 1, none⟩ = some (.map (some mb)) := (cell_of_row _ _ _ _ _ _ hgg).trans rfl; clear hgg)
              | ((with_reducible show wpList _ _ _ (⟨some 36, _, _, _, _, _⟩ :: _) _ _); refine wpL_look_some hm HLK.out rfl (.tmp 34) (.tmp 35) rfl rfl rfl hkl ?_)
              | (go_at_call 101; refine (wnum_any w2 B g Fk xk (49152 + (p : Int)) 2 HW2.out (by omega)).mono ?_; rintro e w4 ⟨rfl, F4, h4, hc4, hF4⟩; rw [put_ptr p hp] at h4; have H4 := Lib.hid h4; clear h4))
            go_ret
            refine ⟨rfl, F4, ?_, hch2.trans hc4 HF.out, fun z hz => (hF4 z hz).elim (HF.out z) (fun h => .inr (Nat.le_trans hch2.size h))⟩
            rw [HN.out, HNX.out]
            exact H4.out
      · obtain rfl : k = ns.length := by omega
        have hdn : ns.drop ns.length = [] := List.drop_length
        have HDN := Lib.hid hdn
        have hbl : xk.b.length ≤ 100000000 := by have := sizeN_length (ns.drop ns.length); omega
        clear hdn
        go_wp2_with (go_at_call 101; refine (wnum_any _ B g Fk xk 0 1 HW.out hbl).mono ?_; rintro e w3 ⟨rfl, F3, h3, hc3, hF3⟩)
        go_ret
        refine ⟨rfl, F3, ?_, hch.trans hc3 HF.out, fun z hz => (hF3 z hz).elim (HF.out z) (fun h => .inr (Nat.le_trans hch.size h))⟩
        rw [HN.out, HDN.out]
        rw [put_zero] at h3
        exact h3
  · have hs' : soundB ns = false := by simpa using hs
    have hr : nameR ns = 5 := by unfold nameR; rw [if_neg hs]
    have hx : x.nameS ns short = x := by unfold Wr.nameS; rw [if_neg hs]
    rw [hr, hx]
    clear hr hx hs
    go_enter Try.func50, Try.ntmps50
    go_wp2_with (go_at_call 99; refine (sound_any A ns.length c ns _ hE hn).mono ?_; rw [hs']; rintro e w1 ⟨rfl, rfl⟩)
    go_ret
    exact ⟨rfl, F, H.out, Chg.refl _ _, fun z hz => .inl hz⟩
end Go.Proofs.Ytbjaphldncagjaa
