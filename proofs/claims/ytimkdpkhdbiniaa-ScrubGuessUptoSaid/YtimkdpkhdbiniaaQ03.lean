/- Parts of a proof, joined: Wget, RdG1, RdG2, RdG3, Ints, RdG4, RdG5, RdG6, RrMem, DIn, OpenRR, OwnRR, Qs, MsMem. -/
import Derived.Defers
import Derived.Recover
import Derived.StillTailTactics
import Derived.Test.YtimkdpkhdbiniaaChecked
import Derived.Test.YtimkdpkhdbiniaaQ02
import Derived.Test.YtimkdpkhdbiniaaQ01
/- wname.Get: the name at a place, as the program reads it. -/
namespace Go.Proofs.Ytimkdpkhdbiniaa
open Go.RowKit

def RetW (r : List (List UInt8) × Int × Int) (w : World) (e : Ending) (w' : World) : Prop := ∃ v, e = .returned (.tuple #[v, .int .i64 r.2.1, .int .i64 r.2.2]) ∧ OwnS w' w.heap.size v r.1 ∧ Below w.heap.size w w'

set_option maxRecDepth 100000 in
set_option maxHeartbeats 1000000 in
theorem wget_any (A : Option Addr) (m c : Nat) (bs : List UInt8) (p : Int) (w : World) (hb : RdB w A m bs) (hm : m ≤ c) (hc : m ≤ 140737488355328) :
    Calls Try.prog 164 #[.slice A m c, .int .i64 p] w (RetW (if p < 0 then ([], 0, 1) else getP bs p.toNat p.toNat 0 []) w) := by
  have hlb := hb.len
  subst hlb
  by_cases hp : p < 0
  · rw [if_pos hp]
    go_enter Try.func164, Try.ntmps164
    go_wp2
    go_ret3
    exact ⟨_, rfl, OwnE.nil _ _ _ _, bl⟩
  · rw [if_neg hp]
    obtain ⟨q, rfl⟩ := Int.eq_ofNat_of_zero_le (show 0 ≤ p by omega)
    rw [Int.toNat_natCast]
    obtain ⟨R, hR⟩ : ∃ R, R = getP bs q q 0 [] := ⟨_, rfl⟩
    rw [← hR]
    have HR := Lib.hid hR
    clear hR
    go_enter Try.func164, Try.ntmps164
    go_wp2
    go_loopw [1, 4, 5, 7, 8, 9, 10, 11, 12] (fun at_ n nx bg sz _ _ _ _ wr => ∃ (a0 b0 x0 : Nat) (ls : List (List UInt8)), at_ = .int .i64 a0 ∧ bg = .int .i64 b0 ∧ nx = .int .i64 x0 ∧ sz = .int .i64 (sizeN ls : Nat) ∧ sizeN ls ≤ 255 ∧ R = getP bs a0 b0 x0 ls ∧
        x0 ≤ bs.length + 2 ∧ OwnS wr w.heap.size n ls ∧ Below w.heap.size w wr) (fun _ _ _ bg sz _ _ _ _ _ => (intOf bg).toNat * 256 + (255 - (intOf sz).toNat))
    case atStart => exact ⟨q, q, 0, [], rfl, rfl, rfl, rfl, by simp [sizeN], HR.out, by omega, OwnE.nil _ _ _ _, bl⟩
    case round =>
      obtain ⟨a0, b0, x0, ls, rfl, rfl, rfl, rfl, hsz, hRe, hx0, hown, hbw⟩ := hrel
      have HRE := Lib.hid hRe
      clear hRe
      have hbr := hb.below hbw
      rcases hca : bs[a0]? with _ | ca
      · have hg1 := Lib.hid (getN_1n hca)
        have hl : bs.length ≤ a0 := List.getElem?_eq_none_iff.1 hca
        have hRv : Hid (R = ([], 0, 3)) := HRE.out.trans (getP_short hl)
        rw [hRv.out]
        clear hca
        go_wp2_with (go_at_call 161; refine (get_any _ _ _ bs _ _ _ hbr hm hc).mono ?_; rintro e w' ⟨he, rfl⟩; rw [hg1.out] at he; subst he)
        go_ret3
        exact ⟨_, rfl, OwnE.nil _ _ _ _, hbw⟩
      · have hg1 := getN_1s hca
        have hl : a0 < bs.length := (List.getElem?_eq_some_iff.1 hca).1
        have HCA := Lib.hid hca
        clear hca
        obtain ⟨k, hk⟩ : ∃ k, k = ca.toNat := ⟨_, rfl⟩
        have hk8 : k < 256 := by rw [hk]; exact ca.toNat_lt
        rw [← hk] at hg1
        have hg1 := Lib.hid hg1
        have HK := Lib.hid hk
        clear hk
        by_cases hk0 : k = 0
        · have hRv : Hid (R = (ls, ((max x0 (a0 + 1) : Nat) : Int), 0)) := HRE.out.trans (getP_end HCA.out (by rw [← HK.out]; exact hk0))
          subst hk0
          by_cases hx1 : x0 < a0 + 1
          · rw [show max x0 (a0 + 1) = a0 + 1 by omega] at hRv
            rw [hRv.out]
            go_wp2_with (go_at_call 161; refine (get_any _ _ _ bs _ _ _ hbr hm hc).mono ?_; rintro e w' ⟨he, rfl⟩; rw [hg1.out] at he; subst he)
            go_ret3
            exact ⟨_, rfl, hown, hbw⟩
          · rw [show max x0 (a0 + 1) = x0 by omega] at hRv
            rw [hRv.out]
            go_wp2_with (go_at_call 161; refine (get_any _ _ _ bs _ _ _ hbr hm hc).mono ?_; rintro e w' ⟨he, rfl⟩; rw [hg1.out] at he; subst he)
            go_ret3
            exact ⟨_, rfl, hown, hbw⟩
        · have e0 : ((k : Int) == 0) = false := by rw [beq_eq_false_iff_ne]; omega
          by_cases hk2 : 192 ≤ k
          · rcases hda : bs[a0 + 1]? with _ | da
            · have hg2 := Lib.hid (getN_2n HCA.out hda)
              have hl2 : bs.length ≤ a0 + 1 := List.getElem?_eq_none_iff.1 hda
              have hRv : Hid (R = ([], 0, 3)) := HRE.out.trans (getP_short2 HCA.out (by rw [← HK.out]; exact hk2) hl2)
              rw [hRv.out]
              clear hda hk0
              go_wp2_with (go_at_call 161; refine (get_any _ _ _ bs _ _ _ hbr hm hc).mono ?_; rintro e w' ⟨he, rfl⟩; first | rw [hg1.out] at he | rw [hg2.out] at he; subst he)
              go_ret3
              exact ⟨_, rfl, OwnE.nil _ _ _ _, hbw⟩
            · have hg2 := getN_2s HCA.out hda
              have hl2 : a0 + 1 < bs.length := (List.getElem?_eq_some_iff.1 hda).1
              have HDA := Lib.hid hda
              obtain ⟨t, ht⟩ : ∃ t, t = ca.toNat * 256 + da.toNat := ⟨_, rfl⟩
              have ht6 : t < 65536 := by have := ca.toNat_lt; have := da.toNat_lt; omega
              rw [← ht] at hg2
              have hg2 := Lib.hid hg2
              have HT := Lib.hid ht
              have hand := and_16383 t (by omega)
              obtain ⟨u, hu⟩ : ∃ u, u = t % 16384 := ⟨_, rfl⟩
              rw [← hu] at hand
              have hu2 : u < 16384 := by omega
              have HU := Lib.hid hu
              clear hda hk0 ht hu
              by_cases hub : u < b0
              · have hRv : Hid (R = getP bs u u (max x0 (a0 + 2)) ls) := HRE.out.trans (by
                  have h := getP_ptr (nx := x0) (ls := ls) (beg := b0) HCA.out (by rw [← HK.out]; exact hk2) HDA.out (by rw [← HT.out, ← HU.out]; exact hub)
                  rw [← HT.out, ← HU.out] at h; exact h)
                by_cases hx1 : x0 < a0 + 2
                · rw [show max x0 (a0 + 2) = a0 + 2 by omega] at hRv
                  go_wp2_with (go_at_call 161; refine (get_any _ _ _ bs _ _ _ hbr hm hc).mono ?_; rintro e w' ⟨he, rfl⟩; first | rw [hg1.out] at he | rw [hg2.out] at he; subst he)
                  go_roundw
                  case rel => exact ⟨u, u, a0 + 2, ls, rfl, rfl, rfl, rfl, hsz, hRv.out, by omega, hown, hbw⟩
                  case measure => simp [intOf]; omega
                · rw [show max x0 (a0 + 2) = x0 by omega] at hRv
                  go_wp2_with (go_at_call 161; refine (get_any _ _ _ bs _ _ _ hbr hm hc).mono ?_; rintro e w' ⟨he, rfl⟩; first | rw [hg1.out] at he | rw [hg2.out] at he; subst he)
                  go_roundw
                  case rel => exact ⟨u, u, x0, ls, rfl, rfl, rfl, rfl, hsz, hRv.out, by omega, hown, hbw⟩
                  case measure => simp [intOf]; omega
              · have hRv : Hid (R = ([], 0, 6)) := HRE.out.trans (getP_loop HCA.out (by rw [← HK.out]; exact hk2) HDA.out (by rw [← HT.out, ← HU.out]; exact hub))
                rw [hRv.out]
                by_cases hx1 : x0 < a0 + 2
                · go_wp2_with (go_at_call 161; refine (get_any _ _ _ bs _ _ _ hbr hm hc).mono ?_; rintro e w' ⟨he, rfl⟩; first | rw [hg1.out] at he | rw [hg2.out] at he; subst he)
                  go_ret3
                  exact ⟨_, rfl, OwnE.nil _ _ _ _, hbw⟩
                · go_wp2_with (go_at_call 161; refine (get_any _ _ _ bs _ _ _ hbr hm hc).mono ?_; rintro e w' ⟨he, rfl⟩; first | rw [hg1.out] at he | rw [hg2.out] at he; subst he)
                  go_ret3
                  exact ⟨_, rfl, OwnE.nil _ _ _ _, hbw⟩
          · by_cases hk3 : 63 < k
            · have hRv : Hid (R = ([], 0, 5)) := HRE.out.trans (getP_name HCA.out (by rw [← HK.out]; exact hk3) (by rw [← HK.out]; omega))
              rw [hRv.out]
              clear hk0
              go_wp2_with (go_at_call 161; refine (get_any _ _ _ bs _ _ _ hbr hm hc).mono ?_; rintro e w' ⟨he, rfl⟩; rw [hg1.out] at he; subst he)
              go_ret3
              exact ⟨_, rfl, OwnE.nil _ _ _ _, hbw⟩
            · by_cases hk4 : bs.length < a0 + 1 + k
              · have hRv : Hid (R = ([], 0, 3)) := HRE.out.trans (getP_cut HCA.out (by rw [← HK.out]; exact hk0) (by rw [← HK.out]; omega) (by rw [← HK.out]; exact hk4))
                rw [hRv.out]
                clear hk0
                go_wp2_with (go_at_call 161; refine (get_any _ _ _ bs _ _ _ hbr hm hc).mono ?_; rintro e w' ⟨he, rfl⟩; rw [hg1.out] at he; subst he)
                go_ret3
                exact ⟨_, rfl, OwnE.nil _ _ _ _, hbw⟩
              · by_cases hk5 : 255 < sizeN ls + 1 + k
                · have hRv : Hid (R = ([], 0, 5)) := HRE.out.trans (getP_long HCA.out (by rw [← HK.out]; exact hk0) (by rw [← HK.out]; omega) (by rw [← HK.out]; omega) (by rw [← HK.out]; exact hk5))
                  rw [hRv.out]
                  clear hk0
                  go_wp2_with (go_at_call 161; refine (get_any _ _ _ bs _ _ _ hbr hm hc).mono ?_; rintro e w' ⟨he, rfl⟩; rw [hg1.out] at he; subst he)
                  go_ret3
                  exact ⟨_, rfl, OwnE.nil _ _ _ _, hbw⟩
                · have hRv : Hid (R = getP bs (a0 + 1 + k) b0 x0 (ls ++ [(bs.drop (a0 + 1)).take k])) := HRE.out.trans (by
                    have h := getP_label (nx := x0) (ls := ls) (beg := b0) HCA.out (by rw [← HK.out]; exact hk0) (by rw [← HK.out]; omega) (by rw [← HK.out]; omega) (by rw [← HK.out]; omega)
                    rw [← HK.out] at h; exact h)
                  have hk1 : 1 ≤ k := by omega
                  clear hk0
                  obtain ⟨b, off, rfl, _⟩ := hb.flat (by omega)
                  have hcut := hbr.cut (i := a0 + 1) (k := k) (by omega)
                  obtain ⟨seg, hseg⟩ : ∃ seg, seg = (bs.drop (a0 + 1)).take k := ⟨_, rfl⟩
                  rw [← hseg] at hcut hRv
                  have hsl : seg.length = k := hcut.len
                  have hcv := conv_str (P := Try.prog) _ _ _ Try.underlying22 Try.underlying5 Try.underlying9 wr (some ⟨b, off + (a0 + 1), none⟩) k (c - (a0 + 1)) seg hcut
                  have hsn := sizeN_snoc ls seg
                  have hll := sizeN_length ls
                  have HSL := Lib.hid hsl
                  have HSN := Lib.hid hsn
                  clear hseg hsl hsn hcut
                  go_wp2_with (first
                    | (go_at_call 161; refine (get_any _ _ _ bs _ _ _ hbr hm hc).mono ?_; rintro e w' ⟨he, rfl⟩; rw [hg1.out] at he; subst he)
                    | ((with_reducible show wpList _ _ _ (⟨some 39, _, _, _, _, _⟩ :: _) _ _); refine wpL_pushS rfl (.tmp 28) (.tmp 38) rfl w.heap.size _ ls rfl hown seg ?hy rfl ?hb hbw.size ?_; rotate_right; intro v2 w2 hown2 hg2 _))
                  case hy => rw [HSL.out]; unfold maxLen; omega
                  case hb => omega
                  go_roundw
                  case rel => exact ⟨a0 + 1 + k, b0, x0, ls ++ [seg], by go_num, rfl, rfl, by rw [HSN.out, HSL.out]; go_num, by rw [HSN.out, HSL.out]; omega, hRv.out, hx0, hown2, hbw.grown hg2 hbw.size (fun j hj => (hown.lt j hj).1)⟩
                  case measure => simp [intOf]; omega
end Go.Proofs.Ytimkdpkhdbiniaa

/- rdata: the reader's parts, whatever the bytes: num, name, bytes. -/
namespace Go.Proofs.Ytimkdpkhdbiniaa
open Go.RowKit
set_option maxRecDepth 100000

def shpV (s : Shp) : Value := .agg #[.int .i64 s.bytes, .bool s.host, .bool s.mail, .bool s.short, .int .i64 s.nums, .int .i64 s.size, .bool s.texts, .bool s.first]
/-- A reader, in its block. -/
def Rdr (w : World) (p : Nat) (v : Value) (pos en : Int) : Prop := w.heap[p]? = some (.cells #[v, .int .i64 pos, .int .i64 en] 213 (0, 0))
section
variable {w w' : World} {p : Nat} {v : Value} {pos en : Int}
theorem Rdr.cells (h : Rdr w p v pos en) : w.cell? ⟨p, 0, none⟩ = some v ∧ w.cell? ⟨p, 1, none⟩ = some (.int .i64 pos) ∧ w.cell? ⟨p, 2, none⟩ = some (.int .i64 en) ∧ ∀ k, w.frozen? ⟨p, k, none⟩ = false :=
  ⟨(cell_of_row _ _ _ _ _ _ h).trans rfl, (cell_of_row _ _ _ _ _ _ h).trans rfl, (cell_of_row _ _ _ _ _ _ h).trans rfl, fun _ => frozen_of_row _ _ _ _ _ h⟩
theorem Rdr.lt (h : Rdr w p v pos en) : p < w.heap.size := (Array.getElem?_eq_some_iff.1 h).1
theorem Rdr.below (h : Rdr w p v pos en) (hb : Below w.heap.size w w') : Rdr w' p v pos en := (hb.block p h.lt).trans h
theorem Rdr.move (h : Rdr w p v pos en) (q : Int) : Rdr (w.setCell ⟨p, 1, none⟩ (.int .i64 q)) p v q en := (heap_setCell_same _ _ _ _ _ _ h).trans rfl
end
/-- The panic with an error. -/
def pnc (x : Int) : List PanicEntry := [{ v := .iface 34 (.int .i64 x), recovered := false }]
/-- A reader's call: it says what the plain law says, or gives up with its error. -/
def RdX {α : Type} (r : Except Int (α × Nat)) (good : Value → World → α → Prop) (w : World) (p : Nat) (bv : Value) (en : Nat) (e : Ending) (w' : World) : Prop :=
  match r with
  | .ok (a, q) => ∃ v, e = .returned v ∧ good v w' a ∧ Rdr w' p bv (q : Int) (en : Int) ∧ Chg (fun k => k = p) w w'
  | .error x => e = .panicked (pnc x) ∧ Chg (fun k => k = p) w w'
/-- The bytes do not lie in the reader's block. -/
def offA (A : Option Addr) (p : Nat) : Prop := ∀ b off, A = some ⟨b, off, none⟩ → b ≠ p
theorem RdB.chgP {w w' : World} {A : Option Addr} {n p : Nat} {bs : List UInt8} (h : RdB w A n bs) (hc : Chg (fun k => k = p) w w') (ho : offA A p) : RdB w' A n bs := h.chg hc fun b off e e2 => ho b off e e2

set_option maxHeartbeats 1000000 in
theorem gnum_any (w : World) (p : Nat) (A : Option Addr) (n c pos en size : Nat) (bs : List UInt8) (h : Rdr w p (.slice A n c) (pos : Int) (en : Int)) (hr : RdB w A n bs) (hpe : pos ≤ en) (hen : en ≤ n) (hn : n ≤ c) (hn2 : n ≤ 100000000) (hs1 : 1 ≤ size) (hs7 : size ≤ 7) :
    Calls Try.prog 204 #[.pointer (some ⟨p, 0, none⟩), .int .i64 (size : Int)] w (RdX (numR bs pos en size) (fun v _ a => v = .int .i64 (a : Int)) w p (.slice A n c) en) := by
  obtain ⟨c0, c1, c2, f0⟩ := h.cells
  have H := Lib.hid h
  have hl := hr.len
  have hg := numR_get (b := bs) hs1 hs7 hpe (by omega)
  have HR := Lib.hid (hr.take hen)
  clear h hr
  have hi1 : (0 : Int) ≤ en := by omega
  have hi2 : (en : Int) ≤ c := by omega
  cases hx : numR bs pos en size with
  | error x =>
    rw [hx] at hg
    obtain ⟨rfl, _⟩ := numR_err hx
    have HG := Lib.hid hg
    clear hg hx
    go_enter Try.func204, Try.ntmps204
    go_wp2
    go_region_held3 (fun w' => w'.cell? ⟨p, 0, none⟩ = some (.slice A n c) ∧ w'.cell? ⟨p, 1, none⟩ = some (.int .i64 (pos : Int)) ∧ w'.cell? ⟨p, 2, none⟩ = some (.int .i64 (en : Int)))
      (first
        | with_reducible exact ⟨c0, c1, c2⟩
        | with_reducible exact ⟨below_cell bl.drew c0, below_cell bl.drew c1, below_cell bl.drew c2⟩
        | with_reducible exact ⟨y0, y1, y2⟩
        | fail)
      (first
        | (go_at_call 161; refine (get_any A en c (bs.take en) (pos : Int) (size : Int) w.drew (HR.out.below bl.drew) (by omega) (by omega)).mono ?_; rw [HG.out]; rintro e w2 ⟨rfl, rfl⟩)
        | fail)
    go_wp2
    exact ⟨rfl, rfl, (Chg.refl (fun k => k = p) w).drew⟩
  | ok r =>
    obtain ⟨m, q⟩ := r
    rw [hx] at hg
    obtain ⟨rfl, hq⟩ := numR_le hx
    have HG := Lib.hid hg
    clear hg hx
    go_enter Try.func204, Try.ntmps204
    go_wp2
    go_region_held3 (fun w' => w'.cell? ⟨p, 0, none⟩ = some (.slice A n c) ∧ w'.cell? ⟨p, 1, none⟩ = some (.int .i64 (pos : Int)) ∧ w'.cell? ⟨p, 2, none⟩ = some (.int .i64 (en : Int)))
      (first
        | with_reducible exact ⟨c0, c1, c2⟩
        | with_reducible exact ⟨below_cell bl.drew c0, below_cell bl.drew c1, below_cell bl.drew c2⟩
        | with_reducible exact ⟨y0, y1, y2⟩
        | fail)
      (first
        | (go_at_call 161; refine (get_any A en c (bs.take en) (pos : Int) (size : Int) w.drew (HR.out.below bl.drew) (by omega) (by omega)).mono ?_; rw [HG.out]; rintro e w2 ⟨rfl, rfl⟩)
        | fail)
    go_wp2
    go_ret
    rw [show ((pos : Int) + size) = ((pos + size : Nat) : Int) by omega]
    exact ⟨_, rfl, rfl, (H.out.below bl.drew).move _, (Chg.refl (fun k => k = p) w).drew.setCell (p := ⟨p, 1, none⟩) (Or.inl rfl) _⟩
end Go.Proofs.Ytimkdpkhdbiniaa

/- rdata: the reader's parts, whatever the bytes: name, bytes. -/
namespace Go.Proofs.Ytimkdpkhdbiniaa
open Go.RowKit
set_option maxRecDepth 100000

theorem own_noP {w0 w : World} {v : Value} {ns : List (List UInt8)} {p : Nat} (h : OwnS w w0.heap.size v ns) (hp : p < w0.heap.size) : ∀ z, v.ownBlock = some z → ¬ z = p := fun z hz e => by have := (OwnE.lt h z hz).1; omega

set_option maxHeartbeats 1000000 in
theorem gname_any (w : World) (p : Nat) (A : Option Addr) (n c pos en : Nat) (bs : List UInt8) (h : Rdr w p (.slice A n c) (pos : Int) (en : Int)) (hr : RdB w A n bs) (hn : n ≤ c) (hn2 : n ≤ 100000000) :
    Calls Try.prog 203 #[.pointer (some ⟨p, 0, none⟩)] w (RdX (nameX bs pos en) (fun v w' a => OwnS w' w.heap.size v a) w p (.slice A n c) en) := by
  obtain ⟨c0, c1, c2, f0⟩ := h.cells
  have H := Lib.hid h
  have HR := Lib.hid hr
  have hpl := h.lt
  have hwg : ∀ w1 : World, RdB w1 A n bs → Calls Try.prog 164 #[.slice A n c, .int .i64 (pos : Int)] w1 (RetW (getP bs pos pos 0 []) w1) := fun w1 h1 => by
    have := wget_any A n c bs (pos : Int) w1 h1 hn (by omega)
    rwa [if_neg (by omega), Int.toNat_natCast] at this
  have HW := Lib.hid hwg
  clear h hr hwg
  unfold nameX
  have hnn := getP_nn bs pos pos 0 []
  obtain ⟨⟨ls, nx', er⟩, hg⟩ : ∃ g, g = getP bs pos pos 0 [] := ⟨_, rfl⟩
  rw [← hg] at HW hnn ⊢
  clear hg
  simp only at hnn ⊢
  by_cases he : er = 0
  · subst he
    rw [if_pos rfl]
    by_cases hlt : en < nx'.toNat
    · have h1 : (en : Int) < nx' := by omega
      rw [if_pos hlt]
      go_enter Try.func203, Try.ntmps203
      go_wp2
      go_region_held3 (fun w' => w'.cell? ⟨p, 0, none⟩ = some (.slice A n c) ∧ w'.cell? ⟨p, 1, none⟩ = some (.int .i64 (pos : Int)))
        (first
          | with_reducible exact ⟨c0, c1⟩
          | with_reducible exact ⟨below_cell bl.drew c0, below_cell bl.drew c1⟩
          | with_reducible exact ⟨y0, y1⟩
          | fail)
        (first
          | (go_at_call 164; refine (HW.out w.drew (HR.out.below bl.drew)).mono ?_; rintro e w2 ⟨v2, rfl, hown2, hb2'⟩; have hb2 : Below w.heap.size w w2 := bl.drew.trans hb2'; have y0 := below_cell hb2 c0; have y1 := below_cell hb2 c1)
          | fail)
      have z2 := below_cell hb2 c2
      go_wp2
      exact ⟨rfl, rfl, Chg.of_below hb2⟩
    · rw [if_neg hlt]
      · obtain ⟨q, rfl⟩ := Int.eq_ofNat_of_zero_le hnn
        rw [Int.toNat_natCast] at hlt ⊢
        have h1 : ¬ (en : Int) < (q : Int) := by omega
        go_enter Try.func203, Try.ntmps203
        go_wp2
        go_region_held3 (fun w' => w'.cell? ⟨p, 0, none⟩ = some (.slice A n c) ∧ w'.cell? ⟨p, 1, none⟩ = some (.int .i64 (pos : Int)))
          (first
            | with_reducible exact ⟨c0, c1⟩
            | with_reducible exact ⟨below_cell bl.drew c0, below_cell bl.drew c1⟩
            | with_reducible exact ⟨y0, y1⟩
            | fail)
          (first
            | (go_at_call 164; refine (HW.out w.drew (HR.out.below bl.drew)).mono ?_; rintro e w2 ⟨v2, rfl, hown2, hb2'⟩; have hb2 : Below w.heap.size w w2 := bl.drew.trans hb2'; have y0 := below_cell hb2 c0; have y1 := below_cell hb2 c1)
            | fail)
        have z2 := below_cell hb2 c2
        have fz := (H.out.below hb2).cells.2.2.2
        have hch : Chg (fun k => k = p) w2 (w2.setCell ⟨p, 1, none⟩ (.int .i64 (q : Int))) := chg_g1 _ _ _ _
        go_wp2
        go_ret
        exact ⟨_, rfl, OwnE.chg hown2 hch (own_noP (w0 := w) hown2 hpl) (fun _ hz => hz.elim), (H.out.below hb2).move _, (Chg.of_below (F := fun k => k = p) hb2).trans hch (fun _ h => .inl h)⟩
  · rw [if_neg he]
    go_enter Try.func203, Try.ntmps203
    go_wp2
    go_region_held3 (fun w' => w'.cell? ⟨p, 0, none⟩ = some (.slice A n c) ∧ w'.cell? ⟨p, 1, none⟩ = some (.int .i64 (pos : Int)))
      (first
        | with_reducible exact ⟨c0, c1⟩
        | with_reducible exact ⟨below_cell bl.drew c0, below_cell bl.drew c1⟩
        | with_reducible exact ⟨y0, y1⟩
        | fail)
      (first
        | (go_at_call 164; refine (HW.out w.drew (HR.out.below bl.drew)).mono ?_; rintro e w2 ⟨v2, rfl, hown2, hb2'⟩; have hb2 : Below w.heap.size w w2 := bl.drew.trans hb2'; have y0 := below_cell hb2 c0; have y1 := below_cell hb2 c1)
        | fail)
    have z2 := below_cell hb2 c2
    go_wp2
    exact ⟨rfl, rfl, Chg.of_below hb2⟩
end Go.Proofs.Ytimkdpkhdbiniaa

/- rdata: the reader's bytes, whatever they are. -/
namespace Go.Proofs.Ytimkdpkhdbiniaa
open Go.RowKit
set_option maxRecDepth 100000

theorem cutA {w : World} {A : Option Addr} {n c i k : Nat} {bs : List UInt8} (h : RdB w A n bs) (hk : i + k ≤ n) (hc : n ≤ c) : RdB w (if c = i then A else A.map (·.add i)) k ((bs.drop i).take k) := by
  by_cases h0 : k = 0
  · subst h0
    rw [List.take_zero]
    exact Rd.nil _ _ _
  · rw [if_neg (by omega)]
    have hl := h.len
    obtain ⟨b, off, rfl, hcell⟩ := h.2 (by simp; omega)
    rw [Option.map_some, add_flat]
    exact h.cut hk

set_option maxHeartbeats 1000000 in
theorem gbytes_any (w : World) (p : Nat) (A : Option Addr) (n c pos en m : Nat) (bs : List UInt8) (h : Rdr w p (.slice A n c) (pos : Int) (en : Int)) (hr : RdB w A n bs) (ho : offA A p) (hpe : pos ≤ en) (hen : en ≤ n) (hn : n ≤ c) (hc : c ≤ 9223372036854775807) (hn2 : n ≤ 100000000) (hm : m ≤ 100000000) :
    Calls Try.prog 200 #[.pointer (some ⟨p, 0, none⟩), .int .i64 (m : Int)] w (RdX (bytesR bs pos en m) (fun v w' a => OwnB w' w.heap.size v a) w p (.slice A n c) en) := by
  obtain ⟨c0, c1, c2, f0⟩ := h.cells
  have H := Lib.hid h
  have hpl := h.lt
  unfold bytesR
  by_cases hlt : en < pos + m
  · rw [if_pos hlt]
    have h1 : (en : Int) - pos < m := by omega
    go_enter Try.func200, Try.ntmps200
    go_wp2
    go_quiet (fail)
    go_wp2
    exact ⟨rfl, rfl, (Chg.refl (fun k => k = p) w).drewN nq⟩
  · rw [if_neg hlt]
    have h1 : ¬ ((en : Int) - pos < m) := by omega
    go_enter Try.func200, Try.ntmps200
    go_wp2
    go_quiet (fail)
    go_wp2
    obtain ⟨w1, hw1⟩ : ∃ w1, w1 = (w.drewN nq).setCell ⟨p, 1, none⟩ (.int .i64 ((pos + m : Nat) : Int)) := ⟨_, rfl⟩
    have H1 : Hid (Rdr w1 p (.slice A n c) ((pos + m : Nat) : Int) en) := by
      show Rdr _ _ _ _ _
      rw [hw1]
      exact (h.below (dN bl nq)).move _
    have hch : Chg (fun k => k = p) w w1 := by rw [hw1]; exact ((Chg.refl (fun k => k = p) w).drewN nq).setCell (p := ⟨p, 1, none⟩) (Or.inl rfl) _
    have hr1 := RdB.chgP hr hch ho
    rw [show ((pos : Int) + m) = ((pos + m : Nat) : Int) by omega, ← hw1]
    clear hw1
    have HC := Lib.hid (cutA (i := pos) (k := m) (c := c) hr1 (by omega) hn)
    clear hr1 c0 c1 c2 f0 h hr
    obtain ⟨c0, c1, c2, f0⟩ := H1.out.cells
    rw [show ((pos + m : Nat) : Int) = (pos : Int) + m by omega] at c1
    have hwp : IntKind.i64.wrap (pos : Int) = pos := by rw [IntKind.wrap_i64]; omega
    have hs1 : (0 : Int) ≤ pos := by omega
    have hs2 : (pos : Int) ≤ (pos : Int) + m := by omega
    have hs3 : ((pos : Int) + m) ≤ c := by omega
    obtain ⟨A2, hA2⟩ : ∃ A2 : Option Addr, A2 = if c = pos then A else A.map (·.add pos) := ⟨_, rfl⟩
    have HA2 := Lib.hid hA2
    rw [← hA2] at HC
    clear hA2
    go_region_held3 (fun w' => w'.cell? ⟨p, 0, none⟩ = some (.slice A n c) ∧ w'.cell? ⟨p, 1, none⟩ = some (.int .i64 ((pos : Int) + m)))
      (first
        | with_reducible exact ⟨c0, c1⟩
        | with_reducible exact ⟨below_cell bl.drew c0, below_cell bl.drew c1⟩
        | with_reducible exact ⟨y0, y1⟩
        | fail)
      (first
        | (go_at_call 152; rw [← HA2.out, show ((pos : Int) + m).toNat - pos = m by omega]; refine (sclone_any A2 m _ _ w1.drew (HC.out.below bl.drew) (by omega)).mono ?_; rintro e w2 ⟨v2, rfl, hown2, hb2'⟩; have hb2 : Below w1.heap.size w1 w2 := bl.drew.trans hb2'; have y0 := below_cell hb2 c0; have y1 := below_cell hb2 c1)
        | fail)
    go_wp2
    go_ret
    exact ⟨_, rfl, hown2.mono (by have := hch.size; show w.heap.size ≤ w1.heap.size; omega), H1.out.below hb2, hch.nx hb2⟩
end Go.Proofs.Ytimkdpkhdbiniaa

/- Slices of numbers of the call's own. -/
namespace Go.Proofs.Ytimkdpkhdbiniaa
open Go.RowKit

theorem elN : ElT Try.prog 44 3 encI 8 := ElT.mk Try.underlying44 (.int .i64 0) 1 (by kernel_rfl) rfl rfl
def OwnI (w : World) (base : Nat) (v : Value) (l : List Int) : Prop := OwnE encI 3 noS w base v l
theorem OwnI.nil (w : World) (base : Nat) : OwnI w base (.slice none 0 0) [] := OwnE.nil _ _ _ _
theorem orS_noS : orS noS noS = noS := by funext b; simp [orS, noS]
/-- append(s, n): one number. -/
theorem wpL_pushI {w : World} {ops : Array Oper} {rest : List Oper} {o : Oper} {a : Act} {Q : Exit → Act → World → Prop} (hgd : Region.wanted o (yielded ops a.tmps) = true) (s x : Operand)
    (ho : o.op = .call { callee := .builtin .append, args := #[s, x], argTypes := #[44, 44] })
    (base : Nat) (v : Value) (xs : List Int) (hs : a.eval s = v) (hown : OwnI w base v xs) (y : Int) (hy : -9223372036854775808 ≤ y ∧ y ≤ 9223372036854775807)
    {g : Nat} (hx : a.eval x = .slice (some ⟨g, 0, none⟩) 1 1) (hb : xs.length + 1 ≤ 8796093022208) (hbase : base ≤ w.heap.size)
    (h : ∀ v' w', OwnI w' base v' (xs ++ [y]) → w.grownBy w' v.ownBlock → (v'.ownBlock = v.ownBlock ∨ v'.ownBlock = some (w.heap.size + 1)) → wpList Try.prog ops Q rest (a.put o.dst v') w') (hgs : g = w.heap.size := by simp) :
    wpList Try.prog ops Q (o :: rest) a (w.alloc (.cells #[.int .i64 y] 3)) := by
  refine wpL_pushE (S' := noS) elN hgd s x ho base v xs hs hown [.int .i64 y] y ⟨rfl, hy⟩ (fun b hb => hb.elim) hx (by omega) (by unfold maxLen; omega) hbase (fun v' w' h1 h2 h3 => h v' w' ?_ h2 h3) hgs
  rw [orS_noS] at h1
  exact h1
end Go.Proofs.Ytimkdpkhdbiniaa

/- rdata: the reader's numbers. -/
namespace Go.Proofs.Ytimkdpkhdbiniaa
open Go.RowKit
set_option maxRecDepth 100000

def lenOf : Value → Nat
  | .slice _ n _ => n
  | _ => 0
theorem val_i64 {l : List UInt8} (h : l.length ≤ 7) : -9223372036854775808 ≤ (val l : Int) ∧ (val l : Int) ≤ 9223372036854775807 := by
  have := val_lt l
  have h2 : 256 ^ l.length ≤ 256 ^ 7 := Nat.pow_le_pow_right (by decide) h
  have h3 : (256 : Nat) ^ 7 = 72057594037927936 := by decide
  omega
theorem numR_i64 {b : List UInt8} {pos en size n q : Nat} (h7 : size ≤ 7) (h : numR b pos en size = .ok (n, q)) : -9223372036854775808 ≤ (n : Int) ∧ (n : Int) ≤ 9223372036854775807 := by
  unfold numR at h
  split at h
  · cases h
  · injection h with h
    injection h with h1 h2
    rw [← h1]
    exact val_i64 (by rw [List.length_take]; omega)

set_option maxHeartbeats 2000000 in
theorem gnums_any (w : World) (p : Nat) (A : Option Addr) (n c pos en k z : Nat) (bs : List UInt8) (s : Shp) (hk : s.nums = (k : Int)) (hz : s.size = (z : Int)) (h : Rdr w p (.slice A n c) (pos : Int) (en : Int)) (hr : RdB w A n bs) (ho : offA A p) (hpe : pos ≤ en) (hen : en ≤ n) (hn : n ≤ c) (hn2 : n ≤ 100000000) (hkk : k ≤ 5) (hz1 : 0 < k → 1 ≤ z) (hz7 : z ≤ 7) :
    Calls Try.prog 202 #[.pointer (some ⟨p, 0, none⟩), shpV s] w (RdX (numsR bs en z k pos []) (fun v w' a => OwnI w' w.heap.size v a) w p (.slice A n c) en) := by
  have hpl := h.lt
  unfold shpV
  rw [hk, hz]
  obtain ⟨w0, hw0⟩ : ∃ w0, w0 = w.alloc (.cells #[.int .i64 s.bytes, .bool s.host, .bool s.mail, .bool s.short, .int .i64 (k : Int), .int .i64 (z : Int), .bool s.texts, .bool s.first] 182) := ⟨_, rfl⟩
  have hb0 : Below w.heap.size w w0 := by rw [hw0]; exact bl.alloc (Nat.le_refl _) _
  have hs0 : Hid (w0.heap[w.heap.size]? = some (.cells #[.int .i64 s.bytes, .bool s.host, .bool s.mail, .bool s.short, .int .i64 (k : Int), .int .i64 (z : Int), .bool s.texts, .bool s.first] 182 (0, 0))) := by show _ = _; rw [hw0]; exact heap_alloc_new w _
  have H := Lib.hid (h.below hb0)
  have HR := Lib.hid (hr.below hb0)
  have x4 : w0.cell? ⟨w.heap.size, 4, none⟩ = some (.int .i64 (k : Int)) := (cell_of_row _ _ _ _ _ _ hs0.out).trans rfl
  have hsz : Hid (w0.heap.size = w.heap.size + 1) := by show _ = _; rw [hw0]; simp
  clear h hr
  go_enter Try.func202, Try.ntmps202
  go_upto_region 1 with (fail)
  rw [← hw0]
  clear hw0
  go_wp2
  go_loopw [5, 8] (fun ov iv wr => ∃ (j q : Nat) (acc : List Int) (A' : Option Addr) (c' : Nat), ov = .slice A' acc.length c' ∧ iv = .int .i64 (j : Int) ∧ j ≤ k ∧ acc.length = j ∧ Hid (OwnI wr w0.heap.size (.slice A' acc.length c') acc) ∧ Hid (Rdr wr p (.slice A n c) (q : Int) (en : Int)) ∧ q ≤ en ∧ Hid (Chg (fun x => x = p) w0 wr) ∧ Hid (numsR bs en z k pos [] = numsR bs en z (k - j) q acc)) (fun _ iv _ => k - (intOf iv).toNat)
  case atStart => exact ⟨0, pos, [], none, 0, rfl, rfl, Nat.zero_le _, rfl, OwnI.nil _ _, H, hpe, Chg.refl _ _, rfl⟩
  case round =>
    clear H x4
    obtain ⟨j, q, acc, A', c', rfl, rfl, hj, hal, HO, HP, hq, HC, HE⟩ := hrel
    have hs1 := HC.out.heap hs0.out (by omega)
    have x4 : wr.cell? ⟨w.heap.size, 4, none⟩ = some (.int .i64 (k : Int)) := (cell_of_row _ _ _ _ _ _ hs1).trans rfl
    have x5 : wr.cell? ⟨w.heap.size, 5, none⟩ = some (.int .i64 (z : Int)) := (cell_of_row _ _ _ _ _ _ hs1).trans rfl
    by_cases hlt : j < k
    · have HR1 := Lib.hid (RdB.chgP HR.out HC.out ho)
      have hkj : k - j = (k - (j + 1)) + 1 := by omega
      have he := HE.out
      rw [hkj, numsR] at he
      cases hx : numR bs q en z with
      | error x =>
        rw [hx] at he
        simp only at he
        have HEE := Lib.hid he
        have HX := Lib.hid hx
        clear hx he hs1
        go_wp2_with (first
          | (go_at_call 204; refine (gnum_any wr p A n c q en z bs HP.out HR1.out hq hen hn hn2 (hz1 (by omega)) hz7).mono ?_; rw [HX.out]; rintro e w2 ⟨rfl, hc2⟩)
          | fail)
        refine ⟨rfl, ?_⟩
        rw [HEE.out]
        exact ⟨rfl, (Chg.of_below (F := fun x => x = p) hb0).trans (HC.out.trans hc2 (fun _ h => .inl h)) (fun _ h => .inl h)⟩
      | ok r =>
        obtain ⟨m, q2⟩ := r
        rw [hx] at he
        simp only at he
        have hm := numR_i64 hz7 hx
        have hq2 := (numR_le hx).2
        have HX := Lib.hid hx
        have HE2 := Lib.hid he
        have hno : ∀ x, (Value.slice A' acc.length c').ownBlock = some x → ¬ x = p := fun x hx e => by have := (OwnE.lt HO.out x hx).1; have := hsz.out; omega
        clear hx he hs1
        have hal5 : acc.length + 1 ≤ 8796093022208 := by omega
        have HAL := Lib.hid hal
        clear hal
        go_wp2_with (first
          | ((with_reducible show wpList _ _ _ (⟨some 16, _, _, _, _, _⟩ :: _) _ _); refine wpL_pushI rfl (.tmp 10) (.tmp 15) rfl w0.heap.size (.slice A' acc.length c') acc rfl HO2.out _ hm rfl hal5 HSZ.out ?_; intro v5 w5 hown5 hg5 hv5; obtain ⟨A5, c5, rfl, _⟩ := OwnE.form hown5)
          | (go_at_call 204; refine (gnum_any wr p A n c q en z bs HP.out HR1.out hq hen hn hn2 (hz1 (by omega)) hz7).mono ?_; rw [HX.out]; rintro e w2 ⟨v2, rfl, rfl, hp2, hc2⟩; have HP2 := Lib.hid hp2; have HC2 := Lib.hid hc2; have HO2 := Lib.hid (OwnE.chg HO.out hc2 hno (fun _ hz => hz.elim)); have HSZ := Lib.hid (show w0.heap.size ≤ w2.heap.size from Nat.le_trans HC.out.size hc2.size); clear hp2 hc2)
          | fail)
        have hge : ∀ x, (Value.slice A' acc.length c').ownBlock = some x → w0.heap.size ≤ x := fun x hx => (OwnE.lt HO.out x hx).1
        have hp5 : Rdr w5 p (.slice A n c) (q2 : Int) en := (hg5.block p HP2.out.lt (fun e => by have := hge p e.symm; have := hsz.out; omega)).trans HP2.out
        have hc5 : Chg (fun x => x = p) w0 w5 := (HC.out.trans HC2.out (fun _ h => .inl h)).grown hg5 (fun x hx => .inr (hge x hx))
        have hl5 : (acc ++ [(m : Int)]).length = j + 1 := by rw [List.length_append, HAL.out]; rfl
        go_roundw
        case rel => exact ⟨j + 1, q2, acc ++ [(m : Int)], A5, c5, by rw [List.length_append]; rfl, by go_num, by omega, hl5, hown5, hp5, hq2, hc5, HE2.out⟩
        case measure => simp [intOf]; omega
    · obtain rfl : j = k := by omega
      have he := HE.out
      rw [Nat.sub_self, numsR] at he
      have HEE := Lib.hid he
      clear he
      go_wp2
      go_ret
      rw [HEE.out]
      exact ⟨_, rfl, OwnE.base_le HO.out (by have := hsz.out; omega), HP.out, (Chg.of_below (F := fun x => x = p) hb0).trans HC.out (fun _ h => .inl h)⟩
end Go.Proofs.Ytimkdpkhdbiniaa

/- rdata: the reader's texts. -/
namespace Go.Proofs.Ytimkdpkhdbiniaa
open Go.RowKit
set_option maxRecDepth 100000

theorem numR_byte {b : List UInt8} {pos en n q : Nat} (h : numR b pos en 1 = .ok (n, q)) : n ≤ 1000000 := by
  unfold numR at h
  split at h
  · cases h
  · injection h with h
    injection h with h1 h2
    have h3 := val_lt ((b.drop pos).take 1)
    have h4 : ((b.drop pos).take 1).length ≤ 1 := by rw [List.length_take]; omega
    have h5 : 256 ^ ((b.drop pos).take 1).length ≤ 256 ^ 1 := Nat.pow_le_pow_right (by decide) h4
    have h6 : (256 : Nat) ^ 1 = 256 := by decide
    omega
theorem bytesR_len {b l : List UInt8} {pos en n q : Nat} (h : bytesR b pos en n = .ok (l, q)) : l.length ≤ n := by
  unfold bytesR at h
  split at h
  · cases h
  · injection h with h
    injection h with h1 h2
    rw [← h1, List.length_take]
    omega

theorem textsR_more {b : List UInt8} {en k q : Nat} {acc : List (List UInt8)} (h : q < en) : textsR b en (k + 1) q acc = (match numR b q en 1 with
      | .error e => .error e
      | .ok (n, r) => match bytesR b r en n with
        | .error e => .error e
        | .ok (t, r2) => textsR b en k r2 (acc ++ [t])) := by rw [textsR, if_pos h] <;> rfl

set_option maxHeartbeats 2000000 in
theorem gtexts_any (w : World) (p : Nat) (A : Option Addr) (n c pos en : Nat) (bs : List UInt8) (h : Rdr w p (.slice A n c) (pos : Int) (en : Int)) (hr : RdB w A n bs) (ho : offA A p) (hpe : pos ≤ en) (hen : en ≤ n) (hn : n ≤ c) (hc : c ≤ 9223372036854775807) (hn2 : n ≤ 100000000) :
    Calls Try.prog 201 #[.pointer (some ⟨p, 0, none⟩)] w (RdX (textsR bs en 64 pos []) (fun v w' a => OwnS w' w.heap.size v a) w p (.slice A n c) en) := by
  have hpl := h.lt
  have H := Lib.hid h
  have HR := Lib.hid hr
  clear h hr
  go_enter Try.func201, Try.ntmps201
  go_wp2
  go_loopw [3] (fun ov wr => ∃ (a k q : Nat) (acc : List (List UInt8)) (A' : Option Addr) (c' : Nat), ov = .slice A' a c' ∧ a + k = 64 ∧ Hid (acc.length = a) ∧ Hid (OwnS wr w.heap.size (.slice A' a c') acc) ∧ Hid (Rdr wr p (.slice A n c) (q : Int) (en : Int)) ∧ q ≤ en ∧ Hid (Chg (fun x => x = p) w wr) ∧ Hid (textsR bs en 64 pos [] = textsR bs en k q acc)) (fun ov _ => 64 - lenOf ov)
  case atStart => exact ⟨0, 64, pos, [], none, 0, rfl, rfl, rfl, OwnS.nil _ _, H, hpe, Chg.refl _ _, rfl⟩
  case round =>
    clear H
    obtain ⟨a, k, q, acc, A', c', rfl, hak, HAL, HO, HP, hq, HC, HE⟩ := hrel
    obtain ⟨c0, c1, c2, f0⟩ := HP.out.cells
    by_cases hlt : q < en
    · rcases k with _ | k
      · have he := HE.out
        rw [textsR, if_pos hlt] at he
        have HEE := Lib.hid he
        clear he
        have ha : a = 64 := by omega
        subst ha
        go_wp2
        go_quiet (fail)
        go_wp2
        refine ⟨rfl, ?_⟩
        rw [HEE.out]
        exact ⟨rfl, HC.out.drewN nq⟩
      · have ha64 : ¬ a = 64 := by omega
        have he := HE.out.trans (textsR_more hlt)
        have HR1 := Lib.hid (RdB.chgP HR.out HC.out ho)
        cases hx : numR bs q en 1 with
        | error x =>
          rw [hx] at he
          simp only at he
          have HEE := Lib.hid he
          have HX := Lib.hid hx
          clear hx he
          go_wp2
          go_quiet (fail)
          go_wp2_with (first
            | (go_at_call 204; refine (gnum_any (wr.drewN nq) p A n c q en 1 bs (HP.out.below (dN bl nq)) (HR1.out.below (dN bl nq)) hq hen hn hn2 (by omega) (by omega)).mono ?_; rw [HX.out]; rintro e w2 ⟨rfl, hc2⟩)
            | fail)
          refine ⟨rfl, ?_⟩
          rw [HEE.out]
          exact ⟨rfl, (HC.out.drewN nq).trans hc2 (fun _ h => .inl h)⟩
        | ok r =>
          obtain ⟨m, q2⟩ := r
          rw [hx] at he
          simp only at he
          have hm := numR_byte hx
          have hq2 := (numR_le hx).2
          have HX := Lib.hid hx
          have hno : ∀ {wz : World} {v : Value} {ns : List (List UInt8)}, OwnS wz w.heap.size v ns → ∀ z, v.ownBlock = some z → ¬ z = p := fun h z hz e => by have := (OwnE.lt h z hz).1; omega
          clear hx
          cases hy : bytesR bs q2 en m with
          | error x =>
            rw [hy] at he
            simp only at he
            have HEE := Lib.hid he
            have HY := Lib.hid hy
            clear hy he
            go_wp2
            go_quiet (fail)
            go_wp2_with (first
              | (go_at_call 200; refine (gbytes_any w2 p A n c q2 en m bs HP2.out (RdB.chgP HR1.out HC2.out ho) ho hq2 hen hn hc hn2 (by omega)).mono ?_; rw [HY.out]; rintro e w3 ⟨rfl, hc3⟩)
              | (go_at_call 204; refine (gnum_any (wr.drewN nq) p A n c q en 1 bs (HP.out.below (dN bl nq)) (HR1.out.below (dN bl nq)) hq hen hn hn2 (by omega) (by omega)).mono ?_; rw [HX.out]; rintro e w2 ⟨v2, rfl, rfl, hp2, hc2⟩; have HP2 := Lib.hid hp2; have HC2 := Lib.hid (((Chg.refl (fun z => z = p) wr).drewN nq).trans hc2 (fun _ h => .inl h)); clear hp2 hc2)
              | fail)
            refine ⟨rfl, ?_⟩
            rw [HEE.out]
            exact ⟨rfl, (HC.out.trans HC2.out (fun _ h => .inl h)).trans hc3 (fun _ h => .inl h)⟩
          | ok r2 =>
            obtain ⟨t, q3⟩ := r2
            rw [hy] at he
            simp only at he
            have htl := bytesR_len hy
            have hq3 := (bytesR_le hy).2
            have HY := Lib.hid hy
            have HE2 := Lib.hid he
            clear hy he
            go_wp2
            go_quiet (fail)
            go_wp2_with (first
              | ((with_reducible show wpList _ _ _ (⟨some 24, _, _, _, _, _⟩ :: _) _ _); refine wpL_pushS rfl (.tmp 17) (.tmp 23) rfl w.heap.size (.slice A' a c') acc rfl HO3.out t (by unfold maxLen; omega) rfl (by rw [HAL.out]; omega) HSZ.out ?_; intro v5 w5 hown5 hg5 hv5; obtain ⟨A5, c5, rfl, _⟩ := OwnE.form hown5)
              | (go_at_call 200; refine (gbytes_any w2 p A n c q2 en m bs HP2.out (RdB.chgP HR1.out HC2.out ho) ho hq2 hen hn hc hn2 (by omega)).mono ?_; rw [HY.out]; rintro e w3 ⟨v3, rfl, hown3, hp3, hc3⟩; have HP3 := Lib.hid hp3; have HC3 := Lib.hid hc3; have HO3 := Lib.hid (OwnE.chg HO2.out hc3 (hno HO2.out) (fun _ hz => hz.elim)); have HSZ := Lib.hid (show w.heap.size ≤ w3.heap.size from Nat.le_trans (Nat.le_trans HC.out.size HC2.out.size) hc3.size); obtain ⟨A3, c3, rfl, hr3, _⟩ := hown3.form; have hcv := conv_str (P := Try.prog) _ _ _ Try.underlying22 Try.underlying5 Try.underlying9 w3 A3 t.length c3 t hr3; clear hc3 hp3 hown3 hr3)
              | (go_at_call 204; refine (gnum_any (wr.drewN nq) p A n c q en 1 bs (HP.out.below (dN bl nq)) (HR1.out.below (dN bl nq)) hq hen hn hn2 (by omega) (by omega)).mono ?_; rw [HX.out]; rintro e w2 ⟨v2, rfl, rfl, hp2, hc2⟩; have HP2 := Lib.hid hp2; have HC2 := Lib.hid (((Chg.refl (fun z => z = p) wr).drewN nq).trans hc2 (fun _ h => .inl h)); have HO2 := Lib.hid (OwnE.chg HO.out HC2.out (hno HO.out) (fun _ hz => hz.elim)); clear hp2 hc2)
              | fail)
            have hge : ∀ z, (Value.slice A' a c').ownBlock = some z → w.heap.size ≤ z := fun z hz => (OwnE.lt HO.out z hz).1
            have hp5 : Rdr w5 p (.slice A n c) (q3 : Int) en := (hg5.block p HP3.out.lt (fun e => by have := hge p e.symm; omega)).trans HP3.out
            have hc5 : Chg (fun z => z = p) w w5 := ((HC.out.trans HC2.out (fun _ h => .inl h)).trans HC3.out (fun _ h => .inl h)).grown hg5 (fun z hz => .inr (hge z hz))
            have hl5 : (acc ++ [t]).length = a + 1 := by rw [List.length_append, HAL.out]; rfl
            rw [hl5] at hown5
            rw [HAL.out]
            go_roundw
            case rel => exact ⟨a + 1, k, q3, acc ++ [t], A5, c5, rfl, by omega, hl5, hown5, hp5, hq3, hc5, HE2.out⟩
            case measure => simp [lenOf]; omega
    · by_cases h0 : a = 0
      · have he : textsR bs en 64 pos [] = .error 2 := by
          rw [HE.out]
          cases k <;> rw [textsR, if_neg hlt, if_pos (by rw [HAL.out]; exact h0)]
        have HEE := Lib.hid he
        clear he
        subst h0
        go_wp2
        go_quiet (fail)
        go_wp2
        refine ⟨rfl, ?_⟩
        rw [HEE.out]
        exact ⟨rfl, HC.out.drewN nq⟩
      · have he : textsR bs en 64 pos [] = .ok (acc, q) := by
          rw [HE.out]
          cases k <;> rw [textsR, if_neg hlt, if_neg (by rw [HAL.out]; exact h0)]
        have HEE := Lib.hid he
        clear he
        go_wp2
        go_quiet (fail)
        go_wp2
        go_ret
        rw [HEE.out]
        exact ⟨_, rfl, HO.out, HP.out.below (dN bl nq), HC.out.drewN nq⟩
end Go.Proofs.Ytimkdpkhdbiniaa

/- rdata: the reader's data: where its walk stands. -/
namespace Go.Proofs.Ytimkdpkhdbiniaa
open Go.RowKit
set_option maxRecDepth 100000

theorem ownB_chg {w w' : World} {base : Nat} {v : Value} {F : Nat → Prop} {bs : List UInt8} (h : OwnB w base v bs) (hc : Chg F w w') (hv : ∀ k, base ≤ k → k < w.heap.size → ¬ F k) : OwnB w' base v bs := by
  have hl := fun k hk => World.ownsRow.lt h k hk
  refine ⟨h.1, ?_⟩
  rcases h.2 with h0 | ⟨g, cap, cur, rfl, h1, h2, h3⟩
  · exact .inl h0
  · exact .inr ⟨g, cap, cur, rfl, h1, (hc.heap h2 (hv g (hl g rfl).1 (hl g rfl).2)), h3⟩
theorem ownE_chg {α : Type} {E : Enc α} {e : TypeId} {w w' : World} {base : Nat} {v : Value} {F : Nat → Prop} {xs : List α} (h : OwnE E e noS w base v xs) (hc : Chg F w w') (hv : ∀ k, base ≤ k → k < w.heap.size → ¬ F k) : OwnE E e noS w' base v xs :=
  OwnE.chg h hc (fun k hk => hv k (OwnE.lt h k hk).1 (OwnE.lt h k hk).2) (fun _ hz => hz.elim)

/-- Data whose slices are rows of the call's own. -/
structure DGot (w : World) (B : Nat) (s : DS) (x : Da) : Prop where
  b : OwnB w B (.slice s.A0 x.bytes.length s.c0) x.bytes
  h : OwnS w B (.slice s.A1 x.host.length s.c1) x.host
  m : OwnS w B (.slice s.A2 x.mail.length s.c2) x.mail
  n : OwnI w B (.slice s.A3 x.nums.length s.c3) x.nums
  t : OwnS w B (.slice s.A4 x.texts.length s.c4) x.texts
def DS.nil : DS := ⟨none, none, none, none, none, 0, 0, 0, 0, 0⟩
theorem DGot.nil (w : World) (B : Nat) : DGot w B DS.nil Da.zero := ⟨OwnB.nil _ _, OwnS.nil _ _, OwnS.nil _ _, OwnI.nil _ _, OwnS.nil _ _⟩
theorem DGot.chg {w w' : World} {B : Nat} {s : DS} {x : Da} {F : Nat → Prop} (h : DGot w B s x) (hc : Chg F w w') (hv : ∀ k, B ≤ k → k < w.heap.size → ¬ F k) : DGot w' B s x :=
  ⟨ownB_chg h.b hc hv, ownE_chg h.h hc hv, ownE_chg h.m hc hv, ownE_chg h.n hc hv, ownE_chg h.t hc hv⟩
theorem DGot.below {w w' : World} {B : Nat} {s : DS} {x : Da} (h : DGot w B s x) (hb : Below w.heap.size w w') : DGot w' B s x := h.chg (Chg.of_below (F := fun _ => False) hb) (fun _ _ _ h => h)
theorem DGot.base_le {w : World} {B B' : Nat} {s : DS} {x : Da} (h : DGot w B s x) (hb : B' ≤ B) : DGot w B' s x :=
  ⟨h.b.mono hb, OwnE.base_le h.h hb, OwnE.base_le h.m hb, OwnE.base_le h.n hb, OwnE.base_le h.t hb⟩
theorem OwnE.slc {α : Type} {E : Enc α} {e : TypeId} {S : Nat → Prop} {w : World} {base : Nat} {A : Option Addr} {n c : Nat} {xs : List α} (h : OwnE E e S w base (.slice A n c) xs) : RdE E w A n xs ∧ n = xs.length ∧ n ≤ c ∧ c ≤ maxLen := by
  obtain ⟨A', c', hv, hr, h1, h2⟩ := h.rdE
  injection hv with e1 e2 e3
  subst e1 e2 e3
  exact ⟨hr, rfl, h1, h2⟩
theorem DGot.rd {w : World} {B : Nat} {s : DS} {x : Da} (h : DGot w B s x) : DRd w s x := by
  obtain ⟨hb, _⟩ := h.b.rd
  obtain ⟨A0, c0, e0, _, hb1, hb2⟩ := h.b.form
  injection e0 with e1 e2 e3
  subst e1 e3
  obtain ⟨h1, _, h2⟩ := OwnE.slc h.h
  obtain ⟨m1, _, m2⟩ := OwnE.slc h.m
  obtain ⟨n1, _, n2⟩ := OwnE.slc h.n
  obtain ⟨t1, _, t2⟩ := OwnE.slc h.t
  exact ⟨hb, h1, m1, n1, t1, ⟨hb1, hb2⟩, h2, m2, n2, t2⟩

def dCells (s : DS) (d : Da) : Array Value := #[.slice s.A0 d.bytes.length s.c0, .slice s.A1 d.host.length s.c1, .slice s.A2 d.mail.length s.c2, .slice s.A3 d.nums.length s.c3, .slice s.A4 d.texts.length s.c4]
def shCells (s : Shp) : Array Value := #[.int .i64 s.bytes, .bool s.host, .bool s.mail, .bool s.short, .int .i64 s.nums, .int .i64 s.size, .bool s.texts, .bool s.first]
structure RdSt (w wr : World) (p : Nat) (bv : Value) (q en : Nat) (sh : Shp) (s : DS) (d : Da) : Prop where
  P : Rdr wr p bv (q : Int) (en : Int)
  S : wr.heap[w.heap.size]? = some (.cells (shCells sh) 182 (0, 0))
  D : wr.heap[w.heap.size + 1]? = some (.cells (dCells s d) 46 (0, 0))
  G : DGot wr (w.heap.size + 2) s d
  C : Chg (fun k => k = p) w wr
  lt : p < w.heap.size
section
variable {w wr w' : World} {p q q' en : Nat} {bv : Value} {sh : Shp} {s : DS} {d : Da}
theorem RdSt.start (h : Rdr w p bv (q : Int) (en : Int)) (sh : Shp) : RdSt w ((w.alloc (.cells (shCells sh) 182)).alloc (.cells (dCells DS.nil Da.zero) 46)) p bv q en sh DS.nil Da.zero := by
  have hb : Below w.heap.size w ((w.alloc (.cells (shCells sh) 182)).alloc (.cells (dCells DS.nil Da.zero) 46)) := nx (bl.alloc (Nat.le_refl _) _) (bl.alloc (Nat.le_refl _) _)
  have hsz : (w.alloc (.cells (shCells sh) 182)).heap.size = w.heap.size + 1 := by simp
  refine ⟨h.below hb, (heap_alloc_old _ _ (by rw [hsz]; omega)).trans (heap_alloc_new w _), ?_, DGot.nil _ _, Chg.of_below hb, h.lt⟩
  rw [← hsz]
  exact heap_alloc_new _ _
theorem RdSt.size (h : RdSt w wr p bv q en sh s d) : w.heap.size + 2 ≤ wr.heap.size := (Array.getElem?_eq_some_iff.1 h.D).1
theorem RdSt.call (h : RdSt w wr p bv q en sh s d) (hp : Rdr w' p bv (q' : Int) (en : Int)) (hc : Chg (fun k => k = p) wr w') : RdSt w w' p bv q' en sh s d := by
  have hl := h.lt
  exact ⟨hp, hc.heap h.S (by omega), hc.heap h.D (by omega), h.G.chg hc (fun k h1 _ => by omega), h.C.trans hc (fun _ h => .inl h), h.lt⟩
theorem RdSt.below (h : RdSt w wr p bv q en sh s d) (hb : Below wr.heap.size wr w') : RdSt w w' p bv q en sh s d := h.call (h.P.below hb) (Chg.of_below hb)
theorem RdSt.shc (h : RdSt w wr p bv q en sh s d) (j : Nat) : wr.cell? ⟨w.heap.size, j, none⟩ = (shCells sh)[j]? := cell_of_row _ _ _ _ _ _ h.S
theorem RdSt.dc (h : RdSt w wr p bv q en sh s d) (j : Nat) : wr.cell? ⟨w.heap.size + 1, j, none⟩ = (dCells s d)[j]? := cell_of_row _ _ _ _ _ _ h.D
theorem RdSt.df (h : RdSt w wr p bv q en sh s d) (j : Nat) : wr.frozen? ⟨w.heap.size + 1, j, none⟩ = false := frozen_of_row _ _ _ _ _ h.D
theorem RdSt.put (h : RdSt w wr p bv q en sh s d) (j : Nat) (v : Value) (s' : DS) (d' : Da) (hd : (dCells s d).setIfInBounds j v = dCells s' d') (hg : DGot wr (w.heap.size + 2) s' d') : RdSt w (wr.setCell ⟨w.heap.size + 1, j, none⟩ v) p bv q en sh s' d' := by
  have hl := h.lt
  have hc : Chg (fun k => k = w.heap.size + 1) wr (wr.setCell ⟨w.heap.size + 1, j, none⟩ v) := chg_g1 _ _ _ _
  refine ⟨hc.heap h.P (by omega), hc.heap h.S (by omega), ?_, hg.chg hc (fun k h1 _ => by omega), h.C.trans hc (fun k hk => .inr (by omega)), h.lt⟩
  rw [← hd]
  exact heap_setCell_same _ _ _ _ _ _ h.D
theorem RdSt.setB (h : RdSt w wr p bv q en sh s d) {A : Option Addr} {c : Nat} {x : List UInt8} (ho : OwnB wr (w.heap.size + 2) (.slice A x.length c) x) : RdSt w (wr.setCell ⟨w.heap.size + 1, 0, none⟩ (.slice A x.length c)) p bv q en sh { s with A0 := A, c0 := c } { d with bytes := x } :=
  h.put 0 _ _ _ rfl ⟨ho, h.G.h, h.G.m, h.G.n, h.G.t⟩
theorem RdSt.setH (h : RdSt w wr p bv q en sh s d) {A : Option Addr} {c : Nat} {x : List (List UInt8)} (ho : OwnS wr (w.heap.size + 2) (.slice A x.length c) x) : RdSt w (wr.setCell ⟨w.heap.size + 1, 1, none⟩ (.slice A x.length c)) p bv q en sh { s with A1 := A, c1 := c } { d with host := x } :=
  h.put 1 _ _ _ rfl ⟨h.G.b, ho, h.G.m, h.G.n, h.G.t⟩
theorem RdSt.setM (h : RdSt w wr p bv q en sh s d) {A : Option Addr} {c : Nat} {x : List (List UInt8)} (ho : OwnS wr (w.heap.size + 2) (.slice A x.length c) x) : RdSt w (wr.setCell ⟨w.heap.size + 1, 2, none⟩ (.slice A x.length c)) p bv q en sh { s with A2 := A, c2 := c } { d with mail := x } :=
  h.put 2 _ _ _ rfl ⟨h.G.b, h.G.h, ho, h.G.n, h.G.t⟩
theorem RdSt.setN (h : RdSt w wr p bv q en sh s d) {A : Option Addr} {c : Nat} {x : List Int} (ho : OwnI wr (w.heap.size + 2) (.slice A x.length c) x) : RdSt w (wr.setCell ⟨w.heap.size + 1, 3, none⟩ (.slice A x.length c)) p bv q en sh { s with A3 := A, c3 := c } { d with nums := x } :=
  h.put 3 _ _ _ rfl ⟨h.G.b, h.G.h, h.G.m, ho, h.G.t⟩
theorem RdSt.setT (h : RdSt w wr p bv q en sh s d) {A : Option Addr} {c : Nat} {x : List (List UInt8)} (ho : OwnS wr (w.heap.size + 2) (.slice A x.length c) x) : RdSt w (wr.setCell ⟨w.heap.size + 1, 4, none⟩ (.slice A x.length c)) p bv q en sh { s with A4 := A, c4 := c } { d with texts := x } :=
  h.put 4 _ _ _ rfl ⟨h.G.b, h.G.h, h.G.m, h.G.n, ho⟩
/-- The end's store of what is there already. -/
theorem RdSt.same (h : RdSt w wr p bv q en sh s d) : RdSt w (((((wr.setCell ⟨w.heap.size + 1, 0, none⟩ (.slice s.A0 d.bytes.length s.c0)).setCell ⟨w.heap.size + 1, 1, none⟩ (.slice s.A1 d.host.length s.c1)).setCell ⟨w.heap.size + 1, 2, none⟩ (.slice s.A2 d.mail.length s.c2)).setCell ⟨w.heap.size + 1, 3, none⟩ (.slice s.A3 d.nums.length s.c3)).setCell ⟨w.heap.size + 1, 4, none⟩ (.slice s.A4 d.texts.length s.c4)) p bv q en sh s d := by
  have k : ∀ {u : World} (j : Nat) (v : Value), (dCells s d).setIfInBounds j v = dCells s d → RdSt w u p bv q en sh s d → RdSt w (u.setCell ⟨w.heap.size + 1, j, none⟩ v) p bv q en sh s d := fun j v e h => h.put j v _ _ e h.G
  exact k 4 _ rfl (k 3 _ rfl (k 2 _ rfl (k 1 _ rfl (k 0 _ rfl h))))
end
/-- What the reader's data says. -/
def dataE (b : List UInt8) (pos en : Nat) (s : Shp) : Except Int (Da × Nat) :=
  match dataR b pos en s with
  | .error e => .error e
  | .ok (d, q) => if q < en then .error 7 else .ok (d, q)
def goodD (B : Nat) (v : Value) (w' : World) (x : Da) : Prop := ∃ s, v = dsV s x ∧ DGot w' B s x
end Go.Proofs.Ytimkdpkhdbiniaa

/- rr: how records lie in memory. -/
namespace Go.Proofs.Ytimkdpkhdbiniaa
open Go.RowKit
set_option maxRecDepth 100000

/-- Where a record's slices lead. -/
structure RS where
  A : Option Addr
  c : Nat
  d : DS
def RS.nil : RS := ⟨none, 0, DS.nil⟩
def rrCells (s : RS) (x : RR) : Array Value := #[.slice s.A x.name.length s.c, .int .i64 x.type, .int .i64 x.cls, .int .i64 x.ttl, .slice s.d.A0 x.data.bytes.length s.d.c0, .slice s.d.A1 x.data.host.length s.d.c1, .slice s.d.A2 x.data.mail.length s.d.c2, .slice s.d.A3 x.data.nums.length s.d.c3, .slice s.d.A4 x.data.texts.length s.d.c4]
def rrV (s : RS) (x : RR) : Value := .agg (rrCells s x)
/-- A record whose slices are rows of the call's own. -/
structure RGot (w : World) (B : Nat) (s : RS) (x : RR) : Prop where
  n : OwnS w B (.slice s.A x.name.length s.c) x.name
  d : DGot w B s.d x.data
theorem RGot.nil (w : World) (B : Nat) : RGot w B RS.nil RR.zero := ⟨OwnS.nil _ _, DGot.nil _ _⟩
theorem RGot.chg {w w' : World} {B : Nat} {s : RS} {x : RR} {F : Nat → Prop} (h : RGot w B s x) (hc : Chg F w w') (hv : ∀ k, B ≤ k → k < w.heap.size → ¬ F k) : RGot w' B s x := ⟨ownE_chg h.n hc hv, h.d.chg hc hv⟩
theorem RGot.below {w w' : World} {B : Nat} {s : RS} {x : RR} (h : RGot w B s x) (hb : Below w.heap.size w w') : RGot w' B s x := h.chg (Chg.of_below (F := fun _ => False) hb) (fun _ _ _ h => h)
theorem RGot.base_le {w : World} {B B' : Nat} {s : RS} {x : RR} (h : RGot w B s x) (hb : B' ≤ B) : RGot w B' s x := ⟨OwnE.base_le h.n hb, h.d.base_le hb⟩

/-- A record in a block of its own. -/
def RRow (w : World) (q : Nat) (s : RS) (x : RR) : Prop := w.heap[q]? = some (.cells (rrCells s x) 84 (0, 0))
section
variable {w w' : World} {q : Nat} {s s' : RS} {x x' : RR}
theorem RRow.lt (h : RRow w q s x) : q < w.heap.size := (Array.getElem?_eq_some_iff.1 h).1
theorem RRow.below (h : RRow w q s x) (hb : Below w.heap.size w w') : RRow w' q s x := (hb.block q h.lt).trans h
theorem RRow.cell (h : RRow w q s x) (j : Nat) : w.cell? ⟨q, j, none⟩ = (rrCells s x)[j]? := cell_of_row _ _ _ _ _ _ h
theorem RRow.free (h : RRow w q s x) (j : Nat) : w.frozen? ⟨q, j, none⟩ = false := frozen_of_row _ _ _ _ _ h
theorem RRow.put (h : RRow w q s x) (j : Nat) (v : Value) (s' : RS) (x' : RR) (e : (rrCells s x).setIfInBounds j v = rrCells s' x') : RRow (w.setCell ⟨q, j, none⟩ v) q s' x' := by
  unfold RRow
  rw [← e]
  exact heap_setCell_same _ _ _ _ _ _ h
theorem RRow.cells (h : RRow w q s x) : w.cell? ⟨q, 0, none⟩ = some (.slice s.A x.name.length s.c) ∧ w.cell? ⟨q, 1, none⟩ = some (.int .i64 x.type) ∧ w.cell? ⟨q, 2, none⟩ = some (.int .i64 x.cls) ∧ w.cell? ⟨q, 3, none⟩ = some (.int .i64 x.ttl) ∧
    w.cell? ⟨q, 4, none⟩ = some (.slice s.d.A0 x.data.bytes.length s.d.c0) ∧ w.cell? ⟨q, 5, none⟩ = some (.slice s.d.A1 x.data.host.length s.d.c1) ∧ w.cell? ⟨q, 6, none⟩ = some (.slice s.d.A2 x.data.mail.length s.d.c2) ∧ w.cell? ⟨q, 7, none⟩ = some (.slice s.d.A3 x.data.nums.length s.d.c3) ∧ w.cell? ⟨q, 8, none⟩ = some (.slice s.d.A4 x.data.texts.length s.d.c4) :=
  ⟨(h.cell 0).trans rfl, (h.cell 1).trans rfl, (h.cell 2).trans rfl, (h.cell 3).trans rfl, (h.cell 4).trans rfl, (h.cell 5).trans rfl, (h.cell 6).trans rfl, (h.cell 7).trans rfl, (h.cell 8).trans rfl⟩
end
/-- Nine stores. -/
def put9 (w : World) (q : Nat) (v0 v1 v2 v3 v4 v5 v6 v7 v8 : Value) : World := ((((((((w.setCell ⟨q, 0, none⟩ v0).setCell ⟨q, 1, none⟩ v1).setCell ⟨q, 2, none⟩ v2).setCell ⟨q, 3, none⟩ v3).setCell ⟨q, 4, none⟩ v4).setCell ⟨q, 5, none⟩ v5).setCell ⟨q, 6, none⟩ v6).setCell ⟨q, 7, none⟩ v7).setCell ⟨q, 8, none⟩ v8
theorem set9 {w : World} {g : Nat} {t : TypeId} {a0 a1 a2 a3 a4 a5 a6 a7 a8 : Value} (h : w.heap[g]? = some (.cells #[a0, a1, a2, a3, a4, a5, a6, a7, a8] t (0, 0))) (v0 v1 v2 v3 v4 v5 v6 v7 v8 : Value) : (put9 w g v0 v1 v2 v3 v4 v5 v6 v7 v8).heap[g]? = some (.cells #[v0, v1, v2, v3, v4, v5, v6, v7, v8] t (0, 0)) := by
  unfold put9
  have h0 : (w.setCell ⟨g, 0, none⟩ v0).heap[g]? = some (.cells #[v0, a1, a2, a3, a4, a5, a6, a7, a8] t (0, 0)) := heap_setCell_same _ _ 0 _ _ v0 h
  have h1 : ((w.setCell ⟨g, 0, none⟩ v0).setCell ⟨g, 1, none⟩ v1).heap[g]? = some (.cells #[v0, v1, a2, a3, a4, a5, a6, a7, a8] t (0, 0)) := heap_setCell_same _ _ 1 _ _ v1 h0
  have h2 : (((w.setCell ⟨g, 0, none⟩ v0).setCell ⟨g, 1, none⟩ v1).setCell ⟨g, 2, none⟩ v2).heap[g]? = some (.cells #[v0, v1, v2, a3, a4, a5, a6, a7, a8] t (0, 0)) := heap_setCell_same _ _ 2 _ _ v2 h1
  have h3 : ((((w.setCell ⟨g, 0, none⟩ v0).setCell ⟨g, 1, none⟩ v1).setCell ⟨g, 2, none⟩ v2).setCell ⟨g, 3, none⟩ v3).heap[g]? = some (.cells #[v0, v1, v2, v3, a4, a5, a6, a7, a8] t (0, 0)) := heap_setCell_same _ _ 3 _ _ v3 h2
  have h4 : (((((w.setCell ⟨g, 0, none⟩ v0).setCell ⟨g, 1, none⟩ v1).setCell ⟨g, 2, none⟩ v2).setCell ⟨g, 3, none⟩ v3).setCell ⟨g, 4, none⟩ v4).heap[g]? = some (.cells #[v0, v1, v2, v3, v4, a5, a6, a7, a8] t (0, 0)) := heap_setCell_same _ _ 4 _ _ v4 h3
  have h5 : ((((((w.setCell ⟨g, 0, none⟩ v0).setCell ⟨g, 1, none⟩ v1).setCell ⟨g, 2, none⟩ v2).setCell ⟨g, 3, none⟩ v3).setCell ⟨g, 4, none⟩ v4).setCell ⟨g, 5, none⟩ v5).heap[g]? = some (.cells #[v0, v1, v2, v3, v4, v5, a6, a7, a8] t (0, 0)) := heap_setCell_same _ _ 5 _ _ v5 h4
  have h6 : (((((((w.setCell ⟨g, 0, none⟩ v0).setCell ⟨g, 1, none⟩ v1).setCell ⟨g, 2, none⟩ v2).setCell ⟨g, 3, none⟩ v3).setCell ⟨g, 4, none⟩ v4).setCell ⟨g, 5, none⟩ v5).setCell ⟨g, 6, none⟩ v6).heap[g]? = some (.cells #[v0, v1, v2, v3, v4, v5, v6, a7, a8] t (0, 0)) := heap_setCell_same _ _ 6 _ _ v6 h5
  have h7 : ((((((((w.setCell ⟨g, 0, none⟩ v0).setCell ⟨g, 1, none⟩ v1).setCell ⟨g, 2, none⟩ v2).setCell ⟨g, 3, none⟩ v3).setCell ⟨g, 4, none⟩ v4).setCell ⟨g, 5, none⟩ v5).setCell ⟨g, 6, none⟩ v6).setCell ⟨g, 7, none⟩ v7).heap[g]? = some (.cells #[v0, v1, v2, v3, v4, v5, v6, v7, a8] t (0, 0)) := heap_setCell_same _ _ 7 _ _ v7 h6
  have h8 : (((((((((w.setCell ⟨g, 0, none⟩ v0).setCell ⟨g, 1, none⟩ v1).setCell ⟨g, 2, none⟩ v2).setCell ⟨g, 3, none⟩ v3).setCell ⟨g, 4, none⟩ v4).setCell ⟨g, 5, none⟩ v5).setCell ⟨g, 6, none⟩ v6).setCell ⟨g, 7, none⟩ v7).setCell ⟨g, 8, none⟩ v8).heap[g]? = some (.cells #[v0, v1, v2, v3, v4, v5, v6, v7, v8] t (0, 0)) := heap_setCell_same _ _ 8 _ _ v8 h7
  exact h8
/-- Where rr.Get stands. -/
structure RgSt (w wr : World) (s : RS) (x : RR) : Prop where
  R : RRow wr w.heap.size s x
  G : RGot wr (w.heap.size + 1) s x
  bw : Below w.heap.size w wr
section
variable {w wr w' : World} {s : RS} {x : RR}
theorem RgSt.start (w : World) : RgSt w (w.alloc (.cells (rrCells RS.nil RR.zero) 84)) RS.nil RR.zero := ⟨heap_alloc_new _ _, RGot.nil _ _, bl.alloc (Nat.le_refl _) _⟩
theorem RgSt.below (h : RgSt w wr s x) (hb : Below wr.heap.size wr w') : RgSt w w' s x := ⟨h.R.below hb, h.G.below hb, nx h.bw hb⟩
theorem RgSt.put (h : RgSt w wr s x) (j : Nat) (v : Value) (s' : RS) (x' : RR) (e : (rrCells s x).setIfInBounds j v = rrCells s' x') (hg : RGot wr (w.heap.size + 1) s' x') : RgSt w (wr.setCell ⟨w.heap.size, j, none⟩ v) s' x' := by
  have hc : Chg (fun k => k = w.heap.size) wr (wr.setCell ⟨w.heap.size, j, none⟩ v) := chg_g1 _ _ _ _
  exact ⟨h.R.put j v s' x' e, hg.chg hc (fun k h1 _ => by omega), h.bw.setCell (p := ⟨w.heap.size, j, none⟩) (Nat.le_refl _) v⟩
theorem RgSt.name (h : RgSt w wr s x) {A : Option Addr} {c : Nat} {n : List (List UInt8)} (ho : OwnS wr (w.heap.size + 1) (.slice A n.length c) n) : RgSt w (wr.setCell ⟨w.heap.size, 0, none⟩ (.slice A n.length c)) { s with A := A, c := c } { x with name := n } :=
  h.put 0 _ _ _ rfl ⟨ho, h.G.d⟩
theorem RgSt.type (h : RgSt w wr s x) (n : Int) : RgSt w (wr.setCell ⟨w.heap.size, 1, none⟩ (.int .i64 n)) s { x with type := n } := h.put 1 _ _ _ rfl ⟨h.G.n, h.G.d⟩
theorem RgSt.cls (h : RgSt w wr s x) (n : Int) : RgSt w (wr.setCell ⟨w.heap.size, 2, none⟩ (.int .i64 n)) s { x with cls := n } := h.put 2 _ _ _ rfl ⟨h.G.n, h.G.d⟩
theorem RgSt.ttl (h : RgSt w wr s x) (n : Int) : RgSt w (wr.setCell ⟨w.heap.size, 3, none⟩ (.int .i64 n)) s { x with ttl := n } := h.put 3 _ _ _ rfl ⟨h.G.n, h.G.d⟩
theorem RgSt.data (h : RgSt w wr s x) {t : DS} {d : Da} (hg : DGot wr (w.heap.size + 1) t d) :
    RgSt w (((((wr.setCell ⟨w.heap.size, 4, none⟩ (.slice t.A0 d.bytes.length t.c0)).setCell ⟨w.heap.size, 5, none⟩ (.slice t.A1 d.host.length t.c1)).setCell ⟨w.heap.size, 6, none⟩ (.slice t.A2 d.mail.length t.c2)).setCell ⟨w.heap.size, 7, none⟩ (.slice t.A3 d.nums.length t.c3)).setCell ⟨w.heap.size, 8, none⟩ (.slice t.A4 d.texts.length t.c4)) { s with d := t } { x with data := d } := by
  have hr : RRow (((((wr.setCell ⟨w.heap.size, 4, none⟩ (.slice t.A0 d.bytes.length t.c0)).setCell ⟨w.heap.size, 5, none⟩ (.slice t.A1 d.host.length t.c1)).setCell ⟨w.heap.size, 6, none⟩ (.slice t.A2 d.mail.length t.c2)).setCell ⟨w.heap.size, 7, none⟩ (.slice t.A3 d.nums.length t.c3)).setCell ⟨w.heap.size, 8, none⟩ (.slice t.A4 d.texts.length t.c4)) w.heap.size { s with d := t } { x with data := d } :=
    heap_setCell_same _ _ 8 _ _ _ (heap_setCell_same _ _ 7 _ _ _ (heap_setCell_same _ _ 6 _ _ _ (heap_setCell_same _ _ 5 _ _ _ (heap_setCell_same _ _ 4 _ _ _ h.R))))
  have k : ∀ {u : World} (j : Nat) (v : Value), Chg (fun k => k = w.heap.size) wr u → Chg (fun k => k = w.heap.size) wr (u.setCell ⟨w.heap.size, j, none⟩ v) := fun j v h => h.setCell (p := ⟨w.heap.size, j, none⟩) (Or.inl rfl) v
  have hc := k 8 (.slice t.A4 d.texts.length t.c4) (k 7 (.slice t.A3 d.nums.length t.c3) (k 6 (.slice t.A2 d.mail.length t.c2) (k 5 (.slice t.A1 d.host.length t.c1) (k 4 (.slice t.A0 d.bytes.length t.c0) (Chg.refl _ wr)))))
  exact ⟨hr, ⟨ownE_chg h.G.n hc (fun k h1 _ => by omega), hg.chg hc (fun k h1 _ => by omega)⟩, h.bw.trans (hc.below (fun z hz => by omega) h.bw.size)⟩
theorem RgSt.nine (h : RgSt w wr s x) {s' : RS} {x' : RR} (hg : RGot wr (w.heap.size + 1) s' x') :
    RgSt w (put9 wr w.heap.size (.slice s'.A x'.name.length s'.c) (.int .i64 x'.type) (.int .i64 x'.cls) (.int .i64 x'.ttl) (.slice s'.d.A0 x'.data.bytes.length s'.d.c0) (.slice s'.d.A1 x'.data.host.length s'.d.c1) (.slice s'.d.A2 x'.data.mail.length s'.d.c2) (.slice s'.d.A3 x'.data.nums.length s'.d.c3) (.slice s'.d.A4 x'.data.texts.length s'.d.c4)) s' x' := by
  have hr := set9 h.R (.slice s'.A x'.name.length s'.c) (.int .i64 x'.type) (.int .i64 x'.cls) (.int .i64 x'.ttl) (.slice s'.d.A0 x'.data.bytes.length s'.d.c0) (.slice s'.d.A1 x'.data.host.length s'.d.c1) (.slice s'.d.A2 x'.data.mail.length s'.d.c2) (.slice s'.d.A3 x'.data.nums.length s'.d.c3) (.slice s'.d.A4 x'.data.texts.length s'.d.c4)
  unfold put9 at hr ⊢
  have k : ∀ {u : World} (j : Nat) (v : Value), Chg (fun k => k = w.heap.size) wr u → Chg (fun k => k = w.heap.size) wr (u.setCell ⟨w.heap.size, j, none⟩ v) := fun j v h => h.setCell (p := ⟨w.heap.size, j, none⟩) (Or.inl rfl) v
  have hc := k 8 (.slice s'.d.A4 x'.data.texts.length s'.d.c4) (k 7 (.slice s'.d.A3 x'.data.nums.length s'.d.c3) (k 6 (.slice s'.d.A2 x'.data.mail.length s'.d.c2) (k 5 (.slice s'.d.A1 x'.data.host.length s'.d.c1) (k 4 (.slice s'.d.A0 x'.data.bytes.length s'.d.c0) (k 3 (.int .i64 x'.ttl) (k 2 (.int .i64 x'.cls) (k 1 (.int .i64 x'.type) (k 0 (.slice s'.A x'.name.length s'.c) (Chg.refl _ wr)))))))))
  exact ⟨hr, hg.chg hc (fun k h1 _ => by omega), h.bw.trans (hc.below (fun z hz => by omega) h.bw.size)⟩
end
end Go.Proofs.Ytimkdpkhdbiniaa

/- Data and records in memory, in blocks of a set; how a list of them lies. -/
namespace Go.Proofs.Ytimkdpkhdbiniaa
open Go.RowKit
set_option maxRecDepth 100000

structure DIn (S : Nat → Prop) (w : World) (s : DS) (x : Da) : Prop where
  b : Els encB S S w s.A0 x.bytes.length x.bytes
  h : Els encS S S w s.A1 x.host.length x.host
  m : Els encS S S w s.A2 x.mail.length x.mail
  n : Els encI S S w s.A3 x.nums.length x.nums
  t : Els encS S S w s.A4 x.texts.length x.texts
  cb : x.bytes.length ≤ s.c0 ∧ s.c0 ≤ maxLen
  ch : x.host.length ≤ s.c1 ∧ s.c1 ≤ maxLen
  cm : x.mail.length ≤ s.c2 ∧ s.c2 ≤ maxLen
  cn : x.nums.length ≤ s.c3 ∧ s.c3 ≤ maxLen
  ct : x.texts.length ≤ s.c4 ∧ s.c4 ≤ maxLen
section
variable {S S' F : Nat → Prop} {w w' : World} {s : DS} {x : Da} {B : Nat}
theorem DIn.mono (hS : ∀ b, S b → S' b) (h : DIn S w s x) : DIn S' w s x :=
  ⟨h.b.mono hS hS, h.h.mono hS hS, h.m.mono hS hS, h.n.mono hS hS, h.t.mono hS hS, h.cb, h.ch, h.cm, h.cn, h.ct⟩
theorem DIn.keep (hS : ∀ b, S b → w'.heap[b]? = w.heap[b]?) (h : DIn S w s x) : DIn S w' s x :=
  ⟨h.b.keep hS hS, h.h.keep hS hS, h.m.keep hS hS, h.n.keep hS hS, h.t.keep hS hS, h.cb, h.ch, h.cm, h.cn, h.ct⟩
theorem DIn.chg (h : DIn S w s x) (hc : Chg F w w') (hl : ∀ b, S b → b < w.heap.size ∧ ¬ F b) : DIn S w' s x := h.keep fun b hb => hc.block b (hl b hb).1 (hl b hb).2
theorem DIn.below (h : DIn S w s x) (hb : Below w.heap.size w w') (hl : ∀ b, S b → b < w.heap.size) : DIn S w' s x := h.keep fun b hbS => hb.block b (hl b hbS)
theorem DIn.rd (h : DIn S w s x) (hl : ∀ b, S b → b < w.heap.size) : DRd w s x :=
  ⟨els_bytes h.b, h.h.mono hl hl, h.m.mono hl hl, h.n.mono hl hl, h.t.mono hl hl, h.cb, h.ch, h.cm, h.cn, h.ct⟩
theorem DRd.din (h : DRd w s x) : DIn (ltS w) w s x := ⟨bytes_rdE h.b, h.h, h.m, h.n, h.t, h.cb, h.ch, h.cm, h.cn, h.ct⟩
/-- From B on. -/
def geS (B : Nat) (w : World) : Nat → Prop := fun b => B ≤ b ∧ b < w.heap.size
theorem ownB_els {v : Value} {bs : List UInt8} {A : Option Addr} {n c : Nat} (h : OwnB w B v bs) (hv : v = .slice A n c) : Els encB (geS B w) (geS B w) w A n bs ∧ n ≤ c ∧ c ≤ maxLen := by
  subst hv
  obtain ⟨A', c', hv, hr, h1, h2⟩ := h.form
  injection hv with e1 e2 e3
  subst e1 e2 e3
  refine ⟨bytes_els hr fun b off e => ?_, h1, h2⟩
  have hl := World.ownsRow.lt h
  rcases h.2 with ⟨e0, _⟩ | ⟨g, cap, cur, e0, h3, _⟩
  · injection e0 with e0
    rw [e] at e0
    cases e0
  · injection e0 with e0
    rw [e] at e0
    injection e0 with e0
    injection e0 with e0
    subst e0
    subst e
    exact hl _ rfl
theorem ownE_els {α : Type} {E : Enc α} {e : TypeId} {xs : List α} {v : Value} {A : Option Addr} {n c : Nat} (h : OwnE E e noS w B v xs) (hv : v = .slice A n c) : Els E (geS B w) (geS B w) w A n xs ∧ n ≤ c ∧ c ≤ maxLen := by
  subst hv
  have hl := h.lt
  obtain ⟨A', c', hv, hr, h1, h2⟩ := h.form
  injection hv with e1 e2 e3
  subst e1 e2 e3
  exact ⟨hr.mono (fun b hb => hl b hb) (fun b hb => hb.elim), h1, h2⟩
theorem DGot.din (h : DGot w B s x) : DIn (geS B w) w s x := by
  obtain ⟨b1, b2⟩ := ownB_els h.b rfl
  obtain ⟨h1, h2⟩ := ownE_els h.h rfl
  obtain ⟨m1, m2⟩ := ownE_els h.m rfl
  obtain ⟨n1, n2⟩ := ownE_els h.n rfl
  obtain ⟨t1, t2⟩ := ownE_els h.t rfl
  exact ⟨b1, h1, m1, n1, t1, b2, h2, m2, n2, t2⟩
end
/-- How data lies in five cells. -/
def encDa : Enc Da where
  size := 5
  R := fun S w r x => ∃ s, r = (dCells s x).toList ∧ DIn S w s x
  pos := by decide
  len := by rintro _ _ r x ⟨s, rfl, _⟩; rfl
  mono := by rintro S S' w r x hS ⟨s, rfl, h⟩; exact ⟨s, rfl, h.mono hS⟩
  keep := by rintro S w w' r x hS ⟨s, rfl, h⟩; exact ⟨s, rfl, h.keep hS⟩
  one := by
    rintro S w r x ⟨s, rfl, _⟩ u hu
    simp [dCells] at hu
    rcases hu with rfl | rfl | rfl | rfl | rfl <;> rfl
structure RIn (S : Nat → Prop) (w : World) (s : RS) (x : RR) : Prop where
  n : Els encS S S w s.A x.name.length x.name
  cn : x.name.length ≤ s.c ∧ s.c ≤ maxLen
  d : DIn S w s.d x.data
  it : -9223372036854775808 ≤ x.type ∧ x.type ≤ 9223372036854775807
  ic : -9223372036854775808 ≤ x.cls ∧ x.cls ≤ 9223372036854775807
  il : -9223372036854775808 ≤ x.ttl ∧ x.ttl ≤ 9223372036854775807
section
variable {S S' F : Nat → Prop} {w w' : World} {s : RS} {x : RR} {B : Nat}
theorem RIn.mono (hS : ∀ b, S b → S' b) (h : RIn S w s x) : RIn S' w s x := ⟨h.n.mono hS hS, h.cn, h.d.mono hS, h.it, h.ic, h.il⟩
theorem RIn.keep (hS : ∀ b, S b → w'.heap[b]? = w.heap[b]?) (h : RIn S w s x) : RIn S w' s x := ⟨h.n.keep hS hS, h.cn, h.d.keep hS, h.it, h.ic, h.il⟩
theorem RIn.chg (h : RIn S w s x) (hc : Chg F w w') (hl : ∀ b, S b → b < w.heap.size ∧ ¬ F b) : RIn S w' s x := h.keep fun b hb => hc.block b (hl b hb).1 (hl b hb).2
theorem RIn.below (h : RIn S w s x) (hb : Below w.heap.size w w') (hl : ∀ b, S b → b < w.heap.size) : RIn S w' s x := h.keep fun b hbS => hb.block b (hl b hbS)
end
/-- How a record lies in nine cells. -/
def encRR : Enc RR where
  size := 9
  R := fun S w r x => ∃ s, r = (rrCells s x).toList ∧ RIn S w s x
  pos := by decide
  len := by rintro _ _ r x ⟨s, rfl, _⟩; rfl
  mono := by rintro S S' w r x hS ⟨s, rfl, h⟩; exact ⟨s, rfl, h.mono hS⟩
  keep := by rintro S w w' r x hS ⟨s, rfl, h⟩; exact ⟨s, rfl, h.keep hS⟩
  one := by
    rintro S w r x ⟨s, rfl, _⟩ u hu
    simp [rrCells] at hu
    rcases hu with rfl | rfl | rfl | rfl | rfl | rfl | rfl | rfl | rfl <;> rfl
/-- A question. -/
structure Qu where
  name : List (List UInt8)
  type : Int
  cls : Int
def encQu : Enc Qu where
  size := 3
  R := fun S w r x => ∃ A c, r = [.slice A x.name.length c, .int .i64 x.type, .int .i64 x.cls] ∧ Els encS S S w A x.name.length x.name ∧ (x.name.length ≤ c ∧ c ≤ maxLen) ∧ (-9223372036854775808 ≤ x.type ∧ x.type ≤ 9223372036854775807) ∧ (-9223372036854775808 ≤ x.cls ∧ x.cls ≤ 9223372036854775807)
  pos := by decide
  len := by rintro _ _ r x ⟨A, c, rfl, _⟩; rfl
  mono := by rintro S S' w r x hS ⟨A, c, rfl, h, h2⟩; exact ⟨A, c, rfl, h.mono hS hS, h2⟩
  keep := by rintro S w w' r x hS ⟨A, c, rfl, h, h2⟩; exact ⟨A, c, rfl, h.keep hS hS, h2⟩
  one := by
    rintro S w r x ⟨A, c, rfl, _⟩ u hu
    simp at hu
    rcases hu with rfl | rfl | rfl <;> rfl
end Go.Proofs.Ytimkdpkhdbiniaa

/- Data and records that came in, as elements of a list. -/
namespace Go.Proofs.Ytimkdpkhdbiniaa
open Go.ChangeShapes Go.WideShapes Go.ChangeAt Go.RowKit
set_option maxRecDepth 100000

end Go.Proofs.Ytimkdpkhdbiniaa

/- The reference's OwnRRs: records that share nothing. -/
namespace Go.Proofs.Ytimkdpkhdbiniaa
open Go.RowKit
set_option maxRecDepth 100000

theorem elRR : ElT Try.prog 29 84 encRR 168 := ElT.mk Try.underlying29 (.agg (rrCells RS.nil RR.zero)) 9 (by kernel_rfl) rfl rfl
/-- A record's nine cells, at a place. -/
def RCells (w : World) (b p : Nat) (s : RS) (x : RR) : Prop :=
  w.cell? ⟨b, p, none⟩ = some (.slice s.A x.name.length s.c) ∧ w.cell? ⟨b, p + 1, none⟩ = some (.int .i64 x.type) ∧ w.cell? ⟨b, p + 2, none⟩ = some (.int .i64 x.cls) ∧ w.cell? ⟨b, p + 3, none⟩ = some (.int .i64 x.ttl) ∧
    w.cell? ⟨b, p + 4, none⟩ = some (.slice s.d.A0 x.data.bytes.length s.d.c0) ∧ w.cell? ⟨b, p + 5, none⟩ = some (.slice s.d.A1 x.data.host.length s.d.c1) ∧ w.cell? ⟨b, p + 6, none⟩ = some (.slice s.d.A2 x.data.mail.length s.d.c2) ∧ w.cell? ⟨b, p + 7, none⟩ = some (.slice s.d.A3 x.data.nums.length s.d.c3) ∧ w.cell? ⟨b, p + 8, none⟩ = some (.slice s.d.A4 x.data.texts.length s.d.c4)
theorem RCells.below {w w' : World} {b p : Nat} {s : RS} {x : RR} (h : RCells w b p s x) (hb : Below w.heap.size w w') : RCells w' b p s x := by
  obtain ⟨h0, h1, h2, h3, h4, h5, h6, h7, h8⟩ := h
  exact ⟨below_cell hb h0, below_cell hb h1, below_cell hb h2, below_cell hb h3, below_cell hb h4, below_cell hb h5, below_cell hb h6, below_cell hb h7, below_cell hb h8⟩
/-- A list of records read in memory. -/
theorem rr_at {So Si : Nat → Prop} {w : World} {A : Option Addr} {n : Nat} {xs : List RR} (h : Els encRR So Si w A n xs) {k : Nat} {r : RR} (hx : xs[k]? = some r) :
    ∃ b off s, A = some ⟨b, off, none⟩ ∧ So b ∧ RIn Si w s r ∧ RCells w b (off + k * 9) s r := by
  obtain ⟨b, off, rfl, hb, hat⟩ := Els.flat h (by rw [← h.len]; exact Nat.lt_of_le_of_lt (Nat.zero_le k) (List.getElem?_eq_some_iff.1 hx).1)
  obtain ⟨r', ⟨s, rfl, hr⟩, hc⟩ := hat k r hx
  refine ⟨b, off, s, rfl, hb, hr, ?_⟩
  have hc' : ∀ j u, (rrCells s r).toList[j]? = some u → w.cell? ⟨b, off + k * 9 + j, none⟩ = some u := fun j u hu => by rw [Nat.add_assoc]; exact hc j u hu
  exact ⟨hc' 0 _ rfl, hc' 1 _ rfl, hc' 2 _ rfl, hc' 3 _ rfl, hc' 4 _ rfl, hc' 5 _ rfl, hc' 6 _ rfl, hc' 7 _ rfl, hc' 8 _ rfl⟩
/-- A row of the call's own, all of it new since block number B. -/
def NewE {α : Type} (E : Enc α) (e : TypeId) (B : Nat) (w : World) (v : Value) (xs : List α) : Prop := ∃ S, OwnE E e S w B v xs ∧ ∀ b, S b → B ≤ b
theorem NewE.nil {α : Type} (E : Enc α) (e : TypeId) (w : World) (B : Nat) : NewE E e B w (.slice none 0 0) [] := ⟨noS, OwnE.nil _ _ _ _, fun _ h => h.elim⟩
theorem NewE.below {α : Type} {E : Enc α} {e : TypeId} {B : Nat} {w w' : World} {v : Value} {xs : List α} (h : NewE E e B w v xs) (hb : Below w.heap.size w w') : NewE E e B w' v xs := by
  obtain ⟨S, ho, hS⟩ := h
  exact ⟨S, ho.below hb, hS⟩
theorem NewE.rd {α : Type} {E : Enc α} {e : TypeId} {B : Nat} {w : World} {v : Value} {xs : List α} (h : NewE E e B w v xs) : ∃ A c, v = .slice A xs.length c ∧ Els E (geS B w) (geS B w) w A xs.length xs ∧ xs.length ≤ c ∧ c ≤ maxLen := by
  obtain ⟨S, ho, hS⟩ := h
  have hl := ho.lt
  have hSl : ∀ b, S b → b < w.heap.size := by obtain ⟨_, _, _, hb⟩ := ho; exact fun b hb' => (hb b hb').1
  obtain ⟨A, c, rfl, he, h1, h2⟩ := ho.form
  exact ⟨A, c, rfl, he.mono (fun b hb => hl b hb) (fun b hb => ⟨hS b hb, hSl b hb⟩), h1, h2⟩

theorem five {w : World} {q : Nat} {s : RS} {x : RR} (h : RRow w q s x) (t : DS) : RRow (((((w.setCell ⟨q, 4, none⟩ (.slice t.A0 x.data.bytes.length t.c0)).setCell ⟨q, 5, none⟩ (.slice t.A1 x.data.host.length t.c1)).setCell ⟨q, 6, none⟩ (.slice t.A2 x.data.mail.length t.c2)).setCell ⟨q, 7, none⟩ (.slice t.A3 x.data.nums.length t.c3)).setCell ⟨q, 8, none⟩ (.slice t.A4 x.data.texts.length t.c4)) q { s with d := t } x :=
  heap_setCell_same _ _ 8 _ _ _ (heap_setCell_same _ _ 7 _ _ _ (heap_setCell_same _ _ 6 _ _ _ (heap_setCell_same _ _ 5 _ _ _ (heap_setCell_same _ _ 4 _ _ _ h))))
end Go.Proofs.Ytimkdpkhdbiniaa

/- Questions in memory. -/
namespace Go.Proofs.Ytimkdpkhdbiniaa
open Go.RowKit
set_option maxRecDepth 100000

/-- Where a question's name leads. -/
structure QS where
  A : Option Addr
  c : Nat
def quV (s : QS) (x : Qu) : Value := .agg #[.slice s.A x.name.length s.c, .int .i64 x.type, .int .i64 x.cls]
structure QIn (S : Nat → Prop) (w : World) (s : QS) (x : Qu) : Prop where
  n : Els encS S S w s.A x.name.length x.name
  cn : x.name.length ≤ s.c ∧ s.c ≤ maxLen
  it : -9223372036854775808 ≤ x.type ∧ x.type ≤ 9223372036854775807
  ic : -9223372036854775808 ≤ x.cls ∧ x.cls ≤ 9223372036854775807
theorem QIn.keep {S : Nat → Prop} {w w' : World} {s : QS} {x : Qu} (hS : ∀ b, S b → w'.heap[b]? = w.heap[b]?) (h : QIn S w s x) : QIn S w' s x := ⟨h.n.keep hS hS, h.cn, h.it, h.ic⟩
theorem QIn.below {S : Nat → Prop} {w w' : World} {s : QS} {x : Qu} (h : QIn S w s x) (hb : Below w.heap.size w w') (hl : ∀ b, S b → b < w.heap.size) : QIn S w' s x := h.keep fun b hbS => hb.block b (hl b hbS)
/-- A question's three cells, at a place. -/
def QCells (w : World) (b p : Nat) (s : QS) (x : Qu) : Prop :=
  w.cell? ⟨b, p, none⟩ = some (.slice s.A x.name.length s.c) ∧ w.cell? ⟨b, p + 1, none⟩ = some (.int .i64 x.type) ∧ w.cell? ⟨b, p + 2, none⟩ = some (.int .i64 x.cls)
theorem QCells.below {w w' : World} {b p : Nat} {s : QS} {x : Qu} (h : QCells w b p s x) (hb : Below w.heap.size w w') : QCells w' b p s x := ⟨below_cell hb h.1, below_cell hb h.2.1, below_cell hb h.2.2⟩
theorem qu_at {So Si : Nat → Prop} {w : World} {A : Option Addr} {n : Nat} {xs : List Qu} (h : Els encQu So Si w A n xs) {k : Nat} {r : Qu} (hx : xs[k]? = some r) :
    ∃ b off s, A = some ⟨b, off, none⟩ ∧ So b ∧ QIn Si w s r ∧ QCells w b (off + k * 3) s r := by
  obtain ⟨b, off, rfl, hb, hat⟩ := Els.flat h (by rw [← h.len]; exact Nat.lt_of_le_of_lt (Nat.zero_le k) (List.getElem?_eq_some_iff.1 hx).1)
  obtain ⟨r', ⟨A1, c1, rfl, h1, h2, h3, h4⟩, hc⟩ := hat k r hx
  refine ⟨b, off, ⟨A1, c1⟩, rfl, hb, ⟨h1, h2, h3, h4⟩, ?_⟩
  have hc' : ∀ j u, ([.slice A1 r.name.length c1, .int .i64 r.type, .int .i64 r.cls] : List Value)[j]? = some u → w.cell? ⟨b, off + k * 3 + j, none⟩ = some u := fun j u hu => by rw [Nat.add_assoc]; exact hc j u hu
  exact ⟨hc' 0 _ rfl, hc' 1 _ rfl, hc' 2 _ rfl⟩
theorem any_take_s {α : Type} {p : α → Bool} {xs : List α} {k : Nat} {x : α} (hx : xs[k]? = some x) (h : (xs.take k).any p = false) (hp : p x = false) : (xs.take (k + 1)).any p = false := by
  rw [List.take_add_one, hx, List.any_append, h, Option.toList_some]
  simp [hp]
theorem elQu : ElT Try.prog 28 25 encQu 40 := ElT.mk Try.underlying28 (.agg #[.slice none 0 0, .int .i64 0, .int .i64 0]) 3 (by kernel_rfl) rfl rfl
end Go.Proofs.Ytimkdpkhdbiniaa

/- Messages: in plain Lean, and how one lies in memory. -/
namespace Go.Proofs.Ytimkdpkhdbiniaa
open Go.RowKit
set_option maxRecDepth 100000

/-- A message. -/
structure Ms where
  id : Int
  resp : Bool
  op : Int
  aa : Bool
  tc : Bool
  rd : Bool
  ra : Bool
  rcode : Int
  qs : List Qu
  an : List RR
  au : List RR
  ex : List RR
  edns : Bool
  size : Int
/-- Where a message's lists lie. -/
structure MS where
  Q : Option Addr
  qc : Nat
  A : Option Addr
  ac : Nat
  U : Option Addr
  uc : Nat
  X : Option Addr
  xc : Nat
def MS.nil : MS := ⟨none, 0, none, 0, none, 0, none, 0⟩
def mCells (s : MS) (m : Ms) : Array Value := #[.int .i64 m.id, .bool m.resp, .int .i64 m.op, .bool m.aa, .bool m.tc, .bool m.rd, .bool m.ra, .int .i64 m.rcode, .slice s.Q m.qs.length s.qc, .slice s.A m.an.length s.ac, .slice s.U m.au.length s.uc, .slice s.X m.ex.length s.xc, .bool m.edns, .int .i64 m.size]
def msV (s : MS) (m : Ms) : Value := .agg (mCells s m)
def i64S (n : Int) : Prop := -9223372036854775808 ≤ n ∧ n ≤ 9223372036854775807
structure MIn (S : Nat → Prop) (w : World) (s : MS) (m : Ms) : Prop where
  q : Els encQu S S w s.Q m.qs.length m.qs
  a : Els encRR S S w s.A m.an.length m.an
  u : Els encRR S S w s.U m.au.length m.au
  x : Els encRR S S w s.X m.ex.length m.ex
  cq : m.qs.length ≤ s.qc ∧ s.qc ≤ maxLen
  ca : m.an.length ≤ s.ac ∧ s.ac ≤ maxLen
  cu : m.au.length ≤ s.uc ∧ s.uc ≤ maxLen
  cx : m.ex.length ≤ s.xc ∧ s.xc ≤ maxLen
  ii : i64S m.id
  io : i64S m.op
  ir : i64S m.rcode
  is : i64S m.size
section
variable {S S' F : Nat → Prop} {w w' : World} {s : MS} {m : Ms} {B : Nat}
theorem MIn.mono (hS : ∀ b, S b → S' b) (h : MIn S w s m) : MIn S' w s m := ⟨h.q.mono hS hS, h.a.mono hS hS, h.u.mono hS hS, h.x.mono hS hS, h.cq, h.ca, h.cu, h.cx, h.ii, h.io, h.ir, h.is⟩
theorem MIn.keep (hS : ∀ b, S b → w'.heap[b]? = w.heap[b]?) (h : MIn S w s m) : MIn S w' s m := ⟨h.q.keep hS hS, h.a.keep hS hS, h.u.keep hS hS, h.x.keep hS hS, h.cq, h.ca, h.cu, h.cx, h.ii, h.io, h.ir, h.is⟩
theorem MIn.chg (h : MIn S w s m) (hc : Chg F w w') (hl : ∀ b, S b → b < w.heap.size ∧ ¬ F b) : MIn S w' s m := h.keep fun b hb => hc.block b (hl b hb).1 (hl b hb).2
theorem MIn.below (h : MIn S w s m) (hb : Below w.heap.size w w') (hl : ∀ b, S b → b < w.heap.size) : MIn S w' s m := h.keep fun b hbS => hb.block b (hl b hbS)
end
/-- A message in a block of its own. -/
def MRow (w : World) (q : Nat) (s : MS) (m : Ms) : Prop := w.heap[q]? = some (.cells (mCells s m) 31 (0, 0))
def MCells (w : World) (q : Nat) (s : MS) (m : Ms) : Prop := w.cell? ⟨q, 0, none⟩ = some (.int .i64 m.id) ∧ w.cell? ⟨q, 1, none⟩ = some (.bool m.resp) ∧ w.cell? ⟨q, 2, none⟩ = some (.int .i64 m.op) ∧ w.cell? ⟨q, 3, none⟩ = some (.bool m.aa) ∧ w.cell? ⟨q, 4, none⟩ = some (.bool m.tc) ∧ w.cell? ⟨q, 5, none⟩ = some (.bool m.rd) ∧ w.cell? ⟨q, 6, none⟩ = some (.bool m.ra) ∧ w.cell? ⟨q, 7, none⟩ = some (.int .i64 m.rcode) ∧ w.cell? ⟨q, 8, none⟩ = some (.slice s.Q m.qs.length s.qc) ∧ w.cell? ⟨q, 9, none⟩ = some (.slice s.A m.an.length s.ac) ∧ w.cell? ⟨q, 10, none⟩ = some (.slice s.U m.au.length s.uc) ∧ w.cell? ⟨q, 11, none⟩ = some (.slice s.X m.ex.length s.xc) ∧ w.cell? ⟨q, 12, none⟩ = some (.bool m.edns) ∧ w.cell? ⟨q, 13, none⟩ = some (.int .i64 m.size)
section
variable {w w' : World} {q : Nat} {s s' : MS} {m m' : Ms}
theorem MRow.lt (h : MRow w q s m) : q < w.heap.size := (Array.getElem?_eq_some_iff.1 h).1
theorem MRow.below (h : MRow w q s m) (hb : Below w.heap.size w w') : MRow w' q s m := (hb.block q h.lt).trans h
theorem MRow.cell (h : MRow w q s m) (j : Nat) : w.cell? ⟨q, j, none⟩ = (mCells s m)[j]? := cell_of_row _ _ _ _ _ _ h
theorem MRow.free (h : MRow w q s m) (j : Nat) : w.frozen? ⟨q, j, none⟩ = false := frozen_of_row _ _ _ _ _ h
theorem MRow.put (h : MRow w q s m) (j : Nat) (v : Value) (s' : MS) (m' : Ms) (e : (mCells s m).setIfInBounds j v = mCells s' m') : MRow (w.setCell ⟨q, j, none⟩ v) q s' m' := by
  unfold MRow
  rw [← e]
  exact heap_setCell_same _ _ _ _ _ _ h
theorem MRow.cells (h : MRow w q s m) : MCells w q s m :=
  ⟨(h.cell 0).trans rfl, (h.cell 1).trans rfl, (h.cell 2).trans rfl, (h.cell 3).trans rfl, (h.cell 4).trans rfl, (h.cell 5).trans rfl, (h.cell 6).trans rfl, (h.cell 7).trans rfl, (h.cell 8).trans rfl, (h.cell 9).trans rfl, (h.cell 10).trans rfl, (h.cell 11).trans rfl, (h.cell 12).trans rfl, (h.cell 13).trans rfl⟩
theorem MRow.made (w : World) (s : MS) (m : Ms) : MRow (w.alloc (.cells (mCells s m) 31)) w.heap.size s m := heap_alloc_new w _
end

/-- Fourteen stores. -/
def put14 (w : World) (q : Nat) (v0 v1 v2 v3 v4 v5 v6 v7 v8 v9 v10 v11 v12 v13 : Value) : World := ((((((((((((((w.setCell ⟨q, 0, none⟩ v0).setCell ⟨q, 1, none⟩ v1).setCell ⟨q, 2, none⟩ v2).setCell ⟨q, 3, none⟩ v3).setCell ⟨q, 4, none⟩ v4).setCell ⟨q, 5, none⟩ v5).setCell ⟨q, 6, none⟩ v6).setCell ⟨q, 7, none⟩ v7).setCell ⟨q, 8, none⟩ v8).setCell ⟨q, 9, none⟩ v9).setCell ⟨q, 10, none⟩ v10).setCell ⟨q, 11, none⟩ v11).setCell ⟨q, 12, none⟩ v12).setCell ⟨q, 13, none⟩ v13)
theorem set14 {w : World} {q : Nat} {t : TypeId} {a0 a1 a2 a3 a4 a5 a6 a7 a8 a9 a10 a11 a12 a13 : Value} (h : w.heap[q]? = some (.cells #[a0, a1, a2, a3, a4, a5, a6, a7, a8, a9, a10, a11, a12, a13] t (0, 0))) (v0 v1 v2 v3 v4 v5 v6 v7 v8 v9 v10 v11 v12 v13 : Value) : (put14 w q v0 v1 v2 v3 v4 v5 v6 v7 v8 v9 v10 v11 v12 v13).heap[q]? = some (.cells #[v0, v1, v2, v3, v4, v5, v6, v7, v8, v9, v10, v11, v12, v13] t (0, 0)) := by
  unfold put14
  have h0 : (w.setCell ⟨q, 0, none⟩ v0).heap[q]? = some (.cells #[v0, a1, a2, a3, a4, a5, a6, a7, a8, a9, a10, a11, a12, a13] t (0, 0)) := heap_setCell_same _ _ 0 _ _ v0 h
  have h1 : ((w.setCell ⟨q, 0, none⟩ v0).setCell ⟨q, 1, none⟩ v1).heap[q]? = some (.cells #[v0, v1, a2, a3, a4, a5, a6, a7, a8, a9, a10, a11, a12, a13] t (0, 0)) := heap_setCell_same _ _ 1 _ _ v1 h0
  have h2 : (((w.setCell ⟨q, 0, none⟩ v0).setCell ⟨q, 1, none⟩ v1).setCell ⟨q, 2, none⟩ v2).heap[q]? = some (.cells #[v0, v1, v2, a3, a4, a5, a6, a7, a8, a9, a10, a11, a12, a13] t (0, 0)) := heap_setCell_same _ _ 2 _ _ v2 h1
  have h3 : ((((w.setCell ⟨q, 0, none⟩ v0).setCell ⟨q, 1, none⟩ v1).setCell ⟨q, 2, none⟩ v2).setCell ⟨q, 3, none⟩ v3).heap[q]? = some (.cells #[v0, v1, v2, v3, a4, a5, a6, a7, a8, a9, a10, a11, a12, a13] t (0, 0)) := heap_setCell_same _ _ 3 _ _ v3 h2
  have h4 : (((((w.setCell ⟨q, 0, none⟩ v0).setCell ⟨q, 1, none⟩ v1).setCell ⟨q, 2, none⟩ v2).setCell ⟨q, 3, none⟩ v3).setCell ⟨q, 4, none⟩ v4).heap[q]? = some (.cells #[v0, v1, v2, v3, v4, a5, a6, a7, a8, a9, a10, a11, a12, a13] t (0, 0)) := heap_setCell_same _ _ 4 _ _ v4 h3
  have h5 : ((((((w.setCell ⟨q, 0, none⟩ v0).setCell ⟨q, 1, none⟩ v1).setCell ⟨q, 2, none⟩ v2).setCell ⟨q, 3, none⟩ v3).setCell ⟨q, 4, none⟩ v4).setCell ⟨q, 5, none⟩ v5).heap[q]? = some (.cells #[v0, v1, v2, v3, v4, v5, a6, a7, a8, a9, a10, a11, a12, a13] t (0, 0)) := heap_setCell_same _ _ 5 _ _ v5 h4
  have h6 : (((((((w.setCell ⟨q, 0, none⟩ v0).setCell ⟨q, 1, none⟩ v1).setCell ⟨q, 2, none⟩ v2).setCell ⟨q, 3, none⟩ v3).setCell ⟨q, 4, none⟩ v4).setCell ⟨q, 5, none⟩ v5).setCell ⟨q, 6, none⟩ v6).heap[q]? = some (.cells #[v0, v1, v2, v3, v4, v5, v6, a7, a8, a9, a10, a11, a12, a13] t (0, 0)) := heap_setCell_same _ _ 6 _ _ v6 h5
  have h7 : ((((((((w.setCell ⟨q, 0, none⟩ v0).setCell ⟨q, 1, none⟩ v1).setCell ⟨q, 2, none⟩ v2).setCell ⟨q, 3, none⟩ v3).setCell ⟨q, 4, none⟩ v4).setCell ⟨q, 5, none⟩ v5).setCell ⟨q, 6, none⟩ v6).setCell ⟨q, 7, none⟩ v7).heap[q]? = some (.cells #[v0, v1, v2, v3, v4, v5, v6, v7, a8, a9, a10, a11, a12, a13] t (0, 0)) := heap_setCell_same _ _ 7 _ _ v7 h6
  have h8 : (((((((((w.setCell ⟨q, 0, none⟩ v0).setCell ⟨q, 1, none⟩ v1).setCell ⟨q, 2, none⟩ v2).setCell ⟨q, 3, none⟩ v3).setCell ⟨q, 4, none⟩ v4).setCell ⟨q, 5, none⟩ v5).setCell ⟨q, 6, none⟩ v6).setCell ⟨q, 7, none⟩ v7).setCell ⟨q, 8, none⟩ v8).heap[q]? = some (.cells #[v0, v1, v2, v3, v4, v5, v6, v7, v8, a9, a10, a11, a12, a13] t (0, 0)) := heap_setCell_same _ _ 8 _ _ v8 h7
  have h9 : ((((((((((w.setCell ⟨q, 0, none⟩ v0).setCell ⟨q, 1, none⟩ v1).setCell ⟨q, 2, none⟩ v2).setCell ⟨q, 3, none⟩ v3).setCell ⟨q, 4, none⟩ v4).setCell ⟨q, 5, none⟩ v5).setCell ⟨q, 6, none⟩ v6).setCell ⟨q, 7, none⟩ v7).setCell ⟨q, 8, none⟩ v8).setCell ⟨q, 9, none⟩ v9).heap[q]? = some (.cells #[v0, v1, v2, v3, v4, v5, v6, v7, v8, v9, a10, a11, a12, a13] t (0, 0)) := heap_setCell_same _ _ 9 _ _ v9 h8
  have h10 : (((((((((((w.setCell ⟨q, 0, none⟩ v0).setCell ⟨q, 1, none⟩ v1).setCell ⟨q, 2, none⟩ v2).setCell ⟨q, 3, none⟩ v3).setCell ⟨q, 4, none⟩ v4).setCell ⟨q, 5, none⟩ v5).setCell ⟨q, 6, none⟩ v6).setCell ⟨q, 7, none⟩ v7).setCell ⟨q, 8, none⟩ v8).setCell ⟨q, 9, none⟩ v9).setCell ⟨q, 10, none⟩ v10).heap[q]? = some (.cells #[v0, v1, v2, v3, v4, v5, v6, v7, v8, v9, v10, a11, a12, a13] t (0, 0)) := heap_setCell_same _ _ 10 _ _ v10 h9
  have h11 : ((((((((((((w.setCell ⟨q, 0, none⟩ v0).setCell ⟨q, 1, none⟩ v1).setCell ⟨q, 2, none⟩ v2).setCell ⟨q, 3, none⟩ v3).setCell ⟨q, 4, none⟩ v4).setCell ⟨q, 5, none⟩ v5).setCell ⟨q, 6, none⟩ v6).setCell ⟨q, 7, none⟩ v7).setCell ⟨q, 8, none⟩ v8).setCell ⟨q, 9, none⟩ v9).setCell ⟨q, 10, none⟩ v10).setCell ⟨q, 11, none⟩ v11).heap[q]? = some (.cells #[v0, v1, v2, v3, v4, v5, v6, v7, v8, v9, v10, v11, a12, a13] t (0, 0)) := heap_setCell_same _ _ 11 _ _ v11 h10
  have h12 : (((((((((((((w.setCell ⟨q, 0, none⟩ v0).setCell ⟨q, 1, none⟩ v1).setCell ⟨q, 2, none⟩ v2).setCell ⟨q, 3, none⟩ v3).setCell ⟨q, 4, none⟩ v4).setCell ⟨q, 5, none⟩ v5).setCell ⟨q, 6, none⟩ v6).setCell ⟨q, 7, none⟩ v7).setCell ⟨q, 8, none⟩ v8).setCell ⟨q, 9, none⟩ v9).setCell ⟨q, 10, none⟩ v10).setCell ⟨q, 11, none⟩ v11).setCell ⟨q, 12, none⟩ v12).heap[q]? = some (.cells #[v0, v1, v2, v3, v4, v5, v6, v7, v8, v9, v10, v11, v12, a13] t (0, 0)) := heap_setCell_same _ _ 12 _ _ v12 h11
  have h13 : ((((((((((((((w.setCell ⟨q, 0, none⟩ v0).setCell ⟨q, 1, none⟩ v1).setCell ⟨q, 2, none⟩ v2).setCell ⟨q, 3, none⟩ v3).setCell ⟨q, 4, none⟩ v4).setCell ⟨q, 5, none⟩ v5).setCell ⟨q, 6, none⟩ v6).setCell ⟨q, 7, none⟩ v7).setCell ⟨q, 8, none⟩ v8).setCell ⟨q, 9, none⟩ v9).setCell ⟨q, 10, none⟩ v10).setCell ⟨q, 11, none⟩ v11).setCell ⟨q, 12, none⟩ v12).setCell ⟨q, 13, none⟩ v13).heap[q]? = some (.cells #[v0, v1, v2, v3, v4, v5, v6, v7, v8, v9, v10, v11, v12, v13] t (0, 0)) := heap_setCell_same _ _ 13 _ _ v13 h12
  exact h13
theorem chg14 (w : World) (q : Nat) (v0 v1 v2 v3 v4 v5 v6 v7 v8 v9 v10 v11 v12 v13 : Value) : Chg (fun k => k = q) w (put14 w q v0 v1 v2 v3 v4 v5 v6 v7 v8 v9 v10 v11 v12 v13) := by
  unfold put14
  have k : ∀ {u : World} (j : Nat) (v : Value), Chg (fun k => k = q) w u → Chg (fun k => k = q) w (u.setCell ⟨q, j, none⟩ v) := fun j v h => h.setCell (p := ⟨q, j, none⟩) (Or.inl rfl) v
  exact (k 13 v13 (k 12 v12 (k 11 v11 (k 10 v10 (k 9 v9 (k 8 v8 (k 7 v7 (k 6 v6 (k 5 v5 (k 4 v4 (k 3 v3 (k 2 v2 (k 1 v1 (k 0 v0 (Chg.refl _ w)))))))))))))))
theorem MRow.fill {w : World} {q : Nat} {s : MS} {m : Ms} (h : MRow w q s m) (s' : MS) (m' : Ms) : MRow (put14 w q (.int .i64 m'.id) (.bool m'.resp) (.int .i64 m'.op) (.bool m'.aa) (.bool m'.tc) (.bool m'.rd) (.bool m'.ra) (.int .i64 m'.rcode) (.slice s'.Q m'.qs.length s'.qc) (.slice s'.A m'.an.length s'.ac) (.slice s'.U m'.au.length s'.uc) (.slice s'.X m'.ex.length s'.xc) (.bool m'.edns) (.int .i64 m'.size)) q s' m' := set14 h (.int .i64 m'.id) (.bool m'.resp) (.int .i64 m'.op) (.bool m'.aa) (.bool m'.tc) (.bool m'.rd) (.bool m'.ra) (.int .i64 m'.rcode) (.slice s'.Q m'.qs.length s'.qc) (.slice s'.A m'.an.length s'.ac) (.slice s'.U m'.au.length s'.uc) (.slice s'.X m'.ex.length s'.xc) (.bool m'.edns) (.int .i64 m'.size)
/-- A question in a block of its own. -/
def qCells (s : QS) (x : Qu) : Array Value := #[.slice s.A x.name.length s.c, .int .i64 x.type, .int .i64 x.cls]
def QRow (w : World) (q : Nat) (s : QS) (x : Qu) : Prop := w.heap[q]? = some (.cells (qCells s x) 25 (0, 0))
section
variable {w w' : World} {q : Nat} {s s' : QS} {x x' : Qu}
theorem QRow.lt (h : QRow w q s x) : q < w.heap.size := (Array.getElem?_eq_some_iff.1 h).1
theorem QRow.below (h : QRow w q s x) (hb : Below w.heap.size w w') : QRow w' q s x := (hb.block q h.lt).trans h
theorem QRow.cell (h : QRow w q s x) (j : Nat) : w.cell? ⟨q, j, none⟩ = (qCells s x)[j]? := cell_of_row _ _ _ _ _ _ h
theorem QRow.free (h : QRow w q s x) (j : Nat) : w.frozen? ⟨q, j, none⟩ = false := frozen_of_row _ _ _ _ _ h
theorem QRow.put (h : QRow w q s x) (j : Nat) (v : Value) (s' : QS) (x' : Qu) (e : (qCells s x).setIfInBounds j v = qCells s' x') : QRow (w.setCell ⟨q, j, none⟩ v) q s' x' := by
  unfold QRow
  rw [← e]
  exact heap_setCell_same _ _ _ _ _ _ h
theorem QRow.cells (h : QRow w q s x) : QCells w q 0 s x := ⟨(h.cell 0).trans rfl, (h.cell 1).trans rfl, (h.cell 2).trans rfl⟩
theorem QRow.made (w : World) (s : QS) (x : Qu) : QRow (w.alloc (.cells (qCells s x) 25)) w.heap.size s x := heap_alloc_new w _
end
def Ms.zero : Ms := ⟨0, false, 0, false, false, false, false, 0, [], [], [], [], false, 0⟩
/-- From B on, all the way. -/
theorem els_ge {α : Type} {E : Enc α} {B : Nat} {w w' : World} {F : Nat → Prop} {A : Option Addr} {n : Nat} {xs : List α} (h : Els E (geS B w) (geS B w) w A n xs) (hc : Chg F w w') (hF : ∀ k, B ≤ k → k < w.heap.size → ¬ F k) : Els E (geS B w') (geS B w') w' A n xs :=
  have hk : ∀ b, geS B w b → w'.heap[b]? = w.heap[b]? := fun b hb => hc.block b hb.2 (hF b hb.1 hb.2)
  have hm : ∀ b, geS B w b → geS B w' b := fun _ hb => ⟨hb.1, Nat.lt_of_lt_of_le hb.2 hc.size⟩
  (h.keep hk hk).mono hm hm
theorem els_geB {α : Type} {E : Enc α} {B : Nat} {w w' : World} {A : Option Addr} {n : Nat} {xs : List α} (h : Els E (geS B w) (geS B w) w A n xs) (hb : Below w.heap.size w w') : Els E (geS B w') (geS B w') w' A n xs :=
  els_ge h (Chg.of_below (F := fun _ => False) hb) (fun _ _ _ h => h)
theorem els_le {α : Type} {E : Enc α} {B C : Nat} {w : World} {A : Option Addr} {n : Nat} {xs : List α} (h : Els E (geS C w) (geS C w) w A n xs) (hB : B ≤ C) : Els E (geS B w) (geS B w) w A n xs :=
  have hm : ∀ b, geS C w b → geS B w b := fun _ hb => ⟨Nat.le_trans hB hb.1, hb.2⟩
  h.mono hm hm
end Go.Proofs.Ytimkdpkhdbiniaa
