/- Parts of a proof, joined: Wget, FlashPlain, FlashMem, Flash1, Flash2, RdG1, RdG2, RdG3, Ints, RdG4, RdG5. -/
import Derived.Defers
import Derived.Recover
import Derived.StillTailTactics
import Derived.Test.YtbjaphldncagjaaChecked
import Derived.Test.YtbjaphldncagjaaG04
import Derived.Test.YtbjaphldncagjaaG02
import Derived.Test.YtbjaphldncagjaaG01
import Derived.Test.YtbjaphldncagjaaG03
/- wname.Get: the name at a place, as the program reads it. -/
namespace Go.Proofs.Ytbjaphldncagjaa
open Go.RowKit

def RetW (r : List (List UInt8) × Int × Int) (w : World) (e : Ending) (w' : World) : Prop := ∃ v, e = .returned (.tuple #[v, .int .i64 r.2.1, .int .i64 r.2.2]) ∧ OwnS w' w.heap.size v r.1 ∧ Below w.heap.size w w'

theorem retG_eq {r r' : Int × Int} (h : r = r') {w : World} {e : Ending} {w' : World} (hr : RetG r w e w') : RetG r' w e w' := h ▸ hr

set_option maxRecDepth 100000 in
set_option maxHeartbeats 1000000 in
theorem wget_any (A : Option Addr) (m c : Nat) (bs : List UInt8) (p : Int) (w : World) (hb : RdB w A m bs) (hm : m ≤ c) (hc : m ≤ 140737488355328) :
    Calls Try.prog 117 #[.slice A m c, .int .i64 p] w (RetW (if p < 0 then ([], 0, 1) else getP bs p.toNat p.toNat 0 []) w) := by
  have hlb := hb.len
  subst hlb
  by_cases hp : p < 0
  · rw [if_pos hp]
    go_enter Try.func117, Try.ntmps117
    go_wp2
    go_ret3
    exact ⟨_, rfl, OwnE.nil _ _ _ _, bl⟩
  · rw [if_neg hp]
    obtain ⟨q, rfl⟩ := Int.eq_ofNat_of_zero_le (show 0 ≤ p by omega)
    rw [Int.toNat_natCast]
    obtain ⟨R, hR⟩ : ∃ R, R = getP bs q q 0 [] := ⟨_, rfl⟩
    rw [← hR]
    have HR := Lib.hid hR
    clear hR
    go_enter Try.func117, Try.ntmps117
    go_wp2
    go_loopw [1, 4, 5, 7, 8, 9, 10, 11, 12] (fun at_ n nx bg sz _ _ _ _ wr => ∃ (a0 b0 x0 : Nat) (ls : List (List UInt8)), at_ = .int .i64 a0 ∧ bg = .int .i64 b0 ∧ nx = .int .i64 x0 ∧ sz = .int .i64 (sizeN ls : Nat) ∧ sizeN ls ≤ 255 ∧ R = getP bs a0 b0 x0 ls ∧
        x0 ≤ bs.length + 2 ∧ OwnS wr w.heap.size n ls ∧ Below w.heap.size w wr) (fun _ _ _ bg sz _ _ _ _ _ => (intOf bg).toNat * 256 + (255 - (intOf sz).toNat))
    case atStart => exact ⟨q, q, 0, [], rfl, rfl, rfl, rfl, by simp [sizeN], HR.out, by omega, OwnE.nil _ _ _ _, bl⟩
    case round =>
      obtain ⟨a0, b0, x0, ls, rfl, rfl, rfl, rfl, hsz, hRe, hx0, hown, hbw⟩ := hrel
      have HRE := Lib.hid hRe
      clear hRe
      have hbr := hb.below hbw
      rcases hca : bs[a0]? with _ | ca
      · have hg1 := Lib.hid (getN_1n hca)
        have hl : bs.length ≤ a0 := List.getElem?_eq_none_iff.1 hca
        have hRv : Hid (R = ([], 0, 3)) := HRE.out.trans (getP_short hl)
        rw [hRv.out]
        clear hca
        go_wp2_with (go_at_call 118; refine (get_any _ _ _ bs _ _ _ hbr hm hc).mono ?_; rintro e w' ⟨he, rfl⟩; rw [hg1.out] at he; subst he)
        go_ret3
        exact ⟨_, rfl, OwnE.nil _ _ _ _, hbw⟩
      · have hg1 := getN_1s hca
        have hl : a0 < bs.length := (List.getElem?_eq_some_iff.1 hca).1
        have HCA := Lib.hid hca
        clear hca
        obtain ⟨k, hk⟩ : ∃ k, k = ca.toNat := ⟨_, rfl⟩
        have hk8 : k < 256 := by rw [hk]; exact ca.toNat_lt
        rw [← hk] at hg1
        have hg1 := Lib.hid hg1
        have HK := Lib.hid hk
        clear hk
        by_cases hk0 : k = 0
        · have hRv : Hid (R = (ls, ((max x0 (a0 + 1) : Nat) : Int), 0)) := HRE.out.trans (getP_end HCA.out (by rw [← HK.out]; exact hk0))
          subst hk0
          by_cases hx1 : x0 < a0 + 1
          · rw [show max x0 (a0 + 1) = a0 + 1 by omega] at hRv
            rw [hRv.out]
            go_wp2_with (go_at_call 118; refine (get_any _ _ _ bs _ _ _ hbr hm hc).mono ?_; rintro e w' ⟨he, rfl⟩; rw [hg1.out] at he; subst he)
            go_ret3
            exact ⟨_, rfl, hown, hbw⟩
          · rw [show max x0 (a0 + 1) = x0 by omega] at hRv
            rw [hRv.out]
            go_wp2_with (go_at_call 118; refine (get_any _ _ _ bs _ _ _ hbr hm hc).mono ?_; rintro e w' ⟨he, rfl⟩; rw [hg1.out] at he; subst he)
            go_ret3
            exact ⟨_, rfl, hown, hbw⟩
        · have e0 : ((k : Int) == 0) = false := by rw [beq_eq_false_iff_ne]; omega
          by_cases hk2 : 192 ≤ k
          · rcases hda : bs[a0 + 1]? with _ | da
            · have hg2 := Lib.hid (getN_2n HCA.out hda)
              have hl2 : bs.length ≤ a0 + 1 := List.getElem?_eq_none_iff.1 hda
              have hRv : Hid (R = ([], 0, 3)) := HRE.out.trans (getP_short2 HCA.out (by rw [← HK.out]; exact hk2) hl2)
              rw [hRv.out]
              clear hda hk0
              go_wp2_with (go_at_call 118; refine (get_any _ _ _ bs _ _ _ hbr hm hc).mono ?_; rintro e w' ⟨he, rfl⟩; first | rw [hg1.out] at he | rw [hg2.out] at he; subst he)
              go_ret3
              exact ⟨_, rfl, OwnE.nil _ _ _ _, hbw⟩
            · have hg2 := getN_2s HCA.out hda
              have hl2 : a0 + 1 < bs.length := (List.getElem?_eq_some_iff.1 hda).1
              have HDA := Lib.hid hda
              obtain ⟨t, ht⟩ : ∃ t, t = ca.toNat * 256 + da.toNat := ⟨_, rfl⟩
              have ht6 : t < 65536 := by have := ca.toNat_lt; have := da.toNat_lt; omega
              rw [← ht] at hg2
              have hg2 := Lib.hid hg2
              have HT := Lib.hid ht
              have hand := and_16383 t (by omega)
              obtain ⟨u, hu⟩ : ∃ u, u = t % 16384 := ⟨_, rfl⟩
              rw [← hu] at hand
              have hu2 : u < 16384 := by omega
              have HU := Lib.hid hu
              clear hda hk0 ht hu
              by_cases hub : u < b0
              · have hRv : Hid (R = getP bs u u (max x0 (a0 + 2)) ls) := HRE.out.trans (by
                  have h := getP_ptr (nx := x0) (ls := ls) (beg := b0) HCA.out (by rw [← HK.out]; exact hk2) HDA.out (by rw [← HT.out, ← HU.out]; exact hub)
                  rw [← HT.out, ← HU.out] at h; exact h)
                by_cases hx1 : x0 < a0 + 2
                · rw [show max x0 (a0 + 2) = a0 + 2 by omega] at hRv
                  go_wp2_with (go_at_call 118; refine (get_any _ _ _ bs _ _ _ hbr hm hc).mono ?_; rintro e w' ⟨he, rfl⟩; first | rw [hg1.out] at he | rw [hg2.out] at he; subst he)
                  go_roundw
                  case rel => exact ⟨u, u, a0 + 2, ls, rfl, rfl, rfl, rfl, hsz, hRv.out, by omega, hown, hbw⟩
                  case measure => simp [intOf]; omega
                · rw [show max x0 (a0 + 2) = x0 by omega] at hRv
                  go_wp2_with (go_at_call 118; refine (get_any _ _ _ bs _ _ _ hbr hm hc).mono ?_; rintro e w' ⟨he, rfl⟩; first | rw [hg1.out] at he | rw [hg2.out] at he; subst he)
                  go_roundw
                  case rel => exact ⟨u, u, x0, ls, rfl, rfl, rfl, rfl, hsz, hRv.out, by omega, hown, hbw⟩
                  case measure => simp [intOf]; omega
              · have hRv : Hid (R = ([], 0, 6)) := HRE.out.trans (getP_loop HCA.out (by rw [← HK.out]; exact hk2) HDA.out (by rw [← HT.out, ← HU.out]; exact hub))
                rw [hRv.out]
                by_cases hx1 : x0 < a0 + 2
                · go_wp2_with (go_at_call 118; refine (get_any _ _ _ bs _ _ _ hbr hm hc).mono ?_; rintro e w' ⟨he, rfl⟩; first | rw [hg1.out] at he | rw [hg2.out] at he; subst he)
                  go_ret3
                  exact ⟨_, rfl, OwnE.nil _ _ _ _, hbw⟩
                · go_wp2_with (go_at_call 118; refine (get_any _ _ _ bs _ _ _ hbr hm hc).mono ?_; rintro e w' ⟨he, rfl⟩; first | rw [hg1.out] at he | rw [hg2.out] at he; subst he)
                  go_ret3
                  exact ⟨_, rfl, OwnE.nil _ _ _ _, hbw⟩
          · by_cases hk3 : 63 < k
            · have hRv : Hid (R = ([], 0, 5)) := HRE.out.trans (getP_name HCA.out (by rw [← HK.out]; exact hk3) (by rw [← HK.out]; omega))
              rw [hRv.out]
              clear hk0
              go_wp2_with (go_at_call 118; refine (get_any _ _ _ bs _ _ _ hbr hm hc).mono ?_; rintro e w' ⟨he, rfl⟩; rw [hg1.out] at he; subst he)
              go_ret3
              exact ⟨_, rfl, OwnE.nil _ _ _ _, hbw⟩
            · by_cases hk4 : bs.length < a0 + 1 + k
              · have hRv : Hid (R = ([], 0, 3)) := HRE.out.trans (getP_cut HCA.out (by rw [← HK.out]; exact hk0) (by rw [← HK.out]; omega) (by rw [← HK.out]; exact hk4))
                rw [hRv.out]
                clear hk0
                go_wp2_with (go_at_call 118; refine (get_any _ _ _ bs _ _ _ hbr hm hc).mono ?_; rintro e w' ⟨he, rfl⟩; rw [hg1.out] at he; subst he)
                go_ret3
                exact ⟨_, rfl, OwnE.nil _ _ _ _, hbw⟩
              · by_cases hk5 : 255 < sizeN ls + 1 + k
                · have hRv : Hid (R = ([], 0, 5)) := HRE.out.trans (getP_long HCA.out (by rw [← HK.out]; exact hk0) (by rw [← HK.out]; omega) (by rw [← HK.out]; omega) (by rw [← HK.out]; exact hk5))
                  rw [hRv.out]
                  clear hk0
                  go_wp2_with (go_at_call 118; refine (get_any _ _ _ bs _ _ _ hbr hm hc).mono ?_; rintro e w' ⟨he, rfl⟩; rw [hg1.out] at he; subst he)
                  go_ret3
                  exact ⟨_, rfl, OwnE.nil _ _ _ _, hbw⟩
                · have hRv : Hid (R = getP bs (a0 + 1 + k) b0 x0 (ls ++ [(bs.drop (a0 + 1)).take k])) := HRE.out.trans (by
                    have h := getP_label (nx := x0) (ls := ls) (beg := b0) HCA.out (by rw [← HK.out]; exact hk0) (by rw [← HK.out]; omega) (by rw [← HK.out]; omega) (by rw [← HK.out]; omega)
                    rw [← HK.out] at h; exact h)
                  have hk1 : 1 ≤ k := by omega
                  clear hk0
                  obtain ⟨b, off, rfl, _⟩ := hb.flat (by omega)
                  have hcut := hbr.cut (i := a0 + 1) (k := k) (by omega)
                  obtain ⟨seg, hseg⟩ : ∃ seg, seg = (bs.drop (a0 + 1)).take k := ⟨_, rfl⟩
                  rw [← hseg] at hcut hRv
                  have hsl : seg.length = k := hcut.len
                  have hcv := conv_str (P := Try.prog) _ _ _ Try.underlying35 Try.underlying5 Try.underlying9 wr (some ⟨b, off + (a0 + 1), none⟩) k (c - (a0 + 1)) seg hcut
                  have hsn := sizeN_snoc ls seg
                  have hll := sizeN_length ls
                  have HSL := Lib.hid hsl
                  have HSN := Lib.hid hsn
                  clear hseg hsl hsn hcut
                  go_wp2_with (first
                    | (go_at_call 118; refine (get_any _ _ _ bs _ _ _ hbr hm hc).mono ?_; rintro e w' ⟨he, rfl⟩; rw [hg1.out] at he; subst he)
                    | ((with_reducible show wpList _ _ _ (⟨some 39, _, _, _, _, _⟩ :: _) _ _); refine wpL_pushS rfl (.tmp 28) (.tmp 38) rfl w.heap.size _ ls rfl hown seg ?hy rfl ?hb hbw.size ?_; rotate_right; intro v2 w2 hown2 hg2 _))
                  case hy => rw [HSL.out]; unfold maxLen; omega
                  case hb => omega
                  go_roundw
                  case rel => exact ⟨a0 + 1 + k, b0, x0, ls ++ [seg], by go_num, rfl, rfl, by rw [HSN.out, HSL.out]; go_num, by rw [HSN.out, HSL.out]; omega, hRv.out, hx0, hown2, hbw.grown hg2 hbw.size (fun j hj => (hown.lt j hj).1)⟩
                  case measure => simp [intOf]; omega
end Go.Proofs.Ytbjaphldncagjaa

/- flash: what a device answers, in plain Lean. No program in it. -/
namespace Go.Proofs.Ytbjaphldncagjaa

/-- A device: each sector that is sure (none: torn); the writes that are not; the limit; is the power gone. -/
structure Dv where
  sure : List (Option (List UInt8))
  unsure : List (Int × List UInt8)
  limit : Int
  down : Bool

def pad (bs : List UInt8) : List UInt8 := bs ++ List.replicate (512 - bs.length) 0
def Dv.chk (d : Dv) (k : Int) : Int := if d.down = true then 8 else if k < 0 ∨ (d.sure.length : Int) ≤ k then 1 else 0
/-- The data of the last write to a place. -/
def lastW : List (Int × List UInt8) → Int → Option (List UInt8)
  | [], _ => none
  | (p, b) :: l, k => match lastW l k with
    | some x => some x
    | none => if p = k then some b else none
def Dv.readV (d : Dv) (k : Int) : List UInt8 × Int :=
  match lastW d.unsure k with
  | some b => (b, 0)
  | none => match d.sure[k.toNat]? with
    | some (some b) => (b, 0)
    | some none => ([], 9)
    | none => ([], 1)
def Dv.read (d : Dv) (k : Int) : List UInt8 × Int := if d.chk k = 0 then d.readV k else ([], d.chk k)
/-- Does the power stay? -/
def Dv.stays (d : Dv) : Bool := if d.limit = 0 then true else decide (d.limit ≠ 1)
def Dv.spent (d : Dv) : Dv := if d.limit = 0 then d else { d with limit := d.limit - 1, down := decide (d.limit = 1) }
def Dv.write (d : Dv) (k : Int) (bs : List UInt8) : Dv × Int :=
  if d.chk k = 0 then
    if 512 < bs.length then (d, 1)
    else if d.stays = true then ({ d.spent with unsure := d.unsure ++ [(k, pad bs)] }, 0) else (d.spent, 8)
  else (d, d.chk k)
/-- A write is done; torn: as such. -/
def doneL (s : List (Option (List UInt8))) (k : Int) (b : List UInt8) (torn : Bool) : List (Option (List UInt8)) := s.set k.toNat (if torn = true then none else some b)
def syncL : List (Int × List UInt8) → List (Option (List UInt8)) → List (Option (List UInt8))
  | [], s => s
  | (k, b) :: l, s => syncL l (doneL s k b false)
def Dv.sync (d : Dv) : Dv × Int :=
  if d.down = true then (d, 8)
  else if d.stays = true then ({ d.spent with sure := syncL d.unsure d.sure, unsure := [] }, 0) else (d.spent, 8)
def bitN (x k : Nat) : Bool := x / 2 ^ (k % 64) % 2 == 1
def crashL (mask torn : Nat) : Nat → List (Int × List UInt8) → List (Option (List UInt8)) → List (Option (List UInt8))
  | _, [], s => s
  | k, (p, b) :: l, s => crashL mask torn (k + 1) l (if bitN torn k = true then doneL s p b true else if bitN mask k = true then doneL s p b false else s)
def Dv.crash (d : Dv) (mask torn : Nat) : Dv := { sure := crashL mask torn 0 d.unsure d.sure, unsure := [], limit := 0, down := false }
def zero512 : List UInt8 := List.replicate 512 0
theorem zero512_len : zero512.length = 512 := List.length_replicate
def Dv.new (n : Nat) : Dv := { sure := List.replicate n (some zero512), unsure := [], limit := 0, down := false }

/-- A device that may be: sectors of 512 bytes, places that are there. -/
structure Dv.Fine (d : Dv) : Prop where
  sure : ∀ b, some b ∈ d.sure → b.length = 512
  unsure : ∀ p ∈ d.unsure, 0 ≤ p.1 ∧ p.1 < d.sure.length ∧ p.2.length = 512
  size : d.sure.length ≤ 4096
  limit : 0 ≤ d.limit ∧ d.limit ≤ 9223372036854775807

theorem pad_len {bs : List UInt8} (h : bs.length ≤ 512) : (pad bs).length = 512 := by unfold pad; simp; omega
theorem lastW_snoc (l : List (Int × List UInt8)) (p k : Int) (b : List UInt8) : lastW (l ++ [(p, b)]) k = if p = k then some b else lastW l k := by
  induction l with
  | nil => simp [lastW]
  | cons x l ih =>
    obtain ⟨q, c⟩ := x
    simp only [List.cons_append, lastW, ih]
    by_cases h : p = k <;> simp [h]
theorem lastW_take {l : List (Int × List UInt8)} {k : Int} {i : Nat} {p : Int} {b : List UInt8} (h : l[i]? = some (p, b)) : lastW (l.take (i + 1)) k = if p = k then some b else lastW (l.take i) k := by
  rw [List.take_add_one, h, Option.toList_some, lastW_snoc]
theorem lastW_mem {l : List (Int × List UInt8)} {k : Int} {b : List UInt8} (h : lastW l k = some b) : (k, b) ∈ l := by
  induction l with
  | nil => cases h
  | cons x l ih =>
    obtain ⟨q, c⟩ := x
    simp only [lastW] at h
    cases h1 : lastW l k with
    | some y => rw [h1] at h; simp at h; subst h; exact List.mem_cons_of_mem _ (ih h1)
    | none =>
      rw [h1] at h
      simp only at h
      split at h
      · rename_i e; subst e; injection h with h; subst h; exact List.mem_cons_self ..
      · cases h
theorem syncL_snoc (l : List (Int × List UInt8)) (k : Int) (b : List UInt8) (s : List (Option (List UInt8))) : syncL (l ++ [(k, b)]) s = doneL (syncL l s) k b false := by
  induction l generalizing s with
  | nil => rfl
  | cons x l ih => obtain ⟨q, c⟩ := x; simp only [List.cons_append, syncL]; exact ih _
theorem syncL_take {l : List (Int × List UInt8)} {s : List (Option (List UInt8))} {i : Nat} {p : Int} {b : List UInt8} (h : l[i]? = some (p, b)) : syncL (l.take (i + 1)) s = doneL (syncL (l.take i) s) p b false := by
  rw [List.take_add_one, h, Option.toList_some, syncL_snoc]
def crashS (mask torn k : Nat) (p : Int) (b : List UInt8) (s : List (Option (List UInt8))) : List (Option (List UInt8)) := if bitN torn k = true then doneL s p b true else if bitN mask k = true then doneL s p b false else s
theorem crashL_snoc (mask torn : Nat) (l : List (Int × List UInt8)) (p : Int) (b : List UInt8) (k : Nat) (s : List (Option (List UInt8))) : crashL mask torn k (l ++ [(p, b)]) s = crashS mask torn (k + l.length) p b (crashL mask torn k l s) := by
  induction l generalizing s k with
  | nil => rfl
  | cons x l ih =>
    obtain ⟨q, c⟩ := x
    simp only [List.cons_append, crashL, List.length_cons]
    rw [ih, show k + 1 + l.length = k + (l.length + 1) by omega]
theorem crashL_take {mask torn : Nat} {l : List (Int × List UInt8)} {s : List (Option (List UInt8))} {i : Nat} {p : Int} {b : List UInt8} (h : l[i]? = some (p, b)) : crashL mask torn 0 (l.take (i + 1)) s = crashS mask torn i p b (crashL mask torn 0 (l.take i) s) := by
  have hi : i < l.length := (List.getElem?_eq_some_iff.1 h).1
  rw [List.take_add_one, h, Option.toList_some, crashL_snoc, Nat.zero_add, List.length_take, Nat.min_eq_left (by omega)]

theorem doneL_length (s : List (Option (List UInt8))) (k : Int) (b : List UInt8) (t : Bool) : (doneL s k b t).length = s.length := by simp [doneL]
theorem syncL_length (l : List (Int × List UInt8)) : ∀ s, (syncL l s).length = s.length := by
  induction l with
  | nil => intro s; rfl
  | cons x l ih => intro s; obtain ⟨k, b⟩ := x; simp only [syncL]; rw [ih, doneL_length]
theorem crashS_length (m t k : Nat) (p : Int) (b : List UInt8) (s : List (Option (List UInt8))) : (crashS m t k p b s).length = s.length := by
  unfold crashS; split
  · exact doneL_length ..
  · split
    · exact doneL_length ..
    · rfl
theorem crashL_length (m t : Nat) (l : List (Int × List UInt8)) : ∀ k s, (crashL m t k l s).length = s.length := by
  induction l with
  | nil => intro k s; rfl
  | cons x l ih => intro k s; obtain ⟨p, b⟩ := x; simp only [crashL]; rw [ih]; exact crashS_length m t k p b s
theorem doneL_mem {s : List (Option (List UInt8))} {k : Int} {b x : List UInt8} {t : Bool} (h : some x ∈ doneL s k b t) : x = b ∨ some x ∈ s := by
  unfold doneL at h
  rcases List.mem_or_eq_of_mem_set h with h | h
  · exact .inr h
  · split at h
    · cases h
    · exact .inl (by injection h)
theorem syncL_mem (l : List (Int × List UInt8)) : ∀ {s x}, some x ∈ syncL l s → some x ∈ s ∨ ∃ p ∈ l, p.2 = x := by
  induction l with
  | nil => intro s x h; exact .inl h
  | cons y l ih =>
    intro s x h
    obtain ⟨k, b⟩ := y
    rcases ih h with h | ⟨p, hp, e⟩
    · rcases doneL_mem h with h | h
      · exact .inr ⟨(k, b), List.mem_cons_self .., h.symm⟩
      · exact .inl h
    · exact .inr ⟨p, List.mem_cons_of_mem _ hp, e⟩
theorem crashL_mem (m t : Nat) (l : List (Int × List UInt8)) : ∀ {k s x}, some x ∈ crashL m t k l s → some x ∈ s ∨ ∃ p ∈ l, p.2 = x := by
  induction l with
  | nil => intro k s x h; exact .inl h
  | cons y l ih =>
    intro k s x h
    obtain ⟨p, b⟩ := y
    rcases ih h with h | ⟨q, hp, e⟩
    · split at h
      · rcases doneL_mem h with h | h
        · exact .inr ⟨(p, b), List.mem_cons_self .., h.symm⟩
        · exact .inl h
      · split at h
        · rcases doneL_mem h with h | h
          · exact .inr ⟨(p, b), List.mem_cons_self .., h.symm⟩
          · exact .inl h
        · exact .inl h
    · exact .inr ⟨q, List.mem_cons_of_mem _ hp, e⟩

section
variable {d : Dv}
theorem Dv.chk_cases (d : Dv) (k : Int) : (d.down = true ∧ d.chk k = 8) ∨ (d.down = false ∧ (k < 0 ∨ (d.sure.length : Int) ≤ k) ∧ d.chk k = 1) ∨ (d.down = false ∧ 0 ≤ k ∧ k < d.sure.length ∧ d.chk k = 0) := by
  unfold Dv.chk
  cases h : d.down
  · by_cases h2 : k < 0 ∨ (d.sure.length : Int) ≤ k
    · exact .inr (.inl ⟨rfl, h2, by simp [h2]⟩)
    · exact .inr (.inr ⟨rfl, by omega, by omega, by simp [h2]⟩)
  · exact .inl ⟨rfl, by simp⟩
theorem Dv.Fine.spent (h : d.Fine) : d.spent.Fine := by
  unfold Dv.spent
  split
  · exact h
  · rename_i h0
    have := h.limit
    exact ⟨h.sure, h.unsure, h.size, by show 0 ≤ d.limit - 1 ∧ d.limit - 1 ≤ _; omega⟩
theorem Dv.spent_sure : d.spent.sure = d.sure := by unfold Dv.spent; split <;> rfl
theorem Dv.spent_unsure : d.spent.unsure = d.unsure := by unfold Dv.spent; split <;> rfl
theorem Dv.Fine.write (h : d.Fine) (k : Int) (bs : List UInt8) : (d.write k bs).1.Fine := by
  unfold Dv.write
  split
  · rename_i hc
    split
    · exact h
    · rename_i hl
      split
      · refine ⟨by rw [Dv.spent_sure]; exact h.sure, fun p hp => ?_, by rw [Dv.spent_sure]; exact h.size, h.spent.limit⟩
        show 0 ≤ p.1 ∧ p.1 < (d.spent.sure.length : Int) ∧ _
        rw [Dv.spent_sure]
        rcases List.mem_append.1 hp with hp | hp
        · exact h.unsure p hp
        · simp at hp
          subst hp
          rcases d.chk_cases k with h1 | h1 | h1
          · rw [hc] at h1; simp at h1
          · rw [hc] at h1; simp at h1
          · exact ⟨h1.2.1, h1.2.2.1, pad_len (by omega)⟩
      · exact h.spent
  · exact h
theorem Dv.Fine.sync (h : d.Fine) : d.sync.1.Fine := by
  unfold Dv.sync
  split
  · exact h
  · split
    · refine ⟨fun b hb => ?_, fun p hp => by simp at hp, by show (syncL _ _).length ≤ _; rw [syncL_length]; exact h.size, h.spent.limit⟩
      rcases syncL_mem _ hb with hb | ⟨p, hp, e⟩
      · exact h.sure b hb
      · rw [← e]; exact (h.unsure p hp).2.2
    · exact h.spent
theorem Dv.Fine.crash (h : d.Fine) (m t : Nat) : (d.crash m t).Fine := by
  refine ⟨fun b hb => ?_, fun p hp => by simp [Dv.crash] at hp, by show (crashL _ _ _ _ _).length ≤ _; rw [crashL_length]; exact h.size, by simp [Dv.crash]⟩
  rcases crashL_mem _ _ _ hb with hb | ⟨p, hp, e⟩
  · exact h.sure b hb
  · rw [← e]; exact (h.unsure p hp).2.2
theorem Dv.Fine.new {n : Nat} (h : n ≤ 4096) : (Dv.new n).Fine :=
  ⟨fun b hb => by have h := List.eq_of_mem_replicate (show some b ∈ List.replicate n (some zero512) from hb); injection h with h; rw [h]; exact zero512_len, fun p hp => (List.not_mem_nil hp).elim, by show (List.replicate n (some zero512)).length ≤ _; rw [List.length_replicate]; exact h, by show (0 : Int) ≤ 0 ∧ (0 : Int) ≤ _; omega⟩
theorem Dv.readV_len (h : d.Fine) (k : Int) : (d.readV k).1.length ≤ 512 := by
  unfold Dv.readV
  cases h1 : lastW d.unsure k with
  | some b => simp only; rw [(h.unsure _ (lastW_mem h1)).2.2]; omega
  | none =>
    simp only
    cases h2 : d.sure[k.toNat]? with
    | none => simp
    | some x =>
      cases x with
      | none => simp
      | some b => simp only; rw [h.sure b (List.mem_of_getElem? h2)]; omega
end
end Go.Proofs.Ytbjaphldncagjaa

/- flash: how a device lies in memory. -/
namespace Go.Proofs.Ytbjaphldncagjaa
open Go.RowKit

/-- A sector: 512 bytes, and whether it is torn (then the bytes are any). -/
def encSec : Enc (Option (List UInt8)) where
  size := 513
  R := fun _ _ r x => r.length = 513 ∧ r[512]? = some (.bool x.isNone) ∧ (∀ j, j < 512 → ∃ u : UInt8, r[j]? = some (bV u)) ∧ ∀ b, x = some b → r.take 512 = b.map bV
  pos := by decide
  len := fun h => h.1
  mono := fun _ h => h
  keep := fun _ h => h
  one := by
    rintro _ _ r x ⟨hl, hb, hu, _⟩ u hmem
    obtain ⟨j, hj, e⟩ := List.mem_iff_getElem.1 hmem
    by_cases h : j < 512
    · obtain ⟨y, hy⟩ := hu j h
      rw [List.getElem?_eq_getElem hj, e] at hy
      injection hy with hy
      rw [hy]; rfl
    · have : j = 512 := by omega
      subst this
      rw [List.getElem?_eq_getElem hj, e] at hb
      injection hb with hb
      rw [hb]; rfl
theorem OwnB.kept1 {w w' : World} {base gd n c : Nat} {bs : List UInt8} (h : OwnB w base (.slice (some ⟨gd, 0, none⟩) n c) bs) (he : w'.heap[gd]? = w.heap[gd]?) : OwnB w' base (.slice (some ⟨gd, 0, none⟩) n c) bs := by
  refine ⟨h.1, ?_⟩
  rcases h.2 with h0 | ⟨g', cap, cur, e, h1, h2, h3⟩
  · exact .inl h0
  · refine .inr ⟨g', cap, cur, e, h1, ?_, h3⟩
    injection e with e
    injection e with e
    injection e with e
    subst e
    exact he.trans h2

/-- A write that is not sure: its data is a row of its own. -/
def encW : Enc (Int × List UInt8) where
  size := 2
  R := fun S w r x => ∃ gd c, r = [.int .i64 x.1, .slice (some ⟨gd, 0, none⟩) x.2.length c] ∧ S gd ∧ OwnB w 0 (.slice (some ⟨gd, 0, none⟩) x.2.length c) x.2
  pos := by decide
  len := by rintro _ _ r x ⟨gd, c, rfl, _⟩; rfl
  mono := by rintro S S' w r x h ⟨gd, c, rfl, hs, ho⟩; exact ⟨gd, c, rfl, h gd hs, ho⟩
  keep := by rintro S w w' r x h ⟨gd, c, rfl, hs, ho⟩; exact ⟨gd, c, rfl, hs, ho.kept1 (h gd hs)⟩
  one := by
    rintro S w r x ⟨gd, c, rfl, _⟩ u hu
    simp at hu
    rcases hu with rfl | rfl <;> rfl

theorem elW : ElT Try.prog 127 131 encW 32 := ElT.mk Try.underlying127 (.agg #[.int .i64 0, .slice none 0 0]) 2 (by kernel_rfl) rfl rfl

/-- The device at block g reads as d; what it leads to lies in blocks of F. -/
def Dev (w : World) (B : Nat) (F : Nat → Prop) (g : Nat) (d : Dv) : Prop :=
  d.Fine ∧ ∃ sv uv S, w.heap[g]? = some (.cells #[sv, uv, .int .i64 d.limit, .bool d.down] 129 (0, 0)) ∧ OwnE encSec 177 noS w B sv d.sure ∧ OwnE encW 131 S w B uv d.unsure ∧
    (F g ∧ B ≤ g) ∧ (∀ k, sv.ownBlock = some k → F k ∧ k ≠ g) ∧ (∀ k, uv.ownBlock = some k → F k ∧ k ≠ g ∧ sv.ownBlock ≠ some k) ∧ (∀ k, S k → F k ∧ k ≠ g ∧ sv.ownBlock ≠ some k) ∧ ∀ k, F k → B ≤ k ∧ k < w.heap.size

section
variable {w w' : World} {B g : Nat} {F G : Nat → Prop} {d : Dv}
theorem Dev.fine (h : Dev w B F g d) : d.Fine := h.1
theorem Dev.F_lt (h : Dev w B F g d) : ∀ k, F k → B ≤ k ∧ k < w.heap.size := by obtain ⟨_, _, _, _, _, _, _, _, _, _, _, h⟩ := h; exact h
theorem Dev.g_F (h : Dev w B F g d) : F g := by obtain ⟨_, _, _, _, _, _, _, h, _⟩ := h; exact h.1
theorem Dev.chg (h : Dev w B F g d) (hc : Chg G w w') (hd : ∀ k, F k → ¬ G k) : Dev w' B F g d := by
  obtain ⟨hf, sv, uv, S, hg, hs, hu, hg1, hs1, hu1, hS, hF⟩ := h
  exact ⟨hf, sv, uv, S, hc.heap hg (hd g hg1.1), hs.chg hc (fun k hk => hd k (hs1 k hk).1) (fun _ hb => hb.elim), hu.chg hc (fun k hk => hd k (hu1 k hk).1) (fun b hb => hd b (hS b hb).1), hg1, hs1, hu1, hS, fun k hk => ⟨(hF k hk).1, Nat.lt_of_lt_of_le (hF k hk).2 hc.size⟩⟩
theorem Dev.below (h : Dev w B F g d) (hb : Below w.heap.size w w') : Dev w' B F g d := h.chg (G := fun _ => False) (Chg.of_below hb) (fun _ _ h => h)
theorem Dev.base_le {B' : Nat} (h : Dev w B F g d) (hB : B' ≤ B) : Dev w B' F g d := by
  obtain ⟨hf, sv, uv, S, hg, hs, hu, hg1, hs1, hu1, hS, hF⟩ := h
  exact ⟨hf, sv, uv, S, hg, hs.base_le hB, hu.base_le hB, ⟨hg1.1, by omega⟩, hs1, hu1, hS, fun k hk => ⟨Nat.le_trans hB (hF k hk).1, (hF k hk).2⟩⟩
/-- Only the device's own four cells have turned. -/
theorem Dev.own_cells {d' : Dv} {sv uv : Value} {S : Nat → Prop} (hf : d'.Fine) (hg : w'.heap[g]? = some (.cells #[sv, uv, .int .i64 d'.limit, .bool d'.down] 129 (0, 0))) (hc : Chg (fun k => k = g) w w')
    (hs : OwnE encSec 177 noS w B sv d'.sure) (hu : OwnE encW 131 S w B uv d'.unsure) (hg1 : F g ∧ B ≤ g) (hs1 : ∀ k, sv.ownBlock = some k → F k ∧ k ≠ g) (hu1 : ∀ k, uv.ownBlock = some k → F k ∧ k ≠ g ∧ sv.ownBlock ≠ some k) (hS : ∀ k, S k → F k ∧ k ≠ g ∧ sv.ownBlock ≠ some k) (hF : ∀ k, F k → B ≤ k ∧ k < w.heap.size) : Dev w' B F g d' :=
  ⟨hf, sv, uv, S, hg, hs.chg hc (fun k hk => (hs1 k hk).2) (fun _ hb => hb.elim), hu.chg hc (fun k hk => (hu1 k hk).2.1) (fun b hb => (hS b hb).2.1), hg1, hs1, hu1, hS, fun k hk => ⟨(hF k hk).1, Nat.lt_of_lt_of_le (hF k hk).2 hc.size⟩⟩
theorem chg_g1 (w : World) (g k : Nat) (u : Value) : Chg (fun k => k = g) w (w.setCell ⟨g, k, none⟩ u) := (Chg.refl (fun k => k = g) w).setCell (p := ⟨g, k, none⟩) (Or.inl rfl) u
theorem chg_g2 (w : World) (g k k2 : Nat) (u u2 : Value) : Chg (fun k => k = g) w ((w.setCell ⟨g, k, none⟩ u).setCell ⟨g, k2, none⟩ u2) := (chg_g1 w g k u).setCell (p := ⟨g, k2, none⟩) (Or.inl rfl) u2
end
end Go.Proofs.Ytbjaphldncagjaa

/- flash: the small functions. -/
namespace Go.Proofs.Ytbjaphldncagjaa
open Go.RowKit

set_option maxHeartbeats 400000 in
theorem check_any (w : World) (B g : Nat) (F : Nat → Prop) (d : Dv) (k : Int) (h : Dev w B F g d) :
    Calls Try.prog 123 #[.pointer (some ⟨g, 0, none⟩), .int .i64 k] w (Ret (.int .i64 (d.chk k)) w) := by
  obtain ⟨hf, sv, uv, S, hg, hs, hu, hg1, hs1, hu1, hS, hF⟩ := h
  obtain ⟨A, c, rfl, _, hlc, hcm⟩ := hs.form
  have c0 : w.cell? ⟨g, 0, none⟩ = some (.slice A d.sure.length c) := (cell_of_row _ _ _ _ _ _ hg).trans rfl
  have c3 : w.cell? ⟨g, 3, none⟩ = some (.bool d.down) := (cell_of_row _ _ _ _ _ _ hg).trans rfl
  clear hg hs hu hg1 hs1 hu1 hS hF hf
  rcases d.chk_cases k with ⟨h1, h2⟩ | ⟨h1, h3, h2⟩ | ⟨h1, h3, h4, h2⟩
  · rw [h2]
    rw [h1] at c3
    clear h1 h2
    go_enter Try.func123, Try.ntmps123
    go_wp2
    go_ret
    exact ⟨rfl, rfl⟩
  · rw [h2]
    rw [h1] at c3
    clear h1 h2
    by_cases h0 : k < 0
    · clear h3
      go_enter Try.func123, Try.ntmps123
      go_wp2
      go_ret
      exact ⟨rfl, rfl⟩
    · have h5 : (d.sure.length : Int) ≤ k := by omega
      clear h3
      go_enter Try.func123, Try.ntmps123
      go_wp2
      go_ret
      exact ⟨rfl, rfl⟩
  · rw [h2]
    rw [h1] at c3
    clear h1 h2
    go_enter Try.func123, Try.ntmps123
    go_wp2
    go_ret
    exact ⟨rfl, rfl⟩

set_option maxHeartbeats 400000 in
theorem spend_any (w : World) (B g : Nat) (F : Nat → Prop) (d : Dv) (h : Dev w B F g d) :
    Calls Try.prog 122 #[.pointer (some ⟨g, 0, none⟩)] w (fun e w' => e = .returned (.bool d.stays) ∧ Dev w' B F g d.spent ∧ Chg (fun k => k = g) w w') := by
  obtain ⟨hf, sv, uv, S, hg, hs, hu, hg1, hs1, hu1, hS, hF⟩ := h
  have c2 : w.cell? ⟨g, 2, none⟩ = some (.int .i64 d.limit) := (cell_of_row _ _ _ _ _ _ hg).trans rfl
  have c3 : w.cell? ⟨g, 3, none⟩ = some (.bool d.down) := (cell_of_row _ _ _ _ _ _ hg).trans rfl
  have f2 : ∀ k, w.frozen? ⟨g, k, none⟩ = false := fun k => frozen_of_row _ _ _ _ _ hg
  have hl0 := hf.limit.1
  have hl1 := hf.limit.2
  by_cases h0 : d.limit = 0
  · have e1 : d.stays = true := by unfold Dv.stays; rw [if_pos h0]
    have e2 : d.spent = d := by unfold Dv.spent; rw [if_pos h0]
    rw [e1, e2]
    have h0' : (d.limit == 0) = true := by rw [beq_iff_eq]; exact h0
    have HD : Hid (Dev w B F g d) := ⟨hf, sv, uv, S, hg, hs, hu, hg1, hs1, hu1, hS, hF⟩
    clear hg hs hu hg1 hs1 hu1 hS hF hf e1 e2 h0
    go_enter Try.func122, Try.ntmps122
    go_wp2
    go_ret
    exact ⟨rfl, HD.out, Chg.refl _ _⟩
  · have e1 : Hid (d.stays = decide (d.limit ≠ 1)) := by show _ = _; unfold Dv.stays; rw [if_neg h0]
    have e2 : Hid (d.spent = { d with limit := d.limit - 1, down := decide (d.limit = 1) }) := by show _ = _; unfold Dv.spent; rw [if_neg h0]
    have hfs := hf.spent
    have h0' : (d.limit == 0) = false := by rw [beq_eq_false_iff_ne]; exact h0
    have hge : 1 ≤ d.limit := by omega
    have HG := Lib.hid hg
    have e3 : Hid ((d.limit - 1 == 0) = decide (d.limit = 1)) := by
      show _ = _
      rw [Bool.eq_iff_iff, beq_iff_eq, decide_eq_true_iff]
      omega
    clear hg h0
    go_enter Try.func122, Try.ntmps122
    go_wp2
    go_ret
    have hu2 : d.spent.unsure = d.unsure := Dv.spent_unsure
    have hs2 : d.spent.sure = d.sure := Dv.spent_sure
    refine ⟨ret_bool ?_, Dev.own_cells (sv := sv) (uv := uv) (S := S) hfs ?_ (chg_g2 w g 2 3 _ _) (by rw [hs2]; exact hs) (by rw [hu2]; exact hu) hg1 hs1 hu1 hS hF, chg_g2 w g 2 3 _ _⟩
    · rw [e1.out, e3.out]
      by_cases h : d.limit = 1 <;> simp [h]
    · rw [e2.out]
      refine (heap_setCell_same _ _ _ _ _ _ (heap_setCell_same _ _ _ _ _ _ HG.out)).trans ?_
      rw [e3.out]
      rfl

set_option maxHeartbeats 400000 in
theorem down_any (w : World) (B g : Nat) (F : Nat → Prop) (d : Dv) (h : Dev w B F g d) :
    Calls Try.prog 69 #[.pointer (some ⟨g, 0, none⟩)] w (Ret (.bool d.down) w) := by
  obtain ⟨hf, sv, uv, S, hg, hs, hu, hg1, hs1, hu1, hS, hF⟩ := h
  have c3 : w.cell? ⟨g, 3, none⟩ = some (.bool d.down) := (cell_of_row _ _ _ _ _ _ hg).trans rfl
  clear hg hs hu hg1 hs1 hu1 hS hF hf
  go_enter Try.func69, Try.ntmps69
  go_wp2
  go_ret
  exact ⟨rfl, rfl⟩

set_option maxHeartbeats 400000 in
theorem len_any (w : World) (B g : Nat) (F : Nat → Prop) (d : Dv) (h : Dev w B F g d) :
    Calls Try.prog 68 #[.pointer (some ⟨g, 0, none⟩)] w (Ret (.int .i64 (d.sure.length : Int)) w) := by
  obtain ⟨hf, sv, uv, S, hg, hs, hu, hg1, hs1, hu1, hS, hF⟩ := h
  obtain ⟨A, c, rfl, _, hlc, hcm⟩ := hs.form
  have c0 : w.cell? ⟨g, 0, none⟩ = some (.slice A d.sure.length c) := (cell_of_row _ _ _ _ _ _ hg).trans rfl
  clear hg hs hu hg1 hs1 hu1 hS hF hf
  go_enter Try.func68, Try.ntmps68
  go_wp2
  go_ret
  exact ⟨rfl, rfl⟩

set_option maxHeartbeats 400000 in
theorem limit_any (w : World) (B g : Nat) (F : Nat → Prop) (d : Dv) (n : Int) (h : Dev w B F g d) (hn : 0 ≤ n) (hn2 : n ≤ 9223372036854775807) :
    Calls Try.prog 29 #[.pointer (some ⟨g, 0, none⟩), .int .i64 n] w (fun e w' => e = .returned (.int .i64 0) ∧ Dev w' B F g { d with limit := n } ∧ Chg (fun k => k = g) w w') := by
  obtain ⟨hf, sv, uv, S, hg, hs, hu, hg1, hs1, hu1, hS, hF⟩ := h
  have c2 : w.cell? ⟨g, 2, none⟩ = some (.int .i64 d.limit) := (cell_of_row _ _ _ _ _ _ hg).trans rfl
  have f2 : ∀ k, w.frozen? ⟨g, k, none⟩ = false := fun k => frozen_of_row _ _ _ _ _ hg
  have HG := Lib.hid hg
  clear hg
  go_enter Try.func29, Try.ntmps29
  go_wp2
  go_ret
  exact ⟨rfl, Dev.own_cells (d' := { d with limit := n }) (sv := sv) (uv := uv) (S := S) ⟨hf.sure, hf.unsure, hf.size, hn, hn2⟩ ((heap_setCell_same _ _ _ _ _ _ HG.out).trans rfl) (chg_g1 w g 2 _) hs hu hg1 hs1 hu1 hS hF, chg_g1 w g 2 _⟩

set_option maxHeartbeats 400000 in
theorem limit_neg (w : World) (p : Option Addr) (n : Int) (hn : n < 0) :
    Calls Try.prog 29 #[.pointer p, .int .i64 n] w (Ret (.int .i64 1) w) := by
  rcases p with _ | a
  · go_enter Try.func29, Try.ntmps29
    go_wp2
    go_ret
    exact ⟨rfl, rfl⟩
  · go_enter Try.func29, Try.ntmps29
    go_wp2
    go_ret
    exact ⟨rfl, rfl⟩

def zsec : Array Value := (List.replicate 512 (Value.int .u8 0) ++ [Value.bool false]).toArray
theorem infoSec : (Try.prog.info? 177).map (fun i => (i.zero, i.size, i.bytes)) = some (some (.agg zsec), 513, 513) := by kernel_rfl
theorem zsec_size : zsec.size = 513 := by
  unfold zsec
  rw [List.size_toArray, List.length_append, List.length_replicate]
  rfl
set_option maxRecDepth 100000 in
theorem mkSec (n : Nat) (hn : n ≤ 4096) (w : World) :
    (Instr.makeSlice 126 (.int .i64 (n : Int)) (.int .i64 (n : Int))).run Try.prog w = .ok (.slice (some ⟨w.heap.size, 0, none⟩) n n) (w.alloc (.cells (madeCells zsec (n * 513)) 177)) := by
  obtain ⟨i0, hi, hz, hs, hb⟩ := info_parts infoSec
  have h := run_make (P := Try.prog) w 126 177 i0 _ Try.underlying126 hi hz .i64 .i64 n n (by omega) (by omega) (by rw [hb]; omega) (by omega)
  simp only [Int.toNat_natCast, hs] at h
  exact h
set_option maxRecDepth 100000 in
theorem made_sec (w : World) (n : Nat) (hn : n ≤ 4096) : OwnE encSec 177 noS (w.alloc (.cells (madeCells zsec (n * 513)) 177)) w.heap.size (.slice (some ⟨w.heap.size, 0, none⟩) n n) (List.replicate n (some zero512)) := by
  have h := World.ownsRow_lit (base := w.heap.size) (e := 177) (size := 513) w (madeCells zsec (n * 513)) n (Nat.le_refl _) (by simp only [maxLen]; omega) (size_madeCells _ _)
  refine ⟨(madeCells zsec (n * 513)).toList, by rw [List.length_replicate]; exact h, fun i x hx => ?_, fun b hb => hb.elim⟩
  obtain ⟨hi, rfl⟩ : i < n ∧ x = some zero512 := by
    rw [List.getElem?_replicate] at hx
    by_cases h : i < n
    · rw [if_pos h] at hx; injection hx with hx; exact ⟨h, hx.symm⟩
    · rw [if_neg h] at hx; cases hx
  have hi3 : (i + 1) * 513 ≤ n * 513 := Nat.mul_le_mul_right _ hi
  have hat : ∀ j, j < 513 → (((madeCells zsec (n * 513)).toList.drop (i * 513)).take 513)[j]? = some (zsec[j]!) := fun j hj => by
    rw [List.getElem?_take, if_pos hj, List.getElem?_drop, Array.getElem?_toList]
    have : i * 513 + j < (madeCells zsec (n * 513)).size := by rw [size_madeCells]; omega
    rw [Array.getElem?_eq_getElem this]
    simp only [madeCells, Array.getElem_map, Array.getElem_range]
    rw [zsec_size, show (i * 513 + j) % 513 = j by omega]
  have hz : ∀ j, j < 512 → zsec[j]! = .int .u8 0 := fun j hj => by
    have h : zsec[j]? = some (.int .u8 0) := by
      unfold zsec
      rw [List.getElem?_toArray, List.getElem?_append_left (by rw [List.length_replicate]; exact hj), List.getElem?_replicate, if_pos hj]
    rw [getElem!_def, h]
  refine ⟨?_, ?_, fun j hj => ⟨0, ?_⟩, fun b hb => ?_⟩
  · show (((madeCells zsec (n * 513)).toList.drop (i * 513)).take 513).length = 513
    rw [List.length_take, List.length_drop, Array.length_toList, size_madeCells]; omega
  · rw [show encSec.size = 513 from rfl, hat 512 (by omega)]
    rfl
  · rw [show encSec.size = 513 from rfl, hat j (by omega), hz j hj]
    rfl
  · injection hb with hb
    subst hb
    apply List.ext_getElem?
    intro j
    rw [List.getElem?_take]
    by_cases hj : j < 512
    · rw [if_pos hj, show encSec.size = 513 from rfl, hat j (by omega), hz j hj, List.getElem?_map]
      unfold zero512
      rw [List.getElem?_replicate, if_pos hj]
      rfl
    · rw [if_neg hj, List.getElem?_map]
      unfold zero512
      rw [List.getElem?_replicate, if_neg hj]
      rfl

set_option maxRecDepth 100000 in
set_option maxHeartbeats 400000 in
theorem new_any (w : World) (n : Nat) (h1 : 1 ≤ n) (h2 : n ≤ 4096) :
    Calls Try.prog 27 #[.int .i64 (n : Int)] w (fun e w' => ∃ g F, e = .returned (.tuple #[.pointer (some ⟨g, 0, none⟩), .int .i64 0]) ∧ Dev w' w.heap.size F g (Dv.new n) ∧ Below w.heap.size w w') := by
  have hmk := mkSec n h2 w
  go_enter Try.func27, Try.ntmps27
  go_wp2
  go_ret2
  refine ⟨w.heap.size + 1, fun k => w.heap.size ≤ k ∧ k < w.heap.size + 2, rfl, ⟨Dv.Fine.new h2, _, .slice none 0 0, noS, heap_alloc2_new w _ _, (made_sec w n h2).alloc _, OwnE.nil _ _ _ _, ⟨by omega, by omega⟩, fun k hk => ?_, fun k hk => by simp [Value.ownBlock] at hk, fun k hk => hk.elim, fun k hk => ⟨hk.1, by simp; omega⟩⟩, (bl.alloc (Nat.le_refl _) _).alloc (by simp) _⟩
  have e : w.heap.size = k := by injection hk
  subst e
  exact ⟨⟨Nat.le_refl _, Nat.lt_add_of_pos_right (by decide)⟩, Nat.ne_of_lt (Nat.lt_succ_self _)⟩

set_option maxHeartbeats 400000 in
theorem new_bad (w : World) (n : Int) (h : n < 1 ∨ 4096 < n) :
    Calls Try.prog 27 #[.int .i64 n] w (Ret (.tuple #[.pointer none, .int .i64 1]) w) := by
  by_cases h0 : n < 1
  · clear h
    go_enter Try.func27, Try.ntmps27
    go_wp2
    go_ret2
    exact ⟨rfl, rfl⟩
  · have h1 : 4096 < n := by omega
    clear h
    go_enter Try.func27, Try.ntmps27
    go_wp2
    go_ret2
    exact ⟨rfl, rfl⟩
end Go.Proofs.Ytbjaphldncagjaa

/- flash: Write. -/
namespace Go.Proofs.Ytbjaphldncagjaa
open Go.RowKit

set_option maxHeartbeats 400000 in
theorem sclone_any (A : Option Addr) (m c : Nat) (bs : List UInt8) (w : World) (hb : RdB w A m bs) (hm : m ≤ 140737488355328) :
    Calls Try.prog 113 #[.slice A m c] w (RetP (fun v w' => OwnB w' w.heap.size v bs) w) := by
  have hlb := hb.len
  subst hlb
  rcases A with _ | ad
  · have hn : bs = [] := by
      rcases bs with _ | ⟨x, bs⟩
      · rfl
      · obtain ⟨b, off, e, _⟩ := hb.2 (by simp); cases e
    subst hn
    have he := fun W : World => Lib.run_eql_slice_nil (P := Try.prog) W 35 5 none ([] : List UInt8).length c 0 0 Try.underlying35
    simp only [List.length_nil, Option.isNone_none] at he
    go_enter Try.func113, Try.ntmps113
    go_wp2
    go_ret
    exact ⟨_, rfl, OwnB.nil _ _, bl⟩
  · have he := fun W : World => Lib.run_eql_slice_nil (P := Try.prog) W 35 5 (some ad) bs.length c 0 0 Try.underlying35
    simp only [Option.isNone_some] at he
    go_enter Try.func113, Try.ntmps113
    go_wp2_with ((with_reducible show wpList _ _ _ (⟨some 7, _, _, _, _, _⟩ :: _) _ _); refine wpL_cloneB rfl (.tmp 5) (.tmp 6) rfl rfl _ _ c bs rfl hb hm ?_; intro v2 w2 hown2 hb2)
    go_ret
    exact ⟨_, rfl, hown2, hb2⟩

theorem pad_eq {bs : List UInt8} : bs ++ zero512.drop bs.length = pad bs := by
  unfold pad zero512
  rw [List.drop_replicate]

/-- copy(dst, src): src no longer than dst, which is a row of the call's own. -/
theorem wpL_copyH {w : World} {ops : Array Oper} {rest : List Oper} {o : Oper} {a : Act} {Q : Exit → Act → World → Prop} (hgd : Region.wanted o (yielded ops a.tmps) = true) (d s : Operand)
    (ho : o.op = .call { callee := .builtin .copy, args := #[d, s], argTypes := #[35, 35] })
    (g m cap : Nat) (hd : a.eval d = .slice (some ⟨g, 0, none⟩) m cap) (A : Option Addr) (n c : Nat) (hs : a.eval s = .slice A n c)
    (base : Nat) (xs : List UInt8) (hown : OwnB w base (.slice (some ⟨g, 0, none⟩) m cap) xs) (bs : List UInt8) (hb : RdB w A n bs) (hnm : n ≤ m)
    (h : ∀ w', OwnB w' base (.slice (some ⟨g, 0, none⟩) m cap) (bs ++ xs.drop n) → w.grownBy w' (some g) → wpList Try.prog ops Q rest (a.put o.dst (goInt n)) w') : wpList Try.prog ops Q (o :: rest) a w := by
  have hl := hb.len
  have hxl := hown.rd.2
  by_cases h0 : n = 0
  · subst h0
    obtain rfl : bs = [] := List.eq_nil_of_length_eq_zero hl
    refine wpList_want hgd fun K hK => ?_
    refine wp_copy_nothing d s _ _ ho 5 Try.underlying35 sizeB _ _ _ _ _ _ hd hs (by simp) (hK _ _ (h w (by simpa using hown) (World.grownBy.refl w _)))
  · obtain ⟨b, off, rfl, hc⟩ := hb.2 (by simp; omega)
    obtain ⟨hl1, h2⟩ := hown
    rcases h2 with ⟨hv, _⟩ | ⟨g', cap', cur, hv, hbg, hg, hnc, hcm, hcs, htake⟩
    · cases hv
    · injection hv with e1 e2 e3
      injection e1 with e1
      injection e1 with e1
      subst e1 e3
      refine wpList_want hgd fun K hK => ?_
      have h1 := wp_copy_own (P := Try.prog) (K := K) (Q := Q) d s _ _ ho 5 Try.underlying35 sizeB g 0 m cap ⟨b, off, none⟩ n c hd hs cur _ hg (bs.map bV) (by simp [hl, Nat.min_eq_left hnm])
        (by intro j v hv; have := hc j v hv; simp only [Addr.add]; split
            · rename_i e; subst e; simpa using this
            · simpa using this) (by simp [hl]; omega) (bV_one bs)
      refine h1 (hK _ _ ?_)
      simp only [List.length_map, hl]
      have hml : m = xs.length := hxl
      have htake' : cur.toList.take m = xs.map bV := by rw [hml]; simpa using htake
      refine h _ ⟨by simp, .inr ⟨g, cap, _, by rw [List.length_append, List.length_drop, hl]; congr 1; omega, hbg, setRow_heap w g cur _ _ _ hg, by simp [hl]; omega, hcm, ?_, ?_⟩⟩ ⟨rfl, rfl, rfl, by simp, fun k _ hk => setRow_other w g k _ (fun e => hk (by simp [e]))⟩
      · simp only [List.size_toArray, List.length_append, List.length_take, List.length_map, List.length_drop, Array.length_toList, hl]
        omega
      · simp only [List.take_zero, List.nil_append, Nat.zero_add, Nat.mul_one, List.length_append, List.length_drop, hl, List.map_append, List.map_drop]
        rw [← htake', show n + (xs.length - n) = m by omega, List.take_append, List.length_map, hl, List.take_of_length_le (by simp [hl]; omega)]
        congr 1
        rw [List.drop_take]

theorem encW_own {w : World} {base gd c : Nat} {k : Int} {bs : List UInt8} (h : OwnB w base (.slice (some ⟨gd, 0, none⟩) 512 c) bs) : encW.R (fun b => b = gd) w [.int .i64 k, .slice (some ⟨gd, 0, none⟩) 512 c] (k, bs) := by
  have e := h.rd.2
  refine ⟨gd, c, ?_, rfl, ?_⟩
  · rw [e]
  · show OwnB w 0 (.slice (some ⟨gd, 0, none⟩) bs.length c) bs
    rw [← e]
    exact h.mono (Nat.zero_le _)

set_option maxRecDepth 100000 in
set_option maxHeartbeats 1000000 in
theorem write_any (w : World) (B g : Nat) (F : Nat → Prop) (d : Dv) (k : Int) (A : Option Addr) (n c : Nat) (bs : List UInt8) (h : Dev w B F g d) (hb : RdB w A n bs) (hA : ∀ b off, A = some ⟨b, off, none⟩ → b ≠ g) (hu : d.unsure.length ≤ 1000000) :
    Calls Try.prog 76 #[.pointer (some ⟨g, 0, none⟩), .int .i64 k, .slice A n c] w (fun e w' => e = .returned (.int .i64 (d.write k bs).2) ∧ ∃ F', Dev w' B F' g (d.write k bs).1 ∧ Chg F w w' ∧ (∀ x, F x → F' x) ∧ ∀ x, F' x → F x ∨ w.heap.size ≤ x) := by
  have hlb := hb.len
  subst hlb
  have hF : ∀ x, F x → F x ∨ w.heap.size ≤ x := fun x hx => .inl hx
  rcases d.chk_cases k with ⟨_, h2⟩ | ⟨_, _, h2⟩ | ⟨_, h3, h4, h2⟩
  · have hw : d.write k bs = (d, 8) := by unfold Dv.write; rw [h2, if_neg (by decide)]
    rw [hw]
    go_enter Try.func76, Try.ntmps76
    go_wp2_with (go_at_call 123; refine (check_any _ _ _ _ _ _ h).mono ?_; rw [h2]; rintro e w1 ⟨rfl, rfl⟩; have H := Lib.hid h; clear h hw h2)
    go_ret
    exact ⟨rfl, F, H.out, Chg.refl _ _, fun x hx => hx, hF⟩
  · have hw : d.write k bs = (d, 1) := by unfold Dv.write; rw [h2, if_neg (by decide)]
    rw [hw]
    go_enter Try.func76, Try.ntmps76
    go_wp2_with (go_at_call 123; refine (check_any _ _ _ _ _ _ h).mono ?_; rw [h2]; rintro e w1 ⟨rfl, rfl⟩; have H := Lib.hid h; clear h hw h2)
    go_ret
    exact ⟨rfl, F, H.out, Chg.refl _ _, fun x hx => hx, hF⟩
  · by_cases hl : 512 < bs.length
    · have hw : d.write k bs = (d, 1) := by unfold Dv.write; rw [h2, if_pos rfl, if_pos hl]
      rw [hw]
      go_enter Try.func76, Try.ntmps76
      go_wp2_with (go_at_call 123; refine (check_any _ _ _ _ _ _ h).mono ?_; rw [h2]; rintro e w1 ⟨rfl, rfl⟩; have H := Lib.hid h; clear h hw h2)
      go_ret
      exact ⟨rfl, F, H.out, Chg.refl _ _, fun x hx => hx, hF⟩
    · by_cases hst : d.stays = true
      · have hw : Hid (d.write k bs = ({ d.spent with unsure := d.unsure ++ [(k, pad bs)] }, 0)) := by show _ = _; unfold Dv.write; rw [h2, if_pos rfl, if_neg hl, if_pos hst]
        have hus := Lib.hid (congrArg List.length (Dv.spent_unsure (d := d)))
        have hmk : ∀ W : World, (Instr.makeSlice 35 (.int .i64 512) (.int .i64 512)).run Try.prog W = .ok (.slice (some ⟨W.heap.size, 0, none⟩) 512 512) (W.alloc (.cells (madeCells #[.int .u8 0] 512) 5)) := mkB 512 512 (Nat.le_refl _) (by omega)
        go_enter Try.func76, Try.ntmps76
        go_wp2_with (first
          | (go_at_call 123; refine (check_any _ _ _ _ _ _ h).mono ?_; rw [h2]; rintro e w1 ⟨rfl, rfl⟩; have H := Lib.hid h; clear h h2)
          | (go_at_call 122; refine (spend_any _ _ _ _ _ H.out).mono ?_; rw [hst]; rintro e w1 ⟨rfl, hd1, hc1⟩; obtain ⟨hf1, sv, uv, S, hgg, hs1, hu1, hgF, hs1F, hu1F, hSF, hFl⟩ := hd1; have HG := Lib.hid hgg; have hgl : g < w1.heap.size := (hFl g hgF.1).2; clear hgg; have ho1 : OwnB (w1.alloc (.cells (madeCells #[.int .u8 0] 512) 5)) w1.heap.size (.slice (some ⟨w1.heap.size, 0, none⟩) 512 512) zero512 := OwnB.made w1 512 (by unfold maxLen; omega); have hb1 := (hb.chg hc1 (fun b off e => hA b off e)).below (bl.alloc (Nat.le_refl _) (.cells (madeCells #[.int .u8 0] 512) 5)); have hba := (bl (w := w1)).alloc (Nat.le_refl _) (.cells (madeCells #[.int .u8 0] 512) 5); clear hst)
          | ((with_reducible show wpList _ _ _ (⟨some 27, _, _, _, _, _⟩ :: _) _ _); refine wpL_copyH rfl (.tmp 25) (.tmp 26) rfl w1.heap.size 512 512 rfl A _ c rfl w1.heap.size zero512 ho1 bs hb1 (by omega) ?_; intro w2 ho2 hg2; rw [pad_eq] at ho2; have hb2 := hba.grown hg2 hba.size (fun k hk => by injection hk with hk; omega); have c1 := (cell_of_row _ _ 1 _ _ _ ((hb2.block g hgl).trans HG.out)).trans rfl)
          | ((with_reducible show wpList _ _ _ (⟨some 37, _, _, _, _, _⟩ :: _) _ _); refine wpL_pushE elW rfl (.tmp 32) (.tmp 36) rfl B uv d.spent.unsure rfl (hu1.below hb2) [.int .i64 k, .slice (some ⟨w1.heap.size, 0, none⟩) 512 512] (k, pad bs) (S' := fun b => b = w1.heap.size) (encW_own ho2) (fun b hb => ⟨by rw [hb]; exact ho2.lt.2, fun e => by have := (hu1.lt b e.symm).2; omega⟩) rfl (by rw [hus.out]; omega) (by rw [hus.out]; unfold maxLen; omega) (by have := hb2.size; omega) ?_; intro v3 w3 hown3 hg3 hv3; obtain ⟨A3, c3, rfl, _⟩ := hown3.form; have hgw3 := (hg3.block g (Nat.lt_of_lt_of_le hgl hb2.size) (fun e => (hu1F g e.symm).2.1 rfl)).trans ((hb2.block g hgl).trans HG.out); have c13 := (cell_of_row _ _ 1 _ _ _ hgw3).trans rfl; have f3 : ∀ k, w3.frozen? ⟨g, k, none⟩ = false := fun k => frozen_of_row _ _ _ _ _ hgw3))
        go_ret
        rw [hw.out]
        have hc13 : Chg (fun x => uv.ownBlock = some x) w1 w3 := (Chg.of_below hb2).grown hg3 (fun x hx => .inl hx)
        have hww : w.heap.size ≤ w1.heap.size := hc1.size
        have hB : B ≤ w.heap.size := by have := H.out.F_lt g H.out.g_F; omega
        have hcF : Chg F w w3 := (hc1.mono (fun x hx => by subst hx; exact .inl hgF.1)).trans hc13 (fun x hx => .inl (hu1F x hx).1)
        have hw23 := hg3.size
        have hln : (d.spent.unsure ++ [(k, pad bs)]).length = d.spent.unsure.length + 1 := by simp
        rw [hln] at hown3 hv3
        have hown4 := hown3
        rw [show d.spent.unsure ++ [(k, pad bs)] = d.unsure ++ [(k, pad bs)] by rw [Dv.spent_unsure]] at hown4
        have hw12 := hb2.size
        refine ⟨rfl, fun x => F x ∨ (w.heap.size ≤ x ∧ x < w3.heap.size), ?_, hcF.setCell (p := ⟨g, 1, none⟩) (.inl hgF.1) _, fun x hx => .inl hx, fun x hx => hx.imp id (·.1)⟩
        refine Dev.own_cells (w := w3) (sv := sv) (S := orS S fun b => b = w1.heap.size) ?_ ((heap_setCell_same _ _ _ _ _ _ hgw3).trans rfl) (chg_g1 w3 g 1 _) (hs1.chg hc13 (fun x hx e => (hu1F x e).2.2 hx) (fun _ hb => hb.elim)) hown4 ⟨.inl hgF.1, hgF.2⟩ (fun x hx => ⟨.inl (hs1F x hx).1, (hs1F x hx).2⟩) (fun x hx => ?_) (fun x hx => ?_) (fun x hx => ?_)
        · have := H.out.fine.write k bs
          rw [hw.out] at this
          exact this
        · rcases hv3 with e | e
          · rw [e] at hx
            exact ⟨.inl (hu1F x hx).1, (hu1F x hx).2⟩
          · have hxl := (hown3.lt x hx).2
            rw [e] at hx
            injection hx with hx
            exact ⟨.inr ⟨by omega, hxl⟩, by omega, fun e2 => by have := (hFl x (hs1F x e2).1).2; omega⟩
        · rcases hx with hx | hx
          · exact ⟨.inl (hSF x hx).1, (hSF x hx).2⟩
          · have := ho2.lt.2
            exact ⟨.inr ⟨by omega, by omega⟩, by omega, fun e2 => by have := (hFl x (hs1F x e2).1).2; omega⟩
        · rcases hx with hx | hx
          · exact ⟨(hFl x hx).1, by have := (hFl x hx).2; omega⟩
          · exact ⟨by omega, hx.2⟩
      · have hw : d.write k bs = (d.spent, 8) := by unfold Dv.write; rw [h2, if_pos rfl, if_neg hl, if_neg hst]
        rw [hw]
        have hst' : d.stays = false := by simpa using hst
        clear hst
        go_enter Try.func76, Try.ntmps76
        go_wp2_with (first
          | (go_at_call 123; refine (check_any _ _ _ _ _ _ h).mono ?_; rw [h2]; rintro e w1 ⟨rfl, rfl⟩; have H := Lib.hid h; clear h hw h2)
          | (go_at_call 122; refine (spend_any _ _ _ _ _ H.out).mono ?_; rw [hst']; rintro e w1 ⟨rfl, hd1, hc1⟩; have HD1 := Lib.hid hd1; clear hd1 hst'))
        go_ret
        exact ⟨rfl, F, HD1.out, hc1.mono (fun x hx => by subst hx; exact .inl H.out.g_F), fun x hx => hx, hF⟩
end Go.Proofs.Ytbjaphldncagjaa

/- rdata: the reader's parts, whatever the bytes: num, name, bytes. -/
namespace Go.Proofs.Ytbjaphldncagjaa
open Go.RowKit
set_option maxRecDepth 100000

def shpV (s : Shp) : Value := .agg #[.int .i64 s.bytes, .bool s.host, .bool s.mail, .bool s.short, .int .i64 s.nums, .int .i64 s.size, .bool s.texts, .bool s.first]
/-- A reader, in its block. -/
def Rdr (w : World) (p : Nat) (v : Value) (pos en : Int) : Prop := w.heap[p]? = some (.cells #[v, .int .i64 pos, .int .i64 en] 158 (0, 0))
section
variable {w w' : World} {p : Nat} {v : Value} {pos en : Int}
theorem Rdr.cells (h : Rdr w p v pos en) : w.cell? ⟨p, 0, none⟩ = some v ∧ w.cell? ⟨p, 1, none⟩ = some (.int .i64 pos) ∧ w.cell? ⟨p, 2, none⟩ = some (.int .i64 en) ∧ ∀ k, w.frozen? ⟨p, k, none⟩ = false :=
  ⟨(cell_of_row _ _ _ _ _ _ h).trans rfl, (cell_of_row _ _ _ _ _ _ h).trans rfl, (cell_of_row _ _ _ _ _ _ h).trans rfl, fun _ => frozen_of_row _ _ _ _ _ h⟩
theorem Rdr.lt (h : Rdr w p v pos en) : p < w.heap.size := (Array.getElem?_eq_some_iff.1 h).1
theorem Rdr.below (h : Rdr w p v pos en) (hb : Below w.heap.size w w') : Rdr w' p v pos en := (hb.block p h.lt).trans h
theorem Rdr.move (h : Rdr w p v pos en) (q : Int) : Rdr (w.setCell ⟨p, 1, none⟩ (.int .i64 q)) p v q en := (heap_setCell_same _ _ _ _ _ _ h).trans rfl
end
/-- The panic with an error. -/
def pnc (x : Int) : List PanicEntry := [{ v := .iface 24 (.int .i64 x), recovered := false }]
/-- A reader's call: it says what the plain law says, or gives up with its error. -/
def RdX {α : Type} (r : Except Int (α × Nat)) (good : Value → World → α → Prop) (w : World) (p : Nat) (bv : Value) (en : Nat) (e : Ending) (w' : World) : Prop :=
  match r with
  | .ok (a, q) => ∃ v, e = .returned v ∧ good v w' a ∧ Rdr w' p bv (q : Int) (en : Int) ∧ Chg (fun k => k = p) w w'
  | .error x => e = .panicked (pnc x) ∧ Chg (fun k => k = p) w w'
/-- The bytes do not lie in the reader's block. -/
def offA (A : Option Addr) (p : Nat) : Prop := ∀ b off, A = some ⟨b, off, none⟩ → b ≠ p
theorem RdB.chgP {w w' : World} {A : Option Addr} {n p : Nat} {bs : List UInt8} (h : RdB w A n bs) (hc : Chg (fun k => k = p) w w') (ho : offA A p) : RdB w' A n bs := h.chg hc fun b off e e2 => ho b off e e2

set_option maxHeartbeats 1000000 in
theorem gnum_any (w : World) (p : Nat) (A : Option Addr) (n c pos en size : Nat) (bs : List UInt8) (h : Rdr w p (.slice A n c) (pos : Int) (en : Int)) (hr : RdB w A n bs) (hpe : pos ≤ en) (hen : en ≤ n) (hn : n ≤ c) (hn2 : n ≤ 1000000) (hs1 : 1 ≤ size) (hs7 : size ≤ 7) :
    Calls Try.prog 154 #[.pointer (some ⟨p, 0, none⟩), .int .i64 (size : Int)] w (RdX (numR bs pos en size) (fun v _ a => v = .int .i64 (a : Int)) w p (.slice A n c) en) := by
  obtain ⟨c0, c1, c2, f0⟩ := h.cells
  have H := Lib.hid h
  have hl := hr.len
  have hg := numR_get (b := bs) hs1 hs7 hpe (by omega)
  have HR := Lib.hid (hr.take hen)
  clear h hr
  have hi1 : (0 : Int) ≤ en := by omega
  have hi2 : (en : Int) ≤ c := by omega
  cases hx : numR bs pos en size with
  | error x =>
    rw [hx] at hg
    obtain ⟨rfl, _⟩ := numR_err hx
    have HG := Lib.hid hg
    clear hg hx
    go_enter Try.func154, Try.ntmps154
    go_wp2
    go_region_held3 (fun w' => w'.cell? ⟨p, 0, none⟩ = some (.slice A n c) ∧ w'.cell? ⟨p, 1, none⟩ = some (.int .i64 (pos : Int)) ∧ w'.cell? ⟨p, 2, none⟩ = some (.int .i64 (en : Int)))
      (first
        | with_reducible exact ⟨c0, c1, c2⟩
        | with_reducible exact ⟨below_cell bl.drew c0, below_cell bl.drew c1, below_cell bl.drew c2⟩
        | with_reducible exact ⟨y0, y1, y2⟩
        | fail)
      (first
        | (go_at_call 118; refine (get_any A en c (bs.take en) (pos : Int) (size : Int) w.drew (HR.out.below bl.drew) (by omega) (by omega)).mono ?_; rw [HG.out]; rintro e w2 ⟨rfl, rfl⟩)
        | fail)
    go_wp2
    exact ⟨rfl, rfl, (Chg.refl (fun k => k = p) w).drew⟩
  | ok r =>
    obtain ⟨m, q⟩ := r
    rw [hx] at hg
    obtain ⟨rfl, hq⟩ := numR_le hx
    have HG := Lib.hid hg
    clear hg hx
    go_enter Try.func154, Try.ntmps154
    go_wp2
    go_region_held3 (fun w' => w'.cell? ⟨p, 0, none⟩ = some (.slice A n c) ∧ w'.cell? ⟨p, 1, none⟩ = some (.int .i64 (pos : Int)) ∧ w'.cell? ⟨p, 2, none⟩ = some (.int .i64 (en : Int)))
      (first
        | with_reducible exact ⟨c0, c1, c2⟩
        | with_reducible exact ⟨below_cell bl.drew c0, below_cell bl.drew c1, below_cell bl.drew c2⟩
        | with_reducible exact ⟨y0, y1, y2⟩
        | fail)
      (first
        | (go_at_call 118; refine (get_any A en c (bs.take en) (pos : Int) (size : Int) w.drew (HR.out.below bl.drew) (by omega) (by omega)).mono ?_; rw [HG.out]; rintro e w2 ⟨rfl, rfl⟩)
        | fail)
    go_wp2
    go_ret
    rw [show ((pos : Int) + size) = ((pos + size : Nat) : Int) by omega]
    exact ⟨_, rfl, rfl, (H.out.below bl.drew).move _, (Chg.refl (fun k => k = p) w).drew.setCell (p := ⟨p, 1, none⟩) (Or.inl rfl) _⟩
end Go.Proofs.Ytbjaphldncagjaa

/- rdata: the reader's parts, whatever the bytes: name, bytes. -/
namespace Go.Proofs.Ytbjaphldncagjaa
open Go.RowKit
set_option maxRecDepth 100000

theorem own_noP {w0 w : World} {v : Value} {ns : List (List UInt8)} {p : Nat} (h : OwnS w w0.heap.size v ns) (hp : p < w0.heap.size) : ∀ z, v.ownBlock = some z → ¬ z = p := fun z hz e => by have := (OwnE.lt h z hz).1; omega

set_option maxHeartbeats 1000000 in
theorem gname_any (w : World) (p : Nat) (A : Option Addr) (n c pos en : Nat) (bs : List UInt8) (h : Rdr w p (.slice A n c) (pos : Int) (en : Int)) (hr : RdB w A n bs) (hn : n ≤ c) (hn2 : n ≤ 1000000) :
    Calls Try.prog 150 #[.pointer (some ⟨p, 0, none⟩)] w (RdX (nameX bs pos en) (fun v w' a => OwnS w' w.heap.size v a) w p (.slice A n c) en) := by
  obtain ⟨c0, c1, c2, f0⟩ := h.cells
  have H := Lib.hid h
  have HR := Lib.hid hr
  have hpl := h.lt
  have hwg : ∀ w1 : World, RdB w1 A n bs → Calls Try.prog 117 #[.slice A n c, .int .i64 (pos : Int)] w1 (RetW (getP bs pos pos 0 []) w1) := fun w1 h1 => by
    have := wget_any A n c bs (pos : Int) w1 h1 hn (by omega)
    rwa [if_neg (by omega), Int.toNat_natCast] at this
  have HW := Lib.hid hwg
  clear h hr hwg
  unfold nameX
  have hnn := getP_nn bs pos pos 0 []
  obtain ⟨⟨ls, nx', er⟩, hg⟩ : ∃ g, g = getP bs pos pos 0 [] := ⟨_, rfl⟩
  rw [← hg] at HW hnn ⊢
  clear hg
  simp only at hnn ⊢
  by_cases he : er = 0
  · subst he
    rw [if_pos rfl]
    by_cases hlt : en < nx'.toNat
    · have h1 : (en : Int) < nx' := by omega
      rw [if_pos hlt]
      go_enter Try.func150, Try.ntmps150
      go_wp2
      go_region_held3 (fun w' => w'.cell? ⟨p, 0, none⟩ = some (.slice A n c) ∧ w'.cell? ⟨p, 1, none⟩ = some (.int .i64 (pos : Int)))
        (first
          | with_reducible exact ⟨c0, c1⟩
          | with_reducible exact ⟨below_cell bl.drew c0, below_cell bl.drew c1⟩
          | with_reducible exact ⟨y0, y1⟩
          | fail)
        (first
          | (go_at_call 117; refine (HW.out w.drew (HR.out.below bl.drew)).mono ?_; rintro e w2 ⟨v2, rfl, hown2, hb2'⟩; have hb2 : Below w.heap.size w w2 := bl.drew.trans hb2'; have y0 := below_cell hb2 c0; have y1 := below_cell hb2 c1)
          | fail)
      have z2 := below_cell hb2 c2
      go_wp2
      exact ⟨rfl, rfl, Chg.of_below hb2⟩
    · rw [if_neg hlt]
      · obtain ⟨q, rfl⟩ := Int.eq_ofNat_of_zero_le hnn
        rw [Int.toNat_natCast] at hlt ⊢
        have h1 : ¬ (en : Int) < (q : Int) := by omega
        go_enter Try.func150, Try.ntmps150
        go_wp2
        go_region_held3 (fun w' => w'.cell? ⟨p, 0, none⟩ = some (.slice A n c) ∧ w'.cell? ⟨p, 1, none⟩ = some (.int .i64 (pos : Int)))
          (first
            | with_reducible exact ⟨c0, c1⟩
            | with_reducible exact ⟨below_cell bl.drew c0, below_cell bl.drew c1⟩
            | with_reducible exact ⟨y0, y1⟩
            | fail)
          (first
            | (go_at_call 117; refine (HW.out w.drew (HR.out.below bl.drew)).mono ?_; rintro e w2 ⟨v2, rfl, hown2, hb2'⟩; have hb2 : Below w.heap.size w w2 := bl.drew.trans hb2'; have y0 := below_cell hb2 c0; have y1 := below_cell hb2 c1)
            | fail)
        have z2 := below_cell hb2 c2
        have fz := (H.out.below hb2).cells.2.2.2
        have hch : Chg (fun k => k = p) w2 (w2.setCell ⟨p, 1, none⟩ (.int .i64 (q : Int))) := chg_g1 _ _ _ _
        go_wp2
        go_ret
        exact ⟨_, rfl, OwnE.chg hown2 hch (own_noP (w0 := w) hown2 hpl) (fun _ hz => hz.elim), (H.out.below hb2).move _, (Chg.of_below (F := fun k => k = p) hb2).trans hch (fun _ h => .inl h)⟩
  · rw [if_neg he]
    go_enter Try.func150, Try.ntmps150
    go_wp2
    go_region_held3 (fun w' => w'.cell? ⟨p, 0, none⟩ = some (.slice A n c) ∧ w'.cell? ⟨p, 1, none⟩ = some (.int .i64 (pos : Int)))
      (first
        | with_reducible exact ⟨c0, c1⟩
        | with_reducible exact ⟨below_cell bl.drew c0, below_cell bl.drew c1⟩
        | with_reducible exact ⟨y0, y1⟩
        | fail)
      (first
        | (go_at_call 117; refine (HW.out w.drew (HR.out.below bl.drew)).mono ?_; rintro e w2 ⟨v2, rfl, hown2, hb2'⟩; have hb2 : Below w.heap.size w w2 := bl.drew.trans hb2'; have y0 := below_cell hb2 c0; have y1 := below_cell hb2 c1)
        | fail)
    have z2 := below_cell hb2 c2
    go_wp2
    exact ⟨rfl, rfl, Chg.of_below hb2⟩
end Go.Proofs.Ytbjaphldncagjaa

/- rdata: the reader's bytes, whatever they are. -/
namespace Go.Proofs.Ytbjaphldncagjaa
open Go.RowKit
set_option maxRecDepth 100000

theorem cutA {w : World} {A : Option Addr} {n c i k : Nat} {bs : List UInt8} (h : RdB w A n bs) (hk : i + k ≤ n) (hc : n ≤ c) : RdB w (if c = i then A else A.map (·.add i)) k ((bs.drop i).take k) := by
  by_cases h0 : k = 0
  · subst h0
    rw [List.take_zero]
    exact Rd.nil _ _ _
  · rw [if_neg (by omega)]
    have hl := h.len
    obtain ⟨b, off, rfl, hcell⟩ := h.2 (by simp; omega)
    rw [Option.map_some, add_flat]
    exact h.cut hk

set_option maxHeartbeats 1000000 in
theorem gbytes_any (w : World) (p : Nat) (A : Option Addr) (n c pos en m : Nat) (bs : List UInt8) (h : Rdr w p (.slice A n c) (pos : Int) (en : Int)) (hr : RdB w A n bs) (ho : offA A p) (hpe : pos ≤ en) (hen : en ≤ n) (hn : n ≤ c) (hc : c ≤ 9223372036854775807) (hn2 : n ≤ 1000000) (hm : m ≤ 1000000) :
    Calls Try.prog 147 #[.pointer (some ⟨p, 0, none⟩), .int .i64 (m : Int)] w (RdX (bytesR bs pos en m) (fun v w' a => OwnB w' w.heap.size v a) w p (.slice A n c) en) := by
  obtain ⟨c0, c1, c2, f0⟩ := h.cells
  have H := Lib.hid h
  have hpl := h.lt
  unfold bytesR
  by_cases hlt : en < pos + m
  · rw [if_pos hlt]
    have h1 : (en : Int) - pos < m := by omega
    go_enter Try.func147, Try.ntmps147
    go_wp2
    go_quiet (fail)
    go_wp2
    exact ⟨rfl, rfl, (Chg.refl (fun k => k = p) w).drewN nq⟩
  · rw [if_neg hlt]
    have h1 : ¬ ((en : Int) - pos < m) := by omega
    go_enter Try.func147, Try.ntmps147
    go_wp2
    go_quiet (fail)
    go_wp2
    obtain ⟨w1, hw1⟩ : ∃ w1, w1 = (w.drewN nq).setCell ⟨p, 1, none⟩ (.int .i64 ((pos + m : Nat) : Int)) := ⟨_, rfl⟩
    have H1 : Hid (Rdr w1 p (.slice A n c) ((pos + m : Nat) : Int) en) := by
      show Rdr _ _ _ _ _
      rw [hw1]
      exact (h.below (dN bl nq)).move _
    have hch : Chg (fun k => k = p) w w1 := by rw [hw1]; exact ((Chg.refl (fun k => k = p) w).drewN nq).setCell (p := ⟨p, 1, none⟩) (Or.inl rfl) _
    have hr1 := RdB.chgP hr hch ho
    rw [show ((pos : Int) + m) = ((pos + m : Nat) : Int) by omega, ← hw1]
    clear hw1
    have HC := Lib.hid (cutA (i := pos) (k := m) (c := c) hr1 (by omega) hn)
    clear hr1 c0 c1 c2 f0 h hr
    obtain ⟨c0, c1, c2, f0⟩ := H1.out.cells
    rw [show ((pos + m : Nat) : Int) = (pos : Int) + m by omega] at c1
    have hwp : IntKind.i64.wrap (pos : Int) = pos := by rw [IntKind.wrap_i64]; omega
    have hs1 : (0 : Int) ≤ pos := by omega
    have hs2 : (pos : Int) ≤ (pos : Int) + m := by omega
    have hs3 : ((pos : Int) + m) ≤ c := by omega
    obtain ⟨A2, hA2⟩ : ∃ A2 : Option Addr, A2 = if c = pos then A else A.map (·.add pos) := ⟨_, rfl⟩
    have HA2 := Lib.hid hA2
    rw [← hA2] at HC
    clear hA2
    go_region_held3 (fun w' => w'.cell? ⟨p, 0, none⟩ = some (.slice A n c) ∧ w'.cell? ⟨p, 1, none⟩ = some (.int .i64 ((pos : Int) + m)))
      (first
        | with_reducible exact ⟨c0, c1⟩
        | with_reducible exact ⟨below_cell bl.drew c0, below_cell bl.drew c1⟩
        | with_reducible exact ⟨y0, y1⟩
        | fail)
      (first
        | (go_at_call 113; rw [← HA2.out, show ((pos : Int) + m).toNat - pos = m by omega]; refine (sclone_any A2 m _ _ w1.drew (HC.out.below bl.drew) (by omega)).mono ?_; rintro e w2 ⟨v2, rfl, hown2, hb2'⟩; have hb2 : Below w1.heap.size w1 w2 := bl.drew.trans hb2'; have y0 := below_cell hb2 c0; have y1 := below_cell hb2 c1)
        | fail)
    go_wp2
    go_ret
    exact ⟨_, rfl, hown2.mono (by have := hch.size; show w.heap.size ≤ w1.heap.size; omega), H1.out.below hb2, hch.nx hb2⟩
end Go.Proofs.Ytbjaphldncagjaa

/- Slices of numbers of the call's own. -/
namespace Go.Proofs.Ytbjaphldncagjaa
open Go.RowKit

theorem elN : ElT Try.prog 44 3 encI 8 := ElT.mk Try.underlying44 (.int .i64 0) 1 (by kernel_rfl) rfl rfl
def OwnI (w : World) (base : Nat) (v : Value) (l : List Int) : Prop := OwnE encI 3 noS w base v l
theorem OwnI.nil (w : World) (base : Nat) : OwnI w base (.slice none 0 0) [] := OwnE.nil _ _ _ _
theorem orS_noS : orS noS noS = noS := by funext b; simp [orS, noS]
/-- append(s, n): one number. -/
theorem wpL_pushI {w : World} {ops : Array Oper} {rest : List Oper} {o : Oper} {a : Act} {Q : Exit → Act → World → Prop} (hgd : Region.wanted o (yielded ops a.tmps) = true) (s x : Operand)
    (ho : o.op = .call { callee := .builtin .append, args := #[s, x], argTypes := #[44, 44] })
    (base : Nat) (v : Value) (xs : List Int) (hs : a.eval s = v) (hown : OwnI w base v xs) (y : Int) (hy : -9223372036854775808 ≤ y ∧ y ≤ 9223372036854775807)
    {g : Nat} (hx : a.eval x = .slice (some ⟨g, 0, none⟩) 1 1) (hb : xs.length + 1 ≤ 8796093022208) (hbase : base ≤ w.heap.size)
    (h : ∀ v' w', OwnI w' base v' (xs ++ [y]) → w.grownBy w' v.ownBlock → (v'.ownBlock = v.ownBlock ∨ v'.ownBlock = some (w.heap.size + 1)) → wpList Try.prog ops Q rest (a.put o.dst v') w') (hgs : g = w.heap.size := by simp) :
    wpList Try.prog ops Q (o :: rest) a (w.alloc (.cells #[.int .i64 y] 3)) := by
  refine wpL_pushE (S' := noS) elN hgd s x ho base v xs hs hown [.int .i64 y] y ⟨rfl, hy⟩ (fun b hb => hb.elim) hx (by omega) (by unfold maxLen; omega) hbase (fun v' w' h1 h2 h3 => h v' w' ?_ h2 h3) hgs
  rw [orS_noS] at h1
  exact h1
end Go.Proofs.Ytbjaphldncagjaa

/- rdata: the reader's numbers. -/
namespace Go.Proofs.Ytbjaphldncagjaa
open Go.RowKit
set_option maxRecDepth 100000

def lenOf : Value → Nat
  | .slice _ n _ => n
  | _ => 0
theorem val_i64 {l : List UInt8} (h : l.length ≤ 7) : -9223372036854775808 ≤ (val l : Int) ∧ (val l : Int) ≤ 9223372036854775807 := by
  have := val_lt l
  have h2 : 256 ^ l.length ≤ 256 ^ 7 := Nat.pow_le_pow_right (by decide) h
  have h3 : (256 : Nat) ^ 7 = 72057594037927936 := by decide
  omega
theorem numR_i64 {b : List UInt8} {pos en size n q : Nat} (h7 : size ≤ 7) (h : numR b pos en size = .ok (n, q)) : -9223372036854775808 ≤ (n : Int) ∧ (n : Int) ≤ 9223372036854775807 := by
  unfold numR at h
  split at h
  · cases h
  · injection h with h
    injection h with h1 h2
    rw [← h1]
    exact val_i64 (by rw [List.length_take]; omega)

set_option maxHeartbeats 2000000 in
theorem gnums_any (w : World) (p : Nat) (A : Option Addr) (n c pos en k z : Nat) (bs : List UInt8) (s : Shp) (hk : s.nums = (k : Int)) (hz : s.size = (z : Int)) (h : Rdr w p (.slice A n c) (pos : Int) (en : Int)) (hr : RdB w A n bs) (ho : offA A p) (hpe : pos ≤ en) (hen : en ≤ n) (hn : n ≤ c) (hn2 : n ≤ 1000000) (hkk : k ≤ 5) (hz1 : 0 < k → 1 ≤ z) (hz7 : z ≤ 7) :
    Calls Try.prog 149 #[.pointer (some ⟨p, 0, none⟩), shpV s] w (RdX (numsR bs en z k pos []) (fun v w' a => OwnI w' w.heap.size v a) w p (.slice A n c) en) := by
  have hpl := h.lt
  unfold shpV
  rw [hk, hz]
  obtain ⟨w0, hw0⟩ : ∃ w0, w0 = w.alloc (.cells #[.int .i64 s.bytes, .bool s.host, .bool s.mail, .bool s.short, .int .i64 (k : Int), .int .i64 (z : Int), .bool s.texts, .bool s.first] 146) := ⟨_, rfl⟩
  have hb0 : Below w.heap.size w w0 := by rw [hw0]; exact bl.alloc (Nat.le_refl _) _
  have hs0 : Hid (w0.heap[w.heap.size]? = some (.cells #[.int .i64 s.bytes, .bool s.host, .bool s.mail, .bool s.short, .int .i64 (k : Int), .int .i64 (z : Int), .bool s.texts, .bool s.first] 146 (0, 0))) := by show _ = _; rw [hw0]; exact heap_alloc_new w _
  have H := Lib.hid (h.below hb0)
  have HR := Lib.hid (hr.below hb0)
  have x4 : w0.cell? ⟨w.heap.size, 4, none⟩ = some (.int .i64 (k : Int)) := (cell_of_row _ _ _ _ _ _ hs0.out).trans rfl
  have hsz : Hid (w0.heap.size = w.heap.size + 1) := by show _ = _; rw [hw0]; simp
  clear h hr
  go_enter Try.func149, Try.ntmps149
  go_upto_region 1 with (fail)
  rw [← hw0]
  clear hw0
  go_wp2
  go_loopw [5, 8] (fun ov iv wr => ∃ (j q : Nat) (acc : List Int) (A' : Option Addr) (c' : Nat), ov = .slice A' acc.length c' ∧ iv = .int .i64 (j : Int) ∧ j ≤ k ∧ acc.length = j ∧ Hid (OwnI wr w0.heap.size (.slice A' acc.length c') acc) ∧ Hid (Rdr wr p (.slice A n c) (q : Int) (en : Int)) ∧ q ≤ en ∧ Hid (Chg (fun x => x = p) w0 wr) ∧ Hid (numsR bs en z k pos [] = numsR bs en z (k - j) q acc)) (fun _ iv _ => k - (intOf iv).toNat)
  case atStart => exact ⟨0, pos, [], none, 0, rfl, rfl, Nat.zero_le _, rfl, OwnI.nil _ _, H, hpe, Chg.refl _ _, rfl⟩
  case round =>
    clear H x4
    obtain ⟨j, q, acc, A', c', rfl, rfl, hj, hal, HO, HP, hq, HC, HE⟩ := hrel
    have hs1 := HC.out.heap hs0.out (by omega)
    have x4 : wr.cell? ⟨w.heap.size, 4, none⟩ = some (.int .i64 (k : Int)) := (cell_of_row _ _ _ _ _ _ hs1).trans rfl
    have x5 : wr.cell? ⟨w.heap.size, 5, none⟩ = some (.int .i64 (z : Int)) := (cell_of_row _ _ _ _ _ _ hs1).trans rfl
    by_cases hlt : j < k
    · have HR1 := Lib.hid (RdB.chgP HR.out HC.out ho)
      have hkj : k - j = (k - (j + 1)) + 1 := by omega
      have he := HE.out
      rw [hkj, numsR] at he
      cases hx : numR bs q en z with
      | error x =>
        rw [hx] at he
        simp only at he
        have HEE := Lib.hid he
        have HX := Lib.hid hx
        clear hx he hs1
        go_wp2_with (first
          | (go_at_call 154; refine (gnum_any wr p A n c q en z bs HP.out HR1.out hq hen hn hn2 (hz1 (by omega)) hz7).mono ?_; rw [HX.out]; rintro e w2 ⟨rfl, hc2⟩)
          | fail)
        refine ⟨rfl, ?_⟩
        rw [HEE.out]
        exact ⟨rfl, (Chg.of_below (F := fun x => x = p) hb0).trans (HC.out.trans hc2 (fun _ h => .inl h)) (fun _ h => .inl h)⟩
      | ok r =>
        obtain ⟨m, q2⟩ := r
        rw [hx] at he
        simp only at he
        have hm := numR_i64 hz7 hx
        have hq2 := (numR_le hx).2
        have HX := Lib.hid hx
        have HE2 := Lib.hid he
        have hno : ∀ x, (Value.slice A' acc.length c').ownBlock = some x → ¬ x = p := fun x hx e => by have := (OwnE.lt HO.out x hx).1; have := hsz.out; omega
        clear hx he hs1
        have hal5 : acc.length + 1 ≤ 8796093022208 := by omega
        have HAL := Lib.hid hal
        clear hal
        go_wp2_with (first
          | ((with_reducible show wpList _ _ _ (⟨some 16, _, _, _, _, _⟩ :: _) _ _); refine wpL_pushI rfl (.tmp 10) (.tmp 15) rfl w0.heap.size (.slice A' acc.length c') acc rfl HO2.out _ hm rfl hal5 HSZ.out ?_; intro v5 w5 hown5 hg5 hv5; obtain ⟨A5, c5, rfl, _⟩ := OwnE.form hown5)
          | (go_at_call 154; refine (gnum_any wr p A n c q en z bs HP.out HR1.out hq hen hn hn2 (hz1 (by omega)) hz7).mono ?_; rw [HX.out]; rintro e w2 ⟨v2, rfl, rfl, hp2, hc2⟩; have HP2 := Lib.hid hp2; have HC2 := Lib.hid hc2; have HO2 := Lib.hid (OwnE.chg HO.out hc2 hno (fun _ hz => hz.elim)); have HSZ := Lib.hid (show w0.heap.size ≤ w2.heap.size from Nat.le_trans HC.out.size hc2.size); clear hp2 hc2)
          | fail)
        have hge : ∀ x, (Value.slice A' acc.length c').ownBlock = some x → w0.heap.size ≤ x := fun x hx => (OwnE.lt HO.out x hx).1
        have hp5 : Rdr w5 p (.slice A n c) (q2 : Int) en := (hg5.block p HP2.out.lt (fun e => by have := hge p e.symm; have := hsz.out; omega)).trans HP2.out
        have hc5 : Chg (fun x => x = p) w0 w5 := (HC.out.trans HC2.out (fun _ h => .inl h)).grown hg5 (fun x hx => .inr (hge x hx))
        have hl5 : (acc ++ [(m : Int)]).length = j + 1 := by rw [List.length_append, HAL.out]; rfl
        go_roundw
        case rel => exact ⟨j + 1, q2, acc ++ [(m : Int)], A5, c5, by rw [List.length_append]; rfl, by go_num, by omega, hl5, hown5, hp5, hq2, hc5, HE2.out⟩
        case measure => simp [intOf]; omega
    · obtain rfl : j = k := by omega
      have he := HE.out
      rw [Nat.sub_self, numsR] at he
      have HEE := Lib.hid he
      clear he
      go_wp2
      go_ret
      rw [HEE.out]
      exact ⟨_, rfl, OwnE.base_le HO.out (by have := hsz.out; omega), HP.out, (Chg.of_below (F := fun x => x = p) hb0).trans HC.out (fun _ h => .inl h)⟩
end Go.Proofs.Ytbjaphldncagjaa

/- rdata: the reader's texts. -/
namespace Go.Proofs.Ytbjaphldncagjaa
open Go.RowKit
set_option maxRecDepth 100000

theorem numR_byte {b : List UInt8} {pos en n q : Nat} (h : numR b pos en 1 = .ok (n, q)) : n ≤ 1000000 := by
  unfold numR at h
  split at h
  · cases h
  · injection h with h
    injection h with h1 h2
    have h3 := val_lt ((b.drop pos).take 1)
    have h4 : ((b.drop pos).take 1).length ≤ 1 := by rw [List.length_take]; omega
    have h5 : 256 ^ ((b.drop pos).take 1).length ≤ 256 ^ 1 := Nat.pow_le_pow_right (by decide) h4
    have h6 : (256 : Nat) ^ 1 = 256 := by decide
    omega
theorem bytesR_len {b l : List UInt8} {pos en n q : Nat} (h : bytesR b pos en n = .ok (l, q)) : l.length ≤ n := by
  unfold bytesR at h
  split at h
  · cases h
  · injection h with h
    injection h with h1 h2
    rw [← h1, List.length_take]
    omega

theorem textsR_full {b : List UInt8} {en q : Nat} {acc : List (List UInt8)} (h : q < en) : textsR b en 0 q acc = .error 4 := by rw [textsR, if_pos h]
theorem textsR_more {b : List UInt8} {en k q : Nat} {acc : List (List UInt8)} (h : q < en) : textsR b en (k + 1) q acc = (match numR b q en 1 with
      | .error e => .error e
      | .ok (n, r) => match bytesR b r en n with
        | .error e => .error e
        | .ok (t, r2) => textsR b en k r2 (acc ++ [t])) := by rw [textsR, if_pos h]; rfl

set_option maxHeartbeats 2000000 in
theorem gtexts_any (w : World) (p : Nat) (A : Option Addr) (n c pos en : Nat) (bs : List UInt8) (h : Rdr w p (.slice A n c) (pos : Int) (en : Int)) (hr : RdB w A n bs) (ho : offA A p) (hpe : pos ≤ en) (hen : en ≤ n) (hn : n ≤ c) (hc : c ≤ 9223372036854775807) (hn2 : n ≤ 1000000) :
    Calls Try.prog 148 #[.pointer (some ⟨p, 0, none⟩)] w (RdX (textsR bs en 64 pos []) (fun v w' a => OwnS w' w.heap.size v a) w p (.slice A n c) en) := by
  have hpl := h.lt
  have H := Lib.hid h
  have HR := Lib.hid hr
  clear h hr
  go_enter Try.func148, Try.ntmps148
  go_wp2
  go_loopw [3] (fun ov wr => ∃ (a k q : Nat) (acc : List (List UInt8)) (A' : Option Addr) (c' : Nat), ov = .slice A' a c' ∧ a + k = 64 ∧ Hid (acc.length = a) ∧ Hid (OwnS wr w.heap.size (.slice A' a c') acc) ∧ Hid (Rdr wr p (.slice A n c) (q : Int) (en : Int)) ∧ q ≤ en ∧ Hid (Chg (fun x => x = p) w wr) ∧ Hid (textsR bs en 64 pos [] = textsR bs en k q acc)) (fun ov _ => 64 - lenOf ov)
  case atStart => exact ⟨0, 64, pos, [], none, 0, rfl, rfl, rfl, OwnS.nil _ _, H, hpe, Chg.refl _ _, rfl⟩
  case round =>
    clear H
    obtain ⟨a, k, q, acc, A', c', rfl, hak, HAL, HO, HP, hq, HC, HE⟩ := hrel
    obtain ⟨c0, c1, c2, f0⟩ := HP.out.cells
    by_cases hlt : q < en
    · rcases k with _ | k
      · have he := HE.out
        rw [textsR, if_pos hlt] at he
        have HEE := Lib.hid he
        clear he
        have ha : a = 64 := by omega
        subst ha
        go_wp2
        go_quiet (fail)
        go_wp2
        refine ⟨rfl, ?_⟩
        rw [HEE.out]
        exact ⟨rfl, HC.out.drewN nq⟩
      · have ha64 : ¬ a = 64 := by omega
        have he := HE.out.trans (textsR_more hlt)
        have HR1 := Lib.hid (RdB.chgP HR.out HC.out ho)
        cases hx : numR bs q en 1 with
        | error x =>
          rw [hx] at he
          simp only at he
          have HEE := Lib.hid he
          have HX := Lib.hid hx
          clear hx he
          go_wp2
          go_quiet (fail)
          go_wp2_with (first
            | (go_at_call 154; refine (gnum_any (wr.drewN nq) p A n c q en 1 bs (HP.out.below (dN bl nq)) (HR1.out.below (dN bl nq)) hq hen hn hn2 (by omega) (by omega)).mono ?_; rw [HX.out]; rintro e w2 ⟨rfl, hc2⟩)
            | fail)
          refine ⟨rfl, ?_⟩
          rw [HEE.out]
          exact ⟨rfl, (HC.out.drewN nq).trans hc2 (fun _ h => .inl h)⟩
        | ok r =>
          obtain ⟨m, q2⟩ := r
          rw [hx] at he
          simp only at he
          have hm := numR_byte hx
          have hq2 := (numR_le hx).2
          have HX := Lib.hid hx
          have hno : ∀ {wz : World} {v : Value} {ns : List (List UInt8)}, OwnS wz w.heap.size v ns → ∀ z, v.ownBlock = some z → ¬ z = p := fun h z hz e => by have := (OwnE.lt h z hz).1; omega
          clear hx
          cases hy : bytesR bs q2 en m with
          | error x =>
            rw [hy] at he
            simp only at he
            have HEE := Lib.hid he
            have HY := Lib.hid hy
            clear hy he
            go_wp2
            go_quiet (fail)
            go_wp2_with (first
              | (go_at_call 147; refine (gbytes_any w2 p A n c q2 en m bs HP2.out (RdB.chgP HR1.out HC2.out ho) ho hq2 hen hn hc hn2 hm).mono ?_; rw [HY.out]; rintro e w3 ⟨rfl, hc3⟩)
              | (go_at_call 154; refine (gnum_any (wr.drewN nq) p A n c q en 1 bs (HP.out.below (dN bl nq)) (HR1.out.below (dN bl nq)) hq hen hn hn2 (by omega) (by omega)).mono ?_; rw [HX.out]; rintro e w2 ⟨v2, rfl, rfl, hp2, hc2⟩; have HP2 := Lib.hid hp2; have HC2 := Lib.hid (((Chg.refl (fun z => z = p) wr).drewN nq).trans hc2 (fun _ h => .inl h)); clear hp2 hc2)
              | fail)
            refine ⟨rfl, ?_⟩
            rw [HEE.out]
            exact ⟨rfl, (HC.out.trans HC2.out (fun _ h => .inl h)).trans hc3 (fun _ h => .inl h)⟩
          | ok r2 =>
            obtain ⟨t, q3⟩ := r2
            rw [hy] at he
            simp only at he
            have htl := bytesR_len hy
            have hq3 := (bytesR_le hy).2
            have HY := Lib.hid hy
            have HE2 := Lib.hid he
            clear hy he
            go_wp2
            go_quiet (fail)
            go_wp2_with (first
              | ((with_reducible show wpList _ _ _ (⟨some 24, _, _, _, _, _⟩ :: _) _ _); refine wpL_pushS rfl (.tmp 17) (.tmp 23) rfl w.heap.size (.slice A' a c') acc rfl HO3.out t (by unfold maxLen; omega) rfl (by rw [HAL.out]; omega) HSZ.out ?_; intro v5 w5 hown5 hg5 hv5; obtain ⟨A5, c5, rfl, _⟩ := OwnE.form hown5)
              | (go_at_call 147; refine (gbytes_any w2 p A n c q2 en m bs HP2.out (RdB.chgP HR1.out HC2.out ho) ho hq2 hen hn hc hn2 hm).mono ?_; rw [HY.out]; rintro e w3 ⟨v3, rfl, hown3, hp3, hc3⟩; have HP3 := Lib.hid hp3; have HC3 := Lib.hid hc3; have HO3 := Lib.hid (OwnE.chg HO2.out hc3 (hno HO2.out) (fun _ hz => hz.elim)); have HSZ := Lib.hid (show w.heap.size ≤ w3.heap.size from Nat.le_trans (Nat.le_trans HC.out.size HC2.out.size) hc3.size); obtain ⟨A3, c3, rfl, hr3, _⟩ := hown3.form; have hcv := conv_str (P := Try.prog) _ _ _ Try.underlying35 Try.underlying5 Try.underlying9 w3 A3 t.length c3 t hr3; clear hc3 hp3 hown3 hr3)
              | (go_at_call 154; refine (gnum_any (wr.drewN nq) p A n c q en 1 bs (HP.out.below (dN bl nq)) (HR1.out.below (dN bl nq)) hq hen hn hn2 (by omega) (by omega)).mono ?_; rw [HX.out]; rintro e w2 ⟨v2, rfl, rfl, hp2, hc2⟩; have HP2 := Lib.hid hp2; have HC2 := Lib.hid (((Chg.refl (fun z => z = p) wr).drewN nq).trans hc2 (fun _ h => .inl h)); have HO2 := Lib.hid (OwnE.chg HO.out HC2.out (hno HO.out) (fun _ hz => hz.elim)); clear hp2 hc2)
              | fail)
            have hge : ∀ z, (Value.slice A' a c').ownBlock = some z → w.heap.size ≤ z := fun z hz => (OwnE.lt HO.out z hz).1
            have hp5 : Rdr w5 p (.slice A n c) (q3 : Int) en := (hg5.block p HP3.out.lt (fun e => by have := hge p e.symm; omega)).trans HP3.out
            have hc5 : Chg (fun z => z = p) w w5 := ((HC.out.trans HC2.out (fun _ h => .inl h)).trans HC3.out (fun _ h => .inl h)).grown hg5 (fun z hz => .inr (hge z hz))
            have hl5 : (acc ++ [t]).length = a + 1 := by rw [List.length_append, HAL.out]; rfl
            rw [hl5] at hown5
            rw [HAL.out]
            go_roundw
            case rel => exact ⟨a + 1, k, q3, acc ++ [t], A5, c5, rfl, by omega, hl5, hown5, hp5, hq3, hc5, HE2.out⟩
            case measure => simp [lenOf]; omega
    · by_cases h0 : a = 0
      · have he : textsR bs en 64 pos [] = .error 2 := by
          rw [HE.out]
          cases k <;> rw [textsR, if_neg hlt, if_pos (by rw [HAL.out]; exact h0)]
        have HEE := Lib.hid he
        clear he
        subst h0
        go_wp2
        go_quiet (fail)
        go_wp2
        refine ⟨rfl, ?_⟩
        rw [HEE.out]
        exact ⟨rfl, HC.out.drewN nq⟩
      · have he : textsR bs en 64 pos [] = .ok (acc, q) := by
          rw [HE.out]
          cases k <;> rw [textsR, if_neg hlt, if_neg (by rw [HAL.out]; exact h0)]
        have HEE := Lib.hid he
        clear he
        go_wp2
        go_quiet (fail)
        go_wp2
        go_ret
        rw [HEE.out]
        exact ⟨_, rfl, HO.out, HP.out.below (dN bl nq), HC.out.drewN nq⟩
end Go.Proofs.Ytbjaphldncagjaa
