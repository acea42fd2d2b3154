/- RdataSame: is data not too large? -/
import Derived.Test.YtjpkddmdhdmhgaaDa
namespace Go.Proofs.Ytjpkddmdhdmhgaa
open Go.RowKit
set_option maxRecDepth 100000

def LightD (x : Da) : Prop := (∀ l ∈ x.host, l.length ≤ 300) ∧ (∀ l ∈ x.mail, l.length ≤ 300) ∧ (∀ l ∈ x.texts, l.length ≤ 600) ∧ x.host.length ≤ 300 ∧ x.mail.length ≤ 300 ∧ x.texts.length ≤ 200 ∧ x.nums.length ≤ 200 ∧ x.bytes.length ≤ 70000
instance (x : Da) : Decidable (LightD x) := by unfold LightD; exact inferInstance
def lightD (x : Da) : Bool := decide (LightD x)
theorem all_snoc {P : List UInt8 → Prop} {ls : List (List UInt8)} {k : Nat} {l : List UInt8} (hx : ls[k]? = some l) (h : ∀ y ∈ ls.take k, P y) (hl : P l) : ∀ y ∈ ls.take (k + 1), P y := fun y hy => by
  rw [List.take_add_one, hx, Option.toList_some, List.mem_append, List.mem_singleton] at hy
  rcases hy with hy | rfl
  · exact h y hy
  · exact hl

set_option maxHeartbeats 2000000 in
theorem light04_any (s : DS) (x : Da) (w : World) (hx : DRd w s x) : Calls Try.prog 56 #[dsV s x] w (RetP (fun v _ => v = .bool (lightD x)) w) := by
  unfold dsV
  obtain ⟨w0, hw0⟩ : ∃ w0, w0 = w.alloc (.cells #[.slice s.A0 x.bytes.length s.c0, .slice s.A1 x.host.length s.c1, .slice s.A2 x.mail.length s.c2, .slice s.A3 x.nums.length s.c3, .slice s.A4 x.texts.length s.c4] 102) := ⟨_, rfl⟩
  have hb0 : Below w.heap.size w w0 := by rw [hw0]; exact bl.alloc (Nat.le_refl _) _
  have hbx : DBox w0 w.heap.size s x := by rw [hw0]; exact DBox.made w s x _
  have hh := hx.h.below hb0
  have hm := hx.m.below hb0
  have ht := hx.t.below hb0
  obtain ⟨a0, a1, a2, a3, a4⟩ := hbx
  have hch := hx.ch
  have hcm := hx.cm
  have hct := hx.ct
  have hcn := hx.cn
  have hcb := hx.cb
  unfold maxLen at hch hcm hct hcn hcb
  go_enter Try.func56, Try.ntmps56
  go_upto_region 1 with (fail)
  rw [← hw0]
  clear hw0 hx
  go_wp2
  go_loop [3] (fun iv => ∃ k : Nat, iv = .int .i64 k ∧ k ≤ x.host.length ∧ Hid (∀ l ∈ x.host.take k, l.length ≤ 300)) (fun iv => x.host.length - (intOf iv).toNat)
  case atStart => exact ⟨0, rfl, Nat.zero_le _, fun l hl => by simp at hl⟩
  case round =>
    obtain ⟨k, rfl, hk, HT3⟩ := hrel
    by_cases hlt : k < x.host.length
    · obtain ⟨l, hl⟩ : ∃ l, x.host[k]? = some l := ⟨_, List.getElem?_eq_getElem hlt⟩
      obtain ⟨b, off, eb, _, hc, hlm⟩ := strs_at hh hl
      rw [eb] at a1
      have hbs := bstr_size l
      have HL := Lib.hid hl
      clear hl
      unfold maxLen at hlm
      by_cases h3 : l.length ≤ 300
      · go_wp2
        go_round
        case rel => exact ⟨k + 1, by go_num, by omega, all_snoc HL.out HT3.out h3⟩
        case measure => simp [intOf]; omega
      · have HF : Hid (lightD x = false) := decide_eq_false fun h => h3 (h.1 l (List.mem_of_getElem? HL.out))
        go_wp2
        go_ret
        exact ⟨_, rfl, by rw [HF.out]; rfl, hb0⟩
    · have hke : k = x.host.length := by omega
      have HA3 : Hid (∀ l ∈ x.host, l.length ≤ 300) := by
        show ∀ l ∈ x.host, l.length ≤ 300
        have := HT3.out
        rw [hke, List.take_length] at this
        exact this
      clear hke HT3
      go_wp2
      go_loop [4] (fun iv => ∃ k : Nat, iv = .int .i64 k ∧ k ≤ x.mail.length ∧ Hid (∀ l ∈ x.mail.take k, l.length ≤ 300)) (fun iv => x.mail.length - (intOf iv).toNat)
      case atStart => exact ⟨0, rfl, Nat.zero_le _, fun l hl => by simp at hl⟩
      case round =>
        obtain ⟨k, rfl, hk, HT4⟩ := hrel
        by_cases hlt : k < x.mail.length
        · obtain ⟨l, hl⟩ : ∃ l, x.mail[k]? = some l := ⟨_, List.getElem?_eq_getElem hlt⟩
          obtain ⟨b, off, eb, _, hc, hlm⟩ := strs_at hm hl
          rw [eb] at a2
          have hbs := bstr_size l
          have HL := Lib.hid hl
          clear hl
          unfold maxLen at hlm
          by_cases h3 : l.length ≤ 300
          · go_wp2
            go_round
            case rel => exact ⟨k + 1, by go_num, by omega, all_snoc HL.out HT4.out h3⟩
            case measure => simp [intOf]; omega
          · have HF : Hid (lightD x = false) := decide_eq_false fun h => h3 (h.2.1 l (List.mem_of_getElem? HL.out))
            go_wp2
            go_ret
            exact ⟨_, rfl, by rw [HF.out]; rfl, hb0⟩
        · have hke : k = x.mail.length := by omega
          have HA4 : Hid (∀ l ∈ x.mail, l.length ≤ 300) := by
            show ∀ l ∈ x.mail, l.length ≤ 300
            have := HT4.out
            rw [hke, List.take_length] at this
            exact this
          clear hke HT4
          go_wp2
          go_loop [5] (fun iv => ∃ k : Nat, iv = .int .i64 k ∧ k ≤ x.texts.length ∧ Hid (∀ l ∈ x.texts.take k, l.length ≤ 600)) (fun iv => x.texts.length - (intOf iv).toNat)
          case atStart => exact ⟨0, rfl, Nat.zero_le _, fun l hl => by simp at hl⟩
          case round =>
            obtain ⟨k, rfl, hk, HT5⟩ := hrel
            by_cases hlt : k < x.texts.length
            · obtain ⟨l, hl⟩ : ∃ l, x.texts[k]? = some l := ⟨_, List.getElem?_eq_getElem hlt⟩
              obtain ⟨b, off, eb, _, hc, hlm⟩ := strs_at ht hl
              rw [eb] at a4
              have hbs := bstr_size l
              have HL := Lib.hid hl
              clear hl
              unfold maxLen at hlm
              by_cases h3 : l.length ≤ 600
              · go_wp2
                go_round
                case rel => exact ⟨k + 1, by go_num, by omega, all_snoc HL.out HT5.out h3⟩
                case measure => simp [intOf]; omega
              · have HF : Hid (lightD x = false) := decide_eq_false fun h => h3 (h.2.2.1 l (List.mem_of_getElem? HL.out))
                go_wp2
                go_ret
                exact ⟨_, rfl, by rw [HF.out]; rfl, hb0⟩
            · have hke : k = x.texts.length := by omega
              have HA5 : Hid (∀ l ∈ x.texts, l.length ≤ 600) := by
                show ∀ l ∈ x.texts, l.length ≤ 600
                have := HT5.out
                rw [hke, List.take_length] at this
                exact this
              clear hke HT5
              by_cases q0 : x.host.length ≤ 300
              · skip
                by_cases q1 : x.mail.length ≤ 300
                · skip
                  by_cases q2 : x.texts.length ≤ 200
                  · skip
                    by_cases q3 : x.nums.length ≤ 200
                    · skip
                      have HF : Hid (lightD x = decide ((x.bytes.length : Int) ≤ 70000)) := by
                        show _ = _
                        unfold lightD
                        rw [Bool.eq_iff_iff, decide_eq_true_iff, decide_eq_true_iff]
                        exact ⟨fun h => by have := h.2.2.2.2.2.2.2; omega, fun h => ⟨HA3.out, HA4.out, HA5.out, q0, q1, q2, q3, by omega⟩⟩
                      go_wp2
                      go_ret
                      exact ⟨_, rfl, by rw [HF.out]; rfl, hb0⟩
                    · have HF : Hid (lightD x = false) := decide_eq_false fun h => q3 h.2.2.2.2.2.2.1
                      go_wp2
                      go_ret
                      exact ⟨_, rfl, by rw [HF.out]; rfl, hb0⟩
                  · have HF : Hid (lightD x = false) := decide_eq_false fun h => q2 h.2.2.2.2.2.1
                    go_wp2
                    go_ret
                    exact ⟨_, rfl, by rw [HF.out]; rfl, hb0⟩
                · have HF : Hid (lightD x = false) := decide_eq_false fun h => q1 h.2.2.2.2.1
                  go_wp2
                  go_ret
                  exact ⟨_, rfl, by rw [HF.out]; rfl, hb0⟩
              · have HF : Hid (lightD x = false) := decide_eq_false fun h => q0 h.2.2.2.1
                go_wp2
                go_ret
                exact ⟨_, rfl, by rw [HF.out]; rfl, hb0⟩
end Go.Proofs.Ytjpkddmdhdmhgaa
