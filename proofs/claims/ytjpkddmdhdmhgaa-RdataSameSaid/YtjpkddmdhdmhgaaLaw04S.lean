/- RdataSame: the law's walk. -/
import Derived.Test.YtjpkddmdhdmhgaaUpper
import Derived.Test.YtjpkddmdhdmhgaaRd2
import Derived.Deep.RegionHeld3
namespace Go.Proofs.Ytjpkddmdhdmhgaa
open Go.RowKit
set_option maxRecDepth 100000

theorem boxes3 {w : World} {q0 q1 q5 : Nat} {s r sc : DS} {x y : Da} (h0 : DBox w q0 s x) (h1 : DBox w q1 r y) (h5 : DBox w q5 sc x.up) : w.cell? ⟨q0, 0, none⟩ = some (.slice s.A0 x.bytes.length s.c0) ∧ w.cell? ⟨q0, 1, none⟩ = some (.slice s.A1 x.host.length s.c1) ∧ w.cell? ⟨q0, 2, none⟩ = some (.slice s.A2 x.mail.length s.c2) ∧ w.cell? ⟨q0, 3, none⟩ = some (.slice s.A3 x.nums.length s.c3) ∧ w.cell? ⟨q0, 4, none⟩ = some (.slice s.A4 x.texts.length s.c4) ∧ w.cell? ⟨q1, 0, none⟩ = some (.slice r.A0 y.bytes.length r.c0) ∧ w.cell? ⟨q1, 1, none⟩ = some (.slice r.A1 y.host.length r.c1) ∧ w.cell? ⟨q1, 2, none⟩ = some (.slice r.A2 y.mail.length r.c2) ∧ w.cell? ⟨q1, 3, none⟩ = some (.slice r.A3 y.nums.length r.c3) ∧ w.cell? ⟨q1, 4, none⟩ = some (.slice r.A4 y.texts.length r.c4) ∧ w.cell? ⟨q5, 0, none⟩ = some (.slice sc.A0 x.up.bytes.length sc.c0) ∧ w.cell? ⟨q5, 1, none⟩ = some (.slice sc.A1 x.up.host.length sc.c1) ∧ w.cell? ⟨q5, 2, none⟩ = some (.slice sc.A2 x.up.mail.length sc.c2) ∧ w.cell? ⟨q5, 3, none⟩ = some (.slice sc.A3 x.up.nums.length sc.c3) ∧ w.cell? ⟨q5, 4, none⟩ = some (.slice sc.A4 x.up.texts.length sc.c4) :=
  ⟨h0.1, h0.2.1, h0.2.2.1, h0.2.2.2.1, h0.2.2.2.2, h1.1, h1.2.1, h1.2.2.1, h1.2.2.2.1, h1.2.2.2.2, h5.1, h5.2.1, h5.2.2.1, h5.2.2.2.1, h5.2.2.2.2⟩
theorem DOwn.rd {w : World} {B : Nat} {s : DS} {x : Da} (h : DOwn w B s x) : DRd w s x := by
  obtain ⟨_, _, e, _, hb1, hb2⟩ := h.b.form
  injection e with _ _ e
  subst e
  have h1 := own_form3 h.h
  have h2 := own_form3 h.m
  have h3 := own_form3 h.n
  have h4 := own_form3 h.t
  exact ⟨h.b.rd.1, h1.1.mono (fun z hz => (OwnE.lt h.h z hz).2) (fun _ hz => hz.elim), h2.1.mono (fun z hz => (OwnE.lt h.m z hz).2) (fun _ hz => hz.elim), h3.1.mono (fun z hz => (OwnE.lt h.n z hz).2) (fun _ hz => hz.elim), h4.1.mono (fun z hz => (OwnE.lt h.t z hz).2) (fun _ hz => hz.elim), ⟨hb1, hb2⟩, h1.2.2, h2.2.2, h3.2.2, h4.2.2⟩
theorem light_bd {x : Da} (h : lightD x = true) : x.bytes.length ≤ 8796093022208 ∧ x.host.length ≤ 8796093022208 ∧ x.mail.length ≤ 8796093022208 ∧ x.nums.length ≤ 8796093022208 ∧ x.texts.length ≤ 8796093022208 := by
  have h' : LightD x := of_decide_eq_true h
  obtain ⟨_, _, _, h1, h2, h3, h4, h5⟩ := h'
  omega
theorem light_host {x : Da} (h : lightD x = true) : ∀ l ∈ x.host, l.length ≤ 300 := (of_decide_eq_true h : LightD x).1
theorem light_hostn {x : Da} (h : lightD x = true) : x.host.length ≤ 300 := (of_decide_eq_true h : LightD x).2.2.2.1

set_option maxHeartbeats 4000000 in
theorem rdataSame_walk (s r : DS) (x y : Da) (w : World) (hx : DRd w s x) (hy : DRd w r y) : Calls Try.prog 13 #[dsV s x, dsV r y] w (LawT w) := by
  unfold dsV
  obtain ⟨w1, hw1⟩ : ∃ w1, w1 = (w.alloc (.cells #[.slice s.A0 x.bytes.length s.c0, .slice s.A1 x.host.length s.c1, .slice s.A2 x.mail.length s.c2, .slice s.A3 x.nums.length s.c3, .slice s.A4 x.texts.length s.c4] 102)).alloc (.cells #[.slice r.A0 y.bytes.length r.c0, .slice r.A1 y.host.length r.c1, .slice r.A2 y.mail.length r.c2, .slice r.A3 y.nums.length r.c3, .slice r.A4 y.texts.length r.c4] 102) := ⟨_, rfl⟩
  have hb1 : Below w.heap.size w w1 := by rw [hw1]; exact nx (bl.alloc (Nat.le_refl _) _) (bl.alloc (Nat.le_refl _) _)
  have HX1 := Lib.hid (hx.below hb1)
  have HY1 := Lib.hid (hy.below hb1)
  have BX1 : Hid (DBox w1 w.heap.size s x) := by show DBox _ _ _ _; rw [hw1]; exact (DBox.made w s x _).below (bl.alloc (Nat.le_refl _) _)
  have BY1 : Hid (DBox w1 (w.heap.size + 1) r y) := by
    show DBox _ _ _ _
    rw [hw1]
    have := DBox.made (w.alloc (.cells #[.slice s.A0 x.bytes.length s.c0, .slice s.A1 x.host.length s.c1, .slice s.A2 x.mail.length s.c2, .slice s.A3 x.nums.length s.c3, .slice s.A4 x.texts.length s.c4] 102)) r y 102
    rw [show (w.alloc (.cells #[.slice s.A0 x.bytes.length s.c0, .slice s.A1 x.host.length s.c1, .slice s.A2 x.mail.length s.c2, .slice s.A3 x.nums.length s.c3, .slice s.A4 x.texts.length s.c4] 102)).heap.size = w.heap.size + 1 by simp] at this
    exact this
  clear hx hy
  have hlight : ∀ (u : DS) (z : Da) (wu : World), DRd wu u z → Calls Try.prog 56 #[.agg #[.slice u.A0 z.bytes.length u.c0, .slice u.A1 z.host.length u.c1, .slice u.A2 z.mail.length u.c2, .slice u.A3 z.nums.length u.c3, .slice u.A4 z.texts.length u.c4]] wu (RetP (fun v _ => v = .bool (lightD z)) wu) := fun u z wu h => light04_any u z wu h
  have hown : ∀ (u : DS) (z : Da) (wu : World), DRd wu u z → lightD z = true → Calls Try.prog 57 #[.agg #[.slice u.A0 z.bytes.length u.c0, .slice u.A1 z.host.length u.c1, .slice u.A2 z.mail.length u.c2, .slice u.A3 z.nums.length u.c3, .slice u.A4 z.texts.length u.c4]] wu (RetP (fun v w' => ∃ s', v = .agg #[.slice s'.A0 z.bytes.length s'.c0, .slice s'.A1 z.host.length s'.c1, .slice s'.A2 z.mail.length s'.c2, .slice s'.A3 z.nums.length s'.c3, .slice s'.A4 z.texts.length s'.c4] ∧ DOwn w' wu.heap.size s' z) wu) := fun u z wu h hl => ownData_any u z wu h (light_bd hl)
  have hps : ∀ (u v : DS) (z t : Da) (wu : World), DRd wu u z → DRd wu v t → Calls Try.prog 58 #[.agg #[.slice u.A0 z.bytes.length u.c0, .slice u.A1 z.host.length u.c1, .slice u.A2 z.mail.length u.c2, .slice u.A3 z.nums.length u.c3, .slice u.A4 z.texts.length u.c4], .agg #[.slice v.A0 t.bytes.length v.c0, .slice v.A1 t.host.length v.c1, .slice v.A2 t.mail.length v.c2, .slice v.A3 t.nums.length v.c3, .slice v.A4 t.texts.length v.c4]] wu (RetP (fun a _ => a = .bool (sameD z t)) wu) := fun u v z t wu h1 h2 => psame_any u v z t wu h1 h2
  have hrs : ∀ (u v : DS) (z t : Da) (wu : World), DRd wu u z → DRd wu v t → Calls Try.prog 59 #[.agg #[.slice u.A0 z.bytes.length u.c0, .slice u.A1 z.host.length u.c1, .slice u.A2 z.mail.length u.c2, .slice u.A3 z.nums.length u.c3, .slice u.A4 z.texts.length u.c4], .agg #[.slice v.A0 t.bytes.length v.c0, .slice v.A1 t.host.length v.c1, .slice v.A2 t.mail.length v.c2, .slice v.A3 t.nums.length v.c3, .slice v.A4 t.texts.length v.c4]] wu (RetP (fun a _ => a = .bool (sameD z t)) wu) := fun u v z t wu h1 h2 => rsame_any u v z t wu h1 h2
  have HL := Lib.hid hlight
  have HO := Lib.hid hown
  have HPS := Lib.hid hps
  have HRS := Lib.hid hrs
  clear hlight hown hps hrs
  obtain ⟨a10, a11, a12, a13, a14⟩ := BX1.out
  obtain ⟨b10, b11, b12, b13, b14⟩ := BY1.out
  have ha2 := Lib.hid (answers04_any w1)
  go_enter Try.func13, Try.ntmps13
  go_upto_region 1 with (fail)
  rw [← hw1]
  clear hw1
  cases e0 : lightD x with
  | false =>
    have E0 := Lib.hid e0
    clear e0
    go_wp2_with (first
      | (go_at_call 55; refine (answers04_any w3).mono ?_; rintro e w5 ⟨rfl, hb5⟩)
      | (go_at_call 56; refine (HL.out s x w2 HX2.out).mono ?_; rw [E0.out]; rintro e w3 ⟨v3, rfl, rfl, hb3⟩; have HX3 := Lib.hid (HX2.out.below hb3); have HY3 := Lib.hid (HY2.out.below hb3); have BX3 := Lib.hid (BX2.out.below hb3); have BY3 := Lib.hid (BY2.out.below hb3); obtain ⟨a30, a31, a32, a33, a34⟩ := BX3.out; obtain ⟨b30, b31, b32, b33, b34⟩ := BY3.out)
      | (go_at_call 55; refine (answers04_any w1).mono ?_; rintro e w2 ⟨rfl, hb2⟩; have HX2 := Lib.hid (HX1.out.below hb2); have HY2 := Lib.hid (HY1.out.below hb2); have BX2 := Lib.hid (BX1.out.below hb2); have BY2 := Lib.hid (BY1.out.below hb2); obtain ⟨a20, a21, a22, a23, a24⟩ := BX2.out; obtain ⟨b20, b21, b22, b23, b24⟩ := BY2.out)
      | fail)
    go_ret
    exact ⟨rfl, nx (nx (nx hb1 hb2) hb3) hb5⟩
  | true =>
    have E0 := Lib.hid e0
    clear e0
    cases e1 : lightD y with
    | false =>
      have E1 := Lib.hid e1
      clear e1
      go_wp2_with (first
        | (go_at_call 55; refine (answers04_any w4).mono ?_; rintro e w5 ⟨rfl, hb5⟩)
        | (go_at_call 56; refine (HL.out r y w3 HY3.out).mono ?_; rw [E1.out]; rintro e w4 ⟨v4, rfl, rfl, hb4⟩; have HX4 := Lib.hid (HX3.out.below hb4); have HY4 := Lib.hid (HY3.out.below hb4); have BX4 := Lib.hid (BX3.out.below hb4); have BY4 := Lib.hid (BY3.out.below hb4); obtain ⟨a40, a41, a42, a43, a44⟩ := BX4.out; obtain ⟨b40, b41, b42, b43, b44⟩ := BY4.out)
        | (go_at_call 56; refine (HL.out s x w2 HX2.out).mono ?_; rw [E0.out]; rintro e w3 ⟨v3, rfl, rfl, hb3⟩; have HX3 := Lib.hid (HX2.out.below hb3); have HY3 := Lib.hid (HY2.out.below hb3); have BX3 := Lib.hid (BX2.out.below hb3); have BY3 := Lib.hid (BY2.out.below hb3); obtain ⟨a30, a31, a32, a33, a34⟩ := BX3.out; obtain ⟨b30, b31, b32, b33, b34⟩ := BY3.out)
        | (go_at_call 55; refine (answers04_any w1).mono ?_; rintro e w2 ⟨rfl, hb2⟩; have HX2 := Lib.hid (HX1.out.below hb2); have HY2 := Lib.hid (HY1.out.below hb2); have BX2 := Lib.hid (BX1.out.below hb2); have BY2 := Lib.hid (BY1.out.below hb2); obtain ⟨a20, a21, a22, a23, a24⟩ := BX2.out; obtain ⟨b20, b21, b22, b23, b24⟩ := BY2.out)
        | fail)
      go_ret
      exact ⟨rfl, nx (nx (nx (nx hb1 hb2) hb3) hb4) hb5⟩
    | true =>
      have E1 := Lib.hid e1
      clear e1
      go_upto_region 4 with (first
        | (go_at_call 57; refine (HO.out s x w4 HX4.out E0.out).mono ?_; rintro e w5 ⟨v5, rfl, ⟨sc, rfl, hc5⟩, hb5⟩; have HC5 := Lib.hid hc5; clear hc5)
        | (go_at_call 56; refine (HL.out r y w3 HY3.out).mono ?_; rw [E1.out]; rintro e w4 ⟨v4, rfl, rfl, hb4⟩; have HX4 := Lib.hid (HX3.out.below hb4); have HY4 := Lib.hid (HY3.out.below hb4); have BX4 := Lib.hid (BX3.out.below hb4); have BY4 := Lib.hid (BY3.out.below hb4); obtain ⟨a40, a41, a42, a43, a44⟩ := BX4.out; obtain ⟨b40, b41, b42, b43, b44⟩ := BY4.out)
        | (go_at_call 56; refine (HL.out s x w2 HX2.out).mono ?_; rw [E0.out]; rintro e w3 ⟨v3, rfl, rfl, hb3⟩; have HX3 := Lib.hid (HX2.out.below hb3); have HY3 := Lib.hid (HY2.out.below hb3); have BX3 := Lib.hid (BX2.out.below hb3); have BY3 := Lib.hid (BY2.out.below hb3); obtain ⟨a30, a31, a32, a33, a34⟩ := BX3.out; obtain ⟨b30, b31, b32, b33, b34⟩ := BY3.out)
        | (go_at_call 55; refine (answers04_any w1).mono ?_; rintro e w2 ⟨rfl, hb2⟩; have HX2 := Lib.hid (HX1.out.below hb2); have HY2 := Lib.hid (HY1.out.below hb2); have BX2 := Lib.hid (BX1.out.below hb2); have BY2 := Lib.hid (BY1.out.below hb2); obtain ⟨a20, a21, a22, a23, a24⟩ := BX2.out; obtain ⟨b20, b21, b22, b23, b24⟩ := BY2.out)
        | fail)
      have hbA := nx (nx (nx (nx hb1 hb2) hb3) hb4) hb5
      obtain ⟨w6, hw6⟩ : ∃ w6, w6 = w5.alloc (.cells #[.slice sc.A0 x.bytes.length sc.c0, .slice sc.A1 x.host.length sc.c1, .slice sc.A2 x.mail.length sc.c2, .slice sc.A3 x.nums.length sc.c3, .slice sc.A4 x.texts.length sc.c4] 102) := ⟨_, rfl⟩
      have hb6 : Below w5.heap.size w5 w6 := by rw [hw6]; exact bl.alloc (Nat.le_refl _) _
      have hw14 : w1.heap.size ≤ w4.heap.size := by have := hb2.size; have := hb3.size; have := hb4.size; omega
      have HC6 : Hid (CSt w1 w6 w4.heap.size w5.heap.size sc x 0) := by
        show CSt _ _ _ _ _ _ _
        rw [hw6]
        exact CSt.made HC5.out (nx (nx (nx hb2 hb3) hb4) hb5) hw14
      rw [← hw6]
      clear hw6 a10 a11 a12 a13 a14 b10 b11 b12 b13 b14 a20 a21 a22 a23 a24 b20 b21 b22 b23 b24 a30 a31 a32 a33 a34 b30 b31 b32 b33 b34 a40 a41 a42 a43 a44 b40 b41 b42 b43 b44 HX2 HX3 HX4 HY2 HY3 HY4 BX2 BX3 BX4 BY2 BY3 BY4 HC5
      have hq6 : w5.heap.size < w6.heap.size := (Array.getElem?_eq_some_iff.1 HC6.out.row).1
      generalize w5.heap.size = q5 at HC6 hq6 ⊢
      generalize w4.heap.size = B4 at HC6 hw14 ⊢
      go_wp2_with fail
      go_loopw [6] (fun iv wr => ∃ k : Nat, iv = .int .i64 k ∧ k ≤ x.host.length ∧ Hid (CSt w1 wr B4 q5 sc x k)) (fun iv _ => x.host.length - (intOf iv).toNat)
      case atStart => exact ⟨0, rfl, Nat.zero_le _, HC6⟩
      case round =>
        clear HC6
        obtain ⟨k, rfl, hk, HC⟩ := hrel
        rename World => wk
        have c1 : wk.cell? ⟨q5, 1, none⟩ = some (.slice sc.A1 x.host.length sc.c1) := (cell_of_row _ _ _ _ _ _ HC.out.row).trans rfl
        have hcap := HC.out.caps.2.1
        have hhn := light_hostn E0.out
        by_cases hlt : k < x.host.length
        · obtain ⟨l, hl⟩ : ∃ l, x.host[k]? = some l := ⟨_, List.getElem?_eq_getElem hlt⟩
          have hl3 := light_host E0.out l (List.mem_of_getElem? hl)
          obtain ⟨g, cc, ev, hg1, hg2, _, _, _, hat⟩ := OwnE.flat HC.out.host (by rw [hostK_length _ _ hk]; omega)
          injection ev with ev1 ev2 ev3
          obtain ⟨rr, ⟨rfl, _⟩, hcl⟩ := hat k l (hostK_at hl)
          have cl : wk.cell? ⟨g, k, none⟩ = some (.string (bstr l)) := by
            have := hcl 0 _ rfl
            rwa [show k * encS.size + 0 = k by show k * 1 + 0 = k; omega] at this
          rw [ev1] at c1
          have EV := Lib.hid ev1
          have HLl := Lib.hid hl
          have hrow := HC.out.host
          rw [ev1] at hrow
          have fg : ∀ j, wk.frozen? ⟨g, j, none⟩ = false := fun j => by
            obtain ⟨cells, hw, _⟩ := hrow
            rw [hostK_length _ _ hk] at hw
            exact World.ownsRow.frozenAt hw j
          have hbs := bstr_size l
          have hcb := fun W : World => Lib.run_convert_string_bytes (P := Try.prog) W 9 22 5 (bstr l) Try.underlying9 Try.underlying22 Try.underlying5
          obtain ⟨wb, hwb⟩ : ∃ wb, wb = Lib.bytesWorld wk 5 (bstr l) := ⟨_, rfl⟩
          have HB1 : Hid (BRow wb wk.heap.size l) := by show BRow _ _ _; rw [hwb]; exact BRow.made wk l
          have hbb : Below wk.heap.size wk wb := by rw [hwb]; exact (conv_rd wk l).2
          clear hl hcl hat hrow ev1 ev2 ev3
          go_upto_region 8 with (fail)
          rw [← hwb]
          clear hwb hcb
          go_wp2_with fail
          go_loopw [8] (fun iv wy => ∃ j : Nat, iv = .int .i64 j ∧ j ≤ l.length ∧ Hid (BRow wy wk.heap.size (someU l j)) ∧ Below wk.heap.size wk wy) (fun iv _ => l.length - (intOf iv).toNat)
          case atStart => exact ⟨0, rfl, Nat.zero_le _, HB1, hbb⟩
          case round =>
            clear HB1 hbb
            obtain ⟨j, rfl, hj, HB, hby⟩ := hrel
            have hsl := Lib.hid (someU_length l j hj)
            by_cases hjl : j < l.length
            · obtain ⟨z, hz⟩ : ∃ z, l[j]? = some z := ⟨_, List.getElem?_eq_getElem hjl⟩
              have hcx := HB.out.cell (someU_at hz)
              have hfx := HB.out.free (j := j) (by rw [hsl.out]; exact hjl)
              have HZ := Lib.hid hz
              have hz8 := z.toNat_lt
              clear hz
              by_cases h1 : 97 ≤ z.toNat ∧ z.toNat ≤ 122
              · obtain ⟨h1, h2⟩ := h1
                have HE := Lib.hid (upC_hi h1 h2)
                have hset := HB.out.set j (upC z)
                rw [HE.out, someU_succ HZ.out] at hset
                have HS := Lib.hid hset
                clear hset
                go_wp2
                go_roundw
                case rel => exact ⟨j + 1, by go_num, by omega, HS.out, hby.setCell (Nat.le_refl _) _⟩
                case measure => simp [intOf]; omega
              · have HS := Lib.hid (someU_same HZ.out (upC_lo h1))
                by_cases h2 : z.toNat < 97
                · clear h1
                  go_wp2
                  go_roundw
                  case rel => exact ⟨j + 1, by go_num, by omega, by rw [HS.out]; exact HB, hby⟩
                  case measure => simp [intOf]; omega
                · have h3 : 122 < z.toNat := by omega
                  clear h1
                  go_wp2
                  go_roundw
                  case rel => exact ⟨j + 1, by go_num, by omega, by rw [HS.out]; exact HB, hby⟩
                  case measure => simp [intOf]; omega
            · have hje : j = l.length := by omega
              have hrd := HB.out.rd
              rw [hsl.out, hje, someU_all] at hrd
              have hcv := fun (c : Nat) => conv_str (P := Try.prog) _ _ _ Try.underlying22 Try.underlying5 Try.underlying9 wr (some ⟨wk.heap.size, 0, none⟩) l.length c (upL l) hrd
              have hcs := HC.out.below hby
              have d1 := below_cell hby c1
              have dl := below_cell hby cl
              have fg' : ∀ j, wr.frozen? ⟨g, j, none⟩ = false := fun j => by
                have hrow := hcs.host
                rw [EV.out] at hrow
                obtain ⟨cells, hw, _⟩ := hrow
                rw [hostK_length _ _ hk] at hw
                exact World.ownsRow.frozenAt hw j
              have HN := Lib.hid (hcs.step EV.out HLl.out (by unfold upL; rw [List.length_map]; unfold maxLen; omega))
              clear hcs hrd
              go_wp2
              go_roundw
              case rel => exact ⟨k + 1, by go_num, by omega, HN⟩
              case measure => simp [intOf]; omega
        · obtain rfl : k = x.host.length := by omega
          have hdone := HC.out.done
          have HXC := Lib.hid hdone.1
          have HBC := Lib.hid hdone.2
          have hbk := HC.out.bw
          have HXk := Lib.hid (HX1.out.below hbk)
          have HYk := Lib.hid (HY1.out.below hbk)
          have BXk := Lib.hid (BX1.out.below hbk)
          have BYk := Lib.hid (BY1.out.below hbk)
          clear hdone
          cases hsv : sameD x y with
          | true =>
            have HSV := Lib.hid hsv
            clear hsv
            go_upto_region 14 with (fail)
            clear c1
            generalize w.heap.size = q0 at BXk BYk ⊢
            have p0 := boxes3 BXk.out BYk.out HBC.out
            have p0' := boxes3 (BXk.out.below bl.drew) (BYk.out.below bl.drew) (HBC.out.below bl.drew)
            go_region_held3 (fun w' => w'.cell? ⟨q0, 0, none⟩ = some (.slice s.A0 x.bytes.length s.c0) ∧ w'.cell? ⟨q0, 1, none⟩ = some (.slice s.A1 x.host.length s.c1) ∧ w'.cell? ⟨q0, 2, none⟩ = some (.slice s.A2 x.mail.length s.c2) ∧ w'.cell? ⟨q0, 3, none⟩ = some (.slice s.A3 x.nums.length s.c3) ∧ w'.cell? ⟨q0, 4, none⟩ = some (.slice s.A4 x.texts.length s.c4) ∧ w'.cell? ⟨q0 + 1, 0, none⟩ = some (.slice r.A0 y.bytes.length r.c0) ∧ w'.cell? ⟨q0 + 1, 1, none⟩ = some (.slice r.A1 y.host.length r.c1) ∧ w'.cell? ⟨q0 + 1, 2, none⟩ = some (.slice r.A2 y.mail.length r.c2) ∧ w'.cell? ⟨q0 + 1, 3, none⟩ = some (.slice r.A3 y.nums.length r.c3) ∧ w'.cell? ⟨q0 + 1, 4, none⟩ = some (.slice r.A4 y.texts.length r.c4) ∧ w'.cell? ⟨q5, 0, none⟩ = some (.slice sc.A0 x.up.bytes.length sc.c0) ∧ w'.cell? ⟨q5, 1, none⟩ = some (.slice sc.A1 x.up.host.length sc.c1) ∧ w'.cell? ⟨q5, 2, none⟩ = some (.slice sc.A2 x.up.mail.length sc.c2) ∧ w'.cell? ⟨q5, 3, none⟩ = some (.slice sc.A3 x.up.nums.length sc.c3) ∧ w'.cell? ⟨q5, 4, none⟩ = some (.slice sc.A4 x.up.texts.length sc.c4))
              (first
                | with_reducible exact p0
                | with_reducible exact p0'
                | with_reducible exact p1
                | with_reducible exact p2
                | with_reducible exact p3
                | with_reducible exact p4
                | with_reducible exact p5
                | with_reducible exact p6
                | with_reducible exact p7
                | fail)
              (first
                | (go_at_call 58; refine (HPS.out s r x (y) v6 hx6 hy6).mono ?_; rw [HSV.out]; rintro e v7 ⟨_, rfl, rfl, hv7⟩; have hx7 := hx6.below hv7; have hy7 := hy6.below hv7; have hc7 := hc6.below hv7; have bx7 := bx6.below hv7; have by7 := by6.below hv7; have bc7 := bc6.below hv7; have p7 := boxes3 bx7 by7 bc7)
                | (go_at_call 58; refine (HPS.out r s y (x) v5 hy5 hx5).mono ?_; rw [sameD_comm y x, HSV.out]; rintro e v6 ⟨_, rfl, rfl, hv6⟩; have hx6 := hx5.below hv6; have hy6 := hy5.below hv6; have hc6 := hc5.below hv6; have bx6 := bx5.below hv6; have by6 := by5.below hv6; have bc6 := bc5.below hv6; have p6 := boxes3 bx6 by6 bc6)
                | (go_at_call 58; refine (HPS.out s sc x (x.up) v4 hx4 hc4).mono ?_; rw [same_up x]; rintro e v5 ⟨_, rfl, rfl, hv5⟩; have hx5 := hx4.below hv5; have hy5 := hy4.below hv5; have hc5 := hc4.below hv5; have bx5 := bx4.below hv5; have by5 := by4.below hv5; have bc5 := bc4.below hv5; have p5 := boxes3 bx5 by5 bc5)
                | (go_at_call 59; refine (HRS.out s r x y v3 hx3 hy3).mono ?_; rw [HSV.out]; rintro e v4 ⟨_, rfl, rfl, hv4⟩; have hx4 := hx3.below hv4; have hy4 := hy3.below hv4; have hc4 := hc3.below hv4; have bx4 := bx3.below hv4; have by4 := by3.below hv4; have bc4 := bc3.below hv4; have p4 := boxes3 bx4 by4 bc4)
                | (go_at_call 58; refine (HPS.out sa sb x (y) v2 hoa hob).mono ?_; rw [HSV.out]; rintro e v3 ⟨_, rfl, rfl, hv3⟩; have hx3 := hx2.below hv3; have hy3 := hy2.below hv3; have hc3 := hc2.below hv3; have bx3 := bx2.below hv3; have by3 := by2.below hv3; have bc3 := bc2.below hv3; have p3 := boxes3 bx3 by3 bc3)
                | (go_at_call 57; refine (HO.out r y v1 hy1 E1.out).mono ?_; rintro e v2 ⟨_, rfl, ⟨sb, rfl, hob'⟩, hv2⟩; have hoa := hoa'.rd.below hv2; have hob := hob'.rd; have hx2 := hx1.below hv2; have hy2 := hy1.below hv2; have hc2 := hc1.below hv2; have bx2 := bx1.below hv2; have by2 := by1.below hv2; have bc2 := bc1.below hv2; have p2 := boxes3 bx2 by2 bc2)
                | (go_at_call 57; refine (HO.out s x wk.drew (HXk.out.below bl.drew) E0.out).mono ?_; rintro e v1 ⟨_, rfl, ⟨sa, rfl, hoa'⟩, hv1'⟩; have hv1 : Below wk.heap.size wk v1 := bl.drew.trans hv1'; have hx1 := HXk.out.below hv1; have hy1 := HYk.out.below hv1; have hc1 := HXC.out.below hv1; have bx1 := BXk.out.below hv1; have by1 := BYk.out.below hv1; have bc1 := HBC.out.below hv1; have p1 := boxes3 bx1 by1 bc1)
                | fail)
            go_wp2
            go_ret
            exact ⟨rfl, hb1.trans ((nx (nx (nx (nx (nx (nx (nx hbk hv1) hv2) hv3) hv4) hv5) hv6) hv7).mono hb1.size)⟩
          | false =>
            have HSV := Lib.hid hsv
            clear hsv
            go_upto_region 14 with (fail)
            clear c1
            generalize w.heap.size = q0 at BXk BYk ⊢
            have p0 := boxes3 BXk.out BYk.out HBC.out
            have p0' := boxes3 (BXk.out.below bl.drew) (BYk.out.below bl.drew) (HBC.out.below bl.drew)
            go_region_held3 (fun w' => w'.cell? ⟨q0, 0, none⟩ = some (.slice s.A0 x.bytes.length s.c0) ∧ w'.cell? ⟨q0, 1, none⟩ = some (.slice s.A1 x.host.length s.c1) ∧ w'.cell? ⟨q0, 2, none⟩ = some (.slice s.A2 x.mail.length s.c2) ∧ w'.cell? ⟨q0, 3, none⟩ = some (.slice s.A3 x.nums.length s.c3) ∧ w'.cell? ⟨q0, 4, none⟩ = some (.slice s.A4 x.texts.length s.c4) ∧ w'.cell? ⟨q0 + 1, 0, none⟩ = some (.slice r.A0 y.bytes.length r.c0) ∧ w'.cell? ⟨q0 + 1, 1, none⟩ = some (.slice r.A1 y.host.length r.c1) ∧ w'.cell? ⟨q0 + 1, 2, none⟩ = some (.slice r.A2 y.mail.length r.c2) ∧ w'.cell? ⟨q0 + 1, 3, none⟩ = some (.slice r.A3 y.nums.length r.c3) ∧ w'.cell? ⟨q0 + 1, 4, none⟩ = some (.slice r.A4 y.texts.length r.c4) ∧ w'.cell? ⟨q5, 0, none⟩ = some (.slice sc.A0 x.up.bytes.length sc.c0) ∧ w'.cell? ⟨q5, 1, none⟩ = some (.slice sc.A1 x.up.host.length sc.c1) ∧ w'.cell? ⟨q5, 2, none⟩ = some (.slice sc.A2 x.up.mail.length sc.c2) ∧ w'.cell? ⟨q5, 3, none⟩ = some (.slice sc.A3 x.up.nums.length sc.c3) ∧ w'.cell? ⟨q5, 4, none⟩ = some (.slice sc.A4 x.up.texts.length sc.c4))
              (first
                | with_reducible exact p0
                | with_reducible exact p0'
                | with_reducible exact p1
                | with_reducible exact p2
                | with_reducible exact p3
                | with_reducible exact p4
                | with_reducible exact p5
                | with_reducible exact p6
                | with_reducible exact p7
                | fail)
              (first
                | (go_at_call 58; refine (HPS.out s r x (y) v6 hx6 hy6).mono ?_; rw [HSV.out]; rintro e v7 ⟨_, rfl, rfl, hv7⟩; have hx7 := hx6.below hv7; have hy7 := hy6.below hv7; have hc7 := hc6.below hv7; have bx7 := bx6.below hv7; have by7 := by6.below hv7; have bc7 := bc6.below hv7; have p7 := boxes3 bx7 by7 bc7)
                | (go_at_call 58; refine (HPS.out r s y (x) v5 hy5 hx5).mono ?_; rw [sameD_comm y x, HSV.out]; rintro e v6 ⟨_, rfl, rfl, hv6⟩; have hx6 := hx5.below hv6; have hy6 := hy5.below hv6; have hc6 := hc5.below hv6; have bx6 := bx5.below hv6; have by6 := by5.below hv6; have bc6 := bc5.below hv6; have p6 := boxes3 bx6 by6 bc6)
                | (go_at_call 58; refine (HPS.out s sc x (x.up) v4 hx4 hc4).mono ?_; rw [same_up x]; rintro e v5 ⟨_, rfl, rfl, hv5⟩; have hx5 := hx4.below hv5; have hy5 := hy4.below hv5; have hc5 := hc4.below hv5; have bx5 := bx4.below hv5; have by5 := by4.below hv5; have bc5 := bc4.below hv5; have p5 := boxes3 bx5 by5 bc5)
                | (go_at_call 59; refine (HRS.out s r x y v3 hx3 hy3).mono ?_; rw [HSV.out]; rintro e v4 ⟨_, rfl, rfl, hv4⟩; have hx4 := hx3.below hv4; have hy4 := hy3.below hv4; have hc4 := hc3.below hv4; have bx4 := bx3.below hv4; have by4 := by3.below hv4; have bc4 := bc3.below hv4; have p4 := boxes3 bx4 by4 bc4)
                | (go_at_call 58; refine (HPS.out sa sb x (y) v2 hoa hob).mono ?_; rw [HSV.out]; rintro e v3 ⟨_, rfl, rfl, hv3⟩; have hx3 := hx2.below hv3; have hy3 := hy2.below hv3; have hc3 := hc2.below hv3; have bx3 := bx2.below hv3; have by3 := by2.below hv3; have bc3 := bc2.below hv3; have p3 := boxes3 bx3 by3 bc3)
                | (go_at_call 57; refine (HO.out r y v1 hy1 E1.out).mono ?_; rintro e v2 ⟨_, rfl, ⟨sb, rfl, hob'⟩, hv2⟩; have hoa := hoa'.rd.below hv2; have hob := hob'.rd; have hx2 := hx1.below hv2; have hy2 := hy1.below hv2; have hc2 := hc1.below hv2; have bx2 := bx1.below hv2; have by2 := by1.below hv2; have bc2 := bc1.below hv2; have p2 := boxes3 bx2 by2 bc2)
                | (go_at_call 57; refine (HO.out s x wk.drew (HXk.out.below bl.drew) E0.out).mono ?_; rintro e v1 ⟨_, rfl, ⟨sa, rfl, hoa'⟩, hv1'⟩; have hv1 : Below wk.heap.size wk v1 := bl.drew.trans hv1'; have hx1 := HXk.out.below hv1; have hy1 := HYk.out.below hv1; have hc1 := HXC.out.below hv1; have bx1 := BXk.out.below hv1; have by1 := BYk.out.below hv1; have bc1 := HBC.out.below hv1; have p1 := boxes3 bx1 by1 bc1)
                | fail)
            go_wp2
            go_ret
            exact ⟨rfl, hb1.trans ((nx (nx (nx (nx (nx (nx (nx hbk hv1) hv2) hv3) hv4) hv5) hv6) hv7).mono hb1.size)⟩
end Go.Proofs.Ytjpkddmdhdmhgaa
