/- RdataSame: capital letters in a copy's host. -/
import Derived.Test.YtjpkddmdhdmhgaaOwnD
import Derived.Test.YtjpkddmdhdmhgaaFoot
import Derived.Test.YtjpkddmdhdmhgaaLight4
namespace Go.Proofs.Ytjpkddmdhdmhgaa
open Go.RowKit
set_option maxRecDepth 100000

def upC (c : UInt8) : UInt8 := if 97 ≤ c.toNat ∧ c.toNat ≤ 122 then UInt8.ofNat (c.toNat - 32) else c
def upL (l : List UInt8) : List UInt8 := l.map upC
theorem upC_hi {x : UInt8} (h1 : 97 ≤ x.toNat) (h2 : x.toNat ≤ 122) : ((upC x).toNat : Int) = x.toNat - 32 := by
  unfold upC
  rw [if_pos ⟨h1, h2⟩, UInt8.toNat_ofNat']
  omega
theorem upC_lo {x : UInt8} (h : ¬ (97 ≤ x.toNat ∧ x.toNat ≤ 122)) : upC x = x := by unfold upC; rw [if_neg h]
theorem small_up (x : UInt8) : smallC (upC x) = smallC x := by
  by_cases h : 97 ≤ x.toNat ∧ x.toNat ≤ 122
  · have hx := x.toNat_lt
    have e : (upC x).toNat = x.toNat - 32 := by unfold upC; rw [if_pos h, UInt8.toNat_ofNat']; omega
    have h2 : ¬ (65 ≤ x.toNat ∧ x.toNat ≤ 90) := by omega
    rw [smallC_lo h2]
    unfold smallC
    rw [if_pos (by omega), e]
    apply UInt8.toNat_inj.1
    rw [UInt8.toNat_ofNat']
    omega
  · rw [upC_lo h]
theorem small_upL (l : List UInt8) : smallL (upL l) = smallL l := by
  unfold smallL upL
  rw [List.map_map]
  exact List.map_congr_left fun x _ => small_up x
/-- The first few are capital. -/
def someU (l : List UInt8) (k : Nat) : List UInt8 := (l.take k).map upC ++ l.drop k
theorem someU_zero (l : List UInt8) : someU l 0 = l := rfl
theorem someU_all (l : List UInt8) : someU l l.length = upL l := by simp [someU, upL]
theorem someU_length (l : List UInt8) (k : Nat) (hk : k ≤ l.length) : (someU l k).length = l.length := by simp [someU]; omega
theorem someU_at {l : List UInt8} {k : Nat} {x : UInt8} (hx : l[k]? = some x) : (someU l k)[k]? = some x := by
  have hk := (List.getElem?_eq_some_iff.1 hx).1
  unfold someU
  rw [List.getElem?_append_right (by simp; omega), List.length_map, List.length_take, Nat.min_eq_left (by omega), Nat.sub_self, List.getElem?_drop, Nat.add_zero, hx]
theorem someU_succ {l : List UInt8} {k : Nat} {x : UInt8} (hx : l[k]? = some x) : (someU l k).set k (upC x) = someU l (k + 1) := by
  have hk := (List.getElem?_eq_some_iff.1 hx).1
  unfold someU
  rw [List.set_append_right _ _ (by simp; omega), List.length_map, List.length_take, Nat.min_eq_left (by omega), Nat.sub_self, List.drop_eq_getElem_cons hk, List.set_cons_zero, List.take_add_one, hx]
  simp
theorem someU_same {l : List UInt8} {k : Nat} {x : UInt8} (hx : l[k]? = some x) (h : upC x = x) : someU l (k + 1) = someU l k := by
  have h1 := someU_at hx
  rw [← someU_succ hx, h]
  obtain ⟨hk, e⟩ := List.getElem?_eq_some_iff.1 h1
  rw [← e]
  exact List.set_getElem_self hk
/-- The first few labels are capital. -/
def hostK (n : List (List UInt8)) (k : Nat) : List (List UInt8) := (n.take k).map upL ++ n.drop k
theorem hostK_zero (n : List (List UInt8)) : hostK n 0 = n := rfl
theorem hostK_length (n : List (List UInt8)) (k : Nat) (hk : k ≤ n.length) : (hostK n k).length = n.length := by simp [hostK]; omega
theorem hostK_at {n : List (List UInt8)} {k : Nat} {l : List UInt8} (hx : n[k]? = some l) : (hostK n k)[k]? = some l := by
  have hk := (List.getElem?_eq_some_iff.1 hx).1
  unfold hostK
  rw [List.getElem?_append_right (by simp; omega), List.length_map, List.length_take, Nat.min_eq_left (by omega), Nat.sub_self, List.getElem?_drop, Nat.add_zero, hx]
theorem hostK_succ {n : List (List UInt8)} {k : Nat} {l : List UInt8} (hx : n[k]? = some l) : (hostK n k).set k (upL l) = hostK n (k + 1) := by
  have hk := (List.getElem?_eq_some_iff.1 hx).1
  unfold hostK
  rw [List.set_append_right _ _ (by simp; omega), List.length_map, List.length_take, Nat.min_eq_left (by omega), Nat.sub_self, List.drop_eq_getElem_cons hk, List.set_cons_zero, List.take_add_one, hx]
  simp
theorem hostK_low (n : List (List UInt8)) (k : Nat) : lowN (hostK n k) = lowN n := by
  unfold lowN hostK
  rw [List.map_append, List.map_map]
  have e : List.map (smallL ∘ upL) (List.take k n) = List.map smallL (List.take k n) := List.map_congr_left fun l _ => small_upL l
  rw [e, ← List.map_append, List.take_append_drop]

/-- The copy, some of its host's labels capital. -/
structure CSt (w wr : World) (B q : Nat) (s : DS) (x : Da) (k : Nat) : Prop where
  row : wr.heap[q]? = some (.cells #[.slice s.A0 x.bytes.length s.c0, .slice s.A1 x.host.length s.c1, .slice s.A2 x.mail.length s.c2, .slice s.A3 x.nums.length s.c3, .slice s.A4 x.texts.length s.c4] 102 (0, 0))
  host : OwnS wr B (.slice s.A1 x.host.length s.c1) (hostK x.host k)
  b : RdB wr s.A0 x.bytes.length x.bytes
  m : Els encS (fun z => (Value.slice s.A2 x.mail.length s.c2).ownBlock = some z) noS wr s.A2 x.mail.length x.mail
  n : Els encI (fun z => (Value.slice s.A3 x.nums.length s.c3).ownBlock = some z) noS wr s.A3 x.nums.length x.nums
  t : Els encS (fun z => (Value.slice s.A4 x.texts.length s.c4).ownBlock = some z) noS wr s.A4 x.texts.length x.texts
  bw : Below w.heap.size w wr
  hB : w.heap.size ≤ B
  sep : sepV x (.slice s.A0 x.bytes.length s.c0) (.slice s.A1 x.host.length s.c1) (.slice s.A2 x.mail.length s.c2) (.slice s.A3 x.nums.length s.c3) (.slice s.A4 x.texts.length s.c4)
  lt : ∀ z, (Value.slice s.A1 x.host.length s.c1).ownBlock = some z → z ≠ q
  lm : ∀ z, (Value.slice s.A2 x.mail.length s.c2).ownBlock = some z → z < wr.heap.size
  ln : ∀ z, (Value.slice s.A3 x.nums.length s.c3).ownBlock = some z → z < wr.heap.size
  ltx : ∀ z, (Value.slice s.A4 x.texts.length s.c4).ownBlock = some z → z < wr.heap.size
  caps : (x.bytes.length ≤ s.c0 ∧ s.c0 ≤ maxLen) ∧ (x.host.length ≤ s.c1 ∧ s.c1 ≤ maxLen) ∧ (x.mail.length ≤ s.c2 ∧ s.c2 ≤ maxLen) ∧ (x.nums.length ≤ s.c3 ∧ s.c3 ≤ maxLen) ∧ (x.texts.length ≤ s.c4 ∧ s.c4 ≤ maxLen)
theorem own_form3 {α : Type} {E : Enc α} {e : TypeId} {S : Nat → Prop} {w : World} {B n c : Nat} {A : Option Addr} {xs : List α} (h : OwnE E e S w B (.slice A n c) xs) : Els E (fun z => (Value.slice A n c).ownBlock = some z) S w A n xs ∧ n = xs.length ∧ n ≤ c ∧ c ≤ maxLen := by
  obtain ⟨A', c', e', he, h1, h2⟩ := h.form
  injection e' with e1 e2 e3
  subst e1 e2 e3
  exact ⟨he, rfl, h1, h2⟩
theorem CSt.made {w wr : World} {B : Nat} {s : DS} {x : Da} (h : DOwn wr B s x) (hb : Below w.heap.size w wr) (hB : w.heap.size ≤ B) : CSt w (wr.alloc (.cells #[.slice s.A0 x.bytes.length s.c0, .slice s.A1 x.host.length s.c1, .slice s.A2 x.mail.length s.c2, .slice s.A3 x.nums.length s.c3, .slice s.A4 x.texts.length s.c4] 102)) B wr.heap.size s x 0 := by
  have hba := (bl (w := wr)).alloc (Nat.le_refl _) (.cells #[.slice s.A0 x.bytes.length s.c0, .slice s.A1 x.host.length s.c1, .slice s.A2 x.mail.length s.c2, .slice s.A3 x.nums.length s.c3, .slice s.A4 x.texts.length s.c4] 102)
  have hhm := OwnE.below h.m hba
  have hhn := OwnE.below h.n hba
  have hht := OwnE.below h.t hba
  obtain ⟨_, _, e, _, hb1, hb2⟩ := h.b.form
  injection e with _ _ e
  subst e
  exact ⟨heap_alloc_new _ _, OwnE.below h.h hba, h.b.rd.1.below hba, (own_form3 hhm).1, (own_form3 hhn).1, (own_form3 hht).1, nx hb hba, hB, h.sep, fun z hz e => by have := (OwnE.lt h.h z hz).2; omega, fun z hz => (OwnE.lt hhm z hz).2, fun z hz => (OwnE.lt hhn z hz).2, fun z hz => (OwnE.lt hht z hz).2,
    ⟨⟨hb1, hb2⟩, (own_form3 h.h).2.2, (own_form3 h.m).2.2, (own_form3 h.n).2.2, (own_form3 h.t).2.2⟩⟩
theorem CSt.below {w wr w' : World} {B q : Nat} {s : DS} {x : Da} {k : Nat} (h : CSt w wr B q s x k) (hb : Below wr.heap.size wr w') : CSt w w' B q s x k :=
  ⟨(hb.block q (Array.getElem?_eq_some_iff.1 h.row).1).trans h.row, OwnE.below h.host hb, h.b.below hb, h.m.keep (fun z hz => hb.block z (h.lm z hz)) (fun _ hz => hz.elim), h.n.keep (fun z hz => hb.block z (h.ln z hz)) (fun _ hz => hz.elim), h.t.keep (fun z hz => hb.block z (h.ltx z hz)) (fun _ hz => hz.elim), Go.Proofs.Ytjpkddmdhdmhgaa.nx h.bw hb, h.hB, h.sep, h.lt,
    fun z hz => Nat.lt_of_lt_of_le (h.lm z hz) hb.size, fun z hz => Nat.lt_of_lt_of_le (h.ln z hz) hb.size, fun z hz => Nat.lt_of_lt_of_le (h.ltx z hz) hb.size, h.caps⟩
theorem chg_g1c (w : World) (g k : Nat) (u : Value) : Chg (fun z => z = g) w (w.setCell ⟨g, k, none⟩ u) := (Chg.refl (fun z => z = g) w).setCell (p := ⟨g, k, none⟩) (Or.inl rfl) u
theorem els_chg0 {α : Type} {E : Enc α} {So : Nat → Prop} {w w' : World} {A : Option Addr} {n : Nat} {xs : List α} {g : Nat} (h : Els E So noS w A n xs) (hc : Chg (fun z => z = g) w w') (hl : ∀ z, So z → z < w.heap.size) (hne : ∀ z, 0 < n → So z → z ≠ g) : Els E So noS w' A n xs := by
  by_cases h0 : n = 0
  · exact ⟨h.1, fun hn => by omega⟩
  · exact h.keep (fun z hz => hc.block z (hl z hz) (hne z (by omega) hz)) (fun _ hz => hz.elim)
theorem rdB_chg1 {w w' : World} {A : Option Addr} {n : Nat} {bs : List UInt8} {g : Nat} (h : RdB w A n bs) (hc : Chg (fun z => z = g) w w') (hne : ∀ b off, 0 < n → A = some ⟨b, off, none⟩ → b ≠ g) : RdB w' A n bs := by
  by_cases hn : n = 0
  · exact ⟨h.1, fun h0 => by have := h.len; simp at h0; omega⟩
  · exact h.chg hc (fun b off e => hne b off (by omega) e)
/-- One label more. -/
theorem CSt.step {w wr : World} {B q g : Nat} {s : DS} {x : Da} {k : Nat} {l : List UInt8} (h : CSt w wr B q s x k) (hA : s.A1 = some ⟨g, 0, none⟩) (hl : x.host[k]? = some l) (hm : (upL l).length ≤ maxLen) : CSt w (wr.setCell ⟨g, k, none⟩ (.string (bstr (upL l)))) B q s x (k + 1) := by
  have hk := (List.getElem?_eq_some_iff.1 hl).1
  have hne : newsD x 1 ≠ [] := by
    intro e
    have : (newsD x 1).length = x.host.length := List.length_map _
    rw [e] at this
    simp at this
    omega
  have hv1 : (Value.slice s.A1 x.host.length s.c1).ownBlock = some g := by rw [hA]; rfl
  have hc : Chg (fun z => z = g) wr (wr.setCell ⟨g, k, none⟩ (.string (bstr (upL l)))) := chg_g1c wr g k _
  have hgB := OwnE.lt h.host g hv1
  have hzz : (wr.setCell ⟨g, k, none⟩ (.string (bstr (upL l)))).heap.size = wr.heap.size := by simp
  have hS : ∀ (i : Nat) (v : Value) (n : Nat), sepP (newsD x 1) (newsD x i) (Value.slice s.A1 x.host.length s.c1) v → (newsD x i).length = n → ∀ z, 0 < n → v.ownBlock = some z → z ≠ g := fun i v n hp hn z h0 hz e => by
    subst e
    rcases hp z hv1 hz with e | e
    · exact hne e
    · rw [e] at hn; simp at hn; omega
  have hsep := h.sep
  refine ⟨hc.heap h.row (fun e => h.lt g hv1 e.symm), ?_, rdB_chg1 h.b hc (fun b off h0 e => hS 0 _ _ hsep.1 (List.length_map _) b h0 (by rw [e]; rfl)), els_chg0 h.m hc h.lm (hS 2 _ _ hsep.2.1 (List.length_map _)), els_chg0 h.n hc h.ln (hS 3 _ _ hsep.2.2.1 (List.length_map _)), els_chg0 h.t hc h.ltx (hS 4 _ _ hsep.2.2.2 (List.length_map _)),
    h.bw.setCell (by have := h.hB; show w.heap.size ≤ g; omega) _, h.hB, h.sep, h.lt, by rw [hzz]; exact h.lm, by rw [hzz]; exact h.ln, by rw [hzz]; exact h.ltx, h.caps⟩
  have hh := h.host
  rw [hA] at hh ⊢
  have := OwnE.store (j := 0) (y := upL l) (u := .string (bstr (upL l))) hh (hostK_at hl) encS.pos (fun r hr => ⟨by rw [hr.1]; rfl, hm⟩)
  rw [hostK_succ hl] at this
  have e : k * encS.size + 0 = k := by show k * 1 + 0 = k; omega
  rw [e] at this
  exact this
/-- As data that reads. -/
def Da.up (x : Da) : Da := { x with host := hostK x.host x.host.length }
theorem Da.up_len (x : Da) : x.up.host.length = x.host.length := hostK_length _ _ (Nat.le_refl _)
theorem CSt.done {w wr : World} {B q : Nat} {s : DS} {x : Da} (h : CSt w wr B q s x x.host.length) : DRd wr s x.up ∧ DBox wr q s x.up := by
  have hl := x.up_len
  have hf := own_form3 h.host
  have hlt : ∀ z, (Value.slice s.A1 x.host.length s.c1).ownBlock = some z → z < wr.heap.size := fun z hz => (OwnE.lt h.host z hz).2
  have hx : ∀ j : Nat, wr.cell? ⟨q, j, none⟩ = (#[.slice s.A0 x.bytes.length s.c0, .slice s.A1 x.host.length s.c1, .slice s.A2 x.mail.length s.c2, .slice s.A3 x.nums.length s.c3, .slice s.A4 x.texts.length s.c4] : Array Value)[j]? := fun j => cell_of_row _ _ _ _ _ _ h.row
  refine ⟨⟨h.b, ?_, h.m.mono (fun z hz => h.lm z hz) (fun _ hz => hz.elim), h.n.mono (fun z hz => h.ln z hz) (fun _ hz => hz.elim), h.t.mono (fun z hz => h.ltx z hz) (fun _ hz => hz.elim), h.caps.1, by rw [hl]; exact h.caps.2.1, h.caps.2.2.1, h.caps.2.2.2.1, h.caps.2.2.2.2⟩, hx 0, by rw [hl]; exact hx 1, hx 2, hx 3, hx 4⟩
  show RdE encS wr s.A1 x.up.host.length x.up.host
  rw [hl]
  exact hf.1.mono (fun z hz => hlt z hz) (fun _ hz => hz.elim)
theorem same_up (x : Da) : sameD x x.up = true := sameD_true rfl rfl rfl (hostK_low _ _).symm rfl
end Go.Proofs.Ytjpkddmdhdmhgaa
