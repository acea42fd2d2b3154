/- Parts of a proof, joined: OwnD, RdPlain, RrPlain, Get, Wget, RdG1, RdG2, RdG3, Ints, RdG4, RdG5. -/
import Derived.Defers
import Derived.Recover
import Derived.StillTailTactics
import Derived.Test.YtimkdpkhdbiniaaChecked
import Derived.Test.YtimkdpkhdbiniaaSDM03
import Derived.Test.YtimkdpkhdbiniaaSDM02c
import Derived.Test.YtimkdpkhdbiniaaSDM02
import Derived.Test.YtimkdpkhdbiniaaSDM01
/- The reference's OwnData: data that shares nothing. -/
namespace Go.Proofs.Ytimkdpkhdbiniaa
open Go.RowKit
set_option maxRecDepth 100000

def intV (n : Int) : Value := .int .i64 n
def etyD (g : Nat) : TypeId := if g = 0 then 5 else if g = 3 then 3 else 9
def newsD (x : Da) (g : Nat) : List Value := if g = 0 then x.bytes.map bV else if g = 1 then x.host.map strV else if g = 2 then x.mail.map strV else if g = 3 then x.nums.map intV else x.texts.map strV
def srcD (s : DS) (x : Da) (g : Nat) : Value := if g = 0 then .slice s.A0 x.bytes.length s.c0 else if g = 1 then .slice s.A1 x.host.length s.c1 else if g = 2 then .slice s.A2 x.mail.length s.c2 else if g = 3 then .slice s.A3 x.nums.length s.c3 else .slice s.A4 x.texts.length s.c4
/-- A row is there, empty. -/
def psiA (B g : Nat) (v : Value) (w : World) : Prop := ∃ b, v = .slice (some ⟨b, 0, none⟩) 0 0 ∧ B ≤ b ∧ w.heap[b]? = some (.cells #[] (etyD g) (0, 0))
def psiC (x : Da) (B g : Nat) (v : Value) (w : World) : Prop := w.ownsRow B (etyD g) 1 v (newsD x g).length (newsD x g)
/-- Two rows that are not empty are not one. -/
def sepP (a b : List Value) (v u : Value) : Prop := ∀ k, v.ownBlock = some k → u.ownBlock = some k → a = [] ∨ b = []
def sepV (x : Da) (v0 v1 v2 v3 v4 : Value) : Prop :=
  sepP (newsD x 1) (newsD x 0) v1 v0 ∧ sepP (newsD x 1) (newsD x 2) v1 v2 ∧ sepP (newsD x 1) (newsD x 3) v1 v3 ∧ sepP (newsD x 1) (newsD x 4) v1 v4
/-- What operation j has left. -/
def psiD (s : DS) (x : Da) (q B j : Nat) (v : Value) (w : World) : Prop :=
  if j = 20 then ∃ v0 v1 v2 v3 v4, v = .agg #[v0, v1, v2, v3, v4] ∧ psiC x B 0 v0 w ∧ psiC x B 1 v1 w ∧ psiC x B 2 v2 w ∧ psiC x B 3 v3 w ∧ psiC x B 4 v4 w ∧ sepV x v0 v1 v2 v3 v4
  else if j % 4 = 0 then psiA B (j / 4) v w else if j % 4 = 1 then v = .pointer (some ⟨q, j / 4, none⟩) else if j % 4 = 2 then v = srcD s x (j / 4) else psiC x B (j / 4) v w
def dD (x : Da) (i j : Nat) (v u : Value) : Prop := i % 4 = 3 → j % 4 = 3 → i < 20 → j < 20 → ∀ k, v.ownBlock = some k → u.ownBlock = some k → newsD x (i / 4) = [] ∨ newsD x (j / 4) = []
theorem dD_sep {x : Da} {i j : Nat} {v u : Value} (hi : i < 5) (hj : j < 5) (h : dD x (4 * i + 3) (4 * j + 3) v u ∨ dD x (4 * j + 3) (4 * i + 3) u v) : sepP (newsD x i) (newsD x j) v u := by
  intro k hk hk2
  have e1 : (4 * i + 3) / 4 = i := by omega
  have e2 : (4 * j + 3) / 4 = j := by omega
  rcases h with h | h
  · have := h (by omega) (by omega) (by omega) (by omega) k hk hk2
    rwa [e1, e2] at this
  · have := h (by omega) (by omega) (by omega) (by omega) k hk2 hk
    rw [e1, e2] at this
    exact this.symm
theorem psiA.below {B g : Nat} {v : Value} {w w' : World} (h : psiA B g v w) (hb : Below w.heap.size w w') : psiA B g v w' := by
  obtain ⟨b, e, h1, h2⟩ := h
  exact ⟨b, e, h1, (hb.block b (Array.getElem?_eq_some_iff.1 h2).1).trans h2⟩
theorem ownsRow_below {w w' : World} {B size n : Nat} {e : TypeId} {v : Value} {xs : List Value} (h : w.ownsRow B e size v n xs) (hb : Below w.heap.size w w') : w'.ownsRow B e size v n xs := by
  refine ⟨h.1, ?_⟩
  rcases h.2 with h0 | ⟨g, cap, cur, e1, h2, h3, h4⟩
  · exact .inl h0
  · exact .inr ⟨g, cap, cur, e1, h2, (hb.block g (Array.getElem?_eq_some_iff.1 h3).1).trans h3, h4⟩
theorem psiC.below {x : Da} {B g : Nat} {v : Value} {w w' : World} (h : psiC x B g v w) (hb : Below w.heap.size w w') : psiC x B g v w' := ownsRow_below h hb
theorem psiC_form {x : Da} {B g n : Nat} {v : Value} {w : World} (h : psiC x B g v w) (hn : (newsD x g).length = n) : ∃ A c, v = .slice A n c ∧ n ≤ c ∧ c ≤ maxLen := by
  subst hn
  rcases h.2 with ⟨e, h0⟩ | ⟨g', cap, cur, e, _, _, h1, h2, _⟩
  · exact ⟨none, 0, by rw [e, h0], by rw [h0]; exact Nat.le_refl _, Nat.zero_le _⟩
  · exact ⟨_, cap, e, h1, h2⟩
theorem psiD.below {s : DS} {x : Da} {q B j : Nat} {v : Value} {w w' : World} (h : psiD s x q B j v w) (hb : Below w.heap.size w w') : psiD s x q B j v w' := by
  unfold psiD at *
  split at h
  · rename_i hj
    rw [if_pos hj]
    obtain ⟨v0, v1, v2, v3, v4, e, h0, h1, h2, h3, h4, h5⟩ := h
    exact ⟨v0, v1, v2, v3, v4, e, h0.below hb, h1.below hb, h2.below hb, h3.below hb, h4.below hb, h5⟩
  · rename_i hj
    rw [if_neg hj]
    split at h
    · rename_i hk; rw [if_pos hk]; exact h.below hb
    · rename_i hk
      rw [if_neg hk]
      split at h
      · rename_i hk2; rw [if_pos hk2]; exact h
      · rename_i hk2
        rw [if_neg hk2]
        split at h
        · rename_i hk3; rw [if_pos hk3]; exact h
        · rename_i hk3; rw [if_neg hk3]; exact h.below hb

theorem ints_rd {So Si : Nat → Prop} {w : World} {A : Option Addr} {n : Nat} {ns : List Int} (h : Els encI So Si w A n ns) : Rd w 1 A n (ns.map intV) := by
  have hl := h.len
  refine ⟨by rw [List.length_map, hl, Nat.mul_one], fun hn => ?_⟩
  rw [List.length_map] at hn
  obtain ⟨l, hx⟩ : ∃ l, ns[0]? = some l := ⟨_, List.getElem?_eq_getElem hn⟩
  obtain ⟨b, off, rfl, _⟩ := ints_at h hx
  refine ⟨b, off, rfl, fun j u hu => ?_⟩
  rw [List.getElem?_map] at hu
  obtain ⟨y, hy, rfl⟩ := Option.map_eq_some_iff.1 hu
  obtain ⟨b', off', e, _, hc, _⟩ := ints_at h hy
  injection e with e
  injection e with e1 e2
  subst e1 e2
  exact hc
theorem infoI : (Try.prog.info? 3).map (fun i => (i.zero, i.size, i.bytes)) = some (some (.int .i64 0), 1, 8) := by kernel_rfl
theorem infoS : (Try.prog.info? 9).map (fun i => (i.zero, i.size, i.bytes)) = some (some (.string ByteArray.empty), 1, 16) := by kernel_rfl

/-- A call's own copy: each slice a row of the call's own. -/
structure DOwn (w : World) (B : Nat) (s : DS) (x : Da) : Prop where
  b : OwnB w B (.slice s.A0 x.bytes.length s.c0) x.bytes
  h : OwnS w B (.slice s.A1 x.host.length s.c1) x.host
  m : OwnS w B (.slice s.A2 x.mail.length s.c2) x.mail
  n : OwnE encI 3 noS w B (.slice s.A3 x.nums.length s.c3) x.nums
  t : OwnS w B (.slice s.A4 x.texts.length s.c4) x.texts
  sep : sepV x (.slice s.A0 x.bytes.length s.c0) (.slice s.A1 x.host.length s.c1) (.slice s.A2 x.mail.length s.c2) (.slice s.A3 x.nums.length s.c3) (.slice s.A4 x.texts.length s.c4)

theorem strs_max {So Si : Nat → Prop} {w : World} {A : Option Addr} {n : Nat} {ns : List (List UInt8)} (h : Els encS So Si w A n ns) : ∀ l ∈ ns, l.length ≤ maxLen := fun l hl => by
  obtain ⟨i, hi⟩ := List.mem_iff_getElem?.1 hl
  obtain ⟨_, _, _, _, _, hm⟩ := strs_at h hi
  exact hm
theorem ints_max {So Si : Nat → Prop} {w : World} {A : Option Addr} {n : Nat} {ns : List Int} (h : Els encI So Si w A n ns) : ∀ l ∈ ns, -9223372036854775808 ≤ l ∧ l ≤ 9223372036854775807 := fun l hl => by
  obtain ⟨i, hi⟩ := List.mem_iff_getElem?.1 hl
  obtain ⟨_, _, _, _, _, hm⟩ := ints_at h hi
  exact hm
theorem flat_chunk {α : Type} {f : α → Value} {ns : List α} {j : Nat} {y : α} (hy : ns[j]? = some y) : List.take 1 (List.drop (j * 1) (ns.map f)) = [f y] := by
  have hjl : j < ns.length := (List.getElem?_eq_some_iff.1 hy).1
  rw [Nat.mul_one, List.drop_eq_getElem_cons (by rw [List.length_map]; exact hjl), List.take_succ_cons, List.take_zero, List.getElem_map]
  rw [List.getElem?_eq_getElem hjl] at hy
  injection hy with hy
  rw [hy]
theorem own_strs {w : World} {B : Nat} {v : Value} {ns : List (List UInt8)} (h : w.ownsRow B 9 1 v ns.length (ns.map strV)) (hm : ∀ l ∈ ns, l.length ≤ maxLen) : OwnS w B v ns :=
  ⟨ns.map strV, h, fun j y hy => by
    have e : List.take encS.size (List.drop (j * encS.size) (ns.map strV)) = [strV y] := flat_chunk hy
    rw [e]
    exact ⟨rfl, hm y (List.mem_of_getElem? hy)⟩, fun b hb => hb.elim⟩
theorem own_ints {w : World} {B : Nat} {v : Value} {ns : List Int} (h : w.ownsRow B 3 1 v ns.length (ns.map intV)) (hm : ∀ l ∈ ns, -9223372036854775808 ≤ l ∧ l ≤ 9223372036854775807) : OwnE encI 3 noS w B v ns :=
  ⟨ns.map intV, h, fun j y hy => by
    have e : List.take encI.size (List.drop (j * encI.size) (ns.map intV)) = [intV y] := flat_chunk hy
    rw [e]
    exact ⟨rfl, hm y (List.mem_of_getElem? hy)⟩, fun b hb => hb.elim⟩
theorem eval_tmp {a : Act} {t : Nat} {v : Value} (h : a.tmps[t]? = some v) : a.eval (.tmp t) = v := by
  show a.tmps.getD t undef = v
  rw [Array.getD_eq_getD_getElem?, h]
  rfl
set_option maxHeartbeats 4000000 in
theorem ownData_big (s : DS) (x : Da) (w : World) (hx : DRd w s x) (hbd : x.bytes.length ≤ 140737488355328 ∧ x.host.length ≤ 8796093022208 ∧ x.mail.length ≤ 8796093022208 ∧ x.nums.length ≤ 8796093022208 ∧ x.texts.length ≤ 8796093022208) :
    Calls Try.prog 105 #[dsV s x] w (RetP (fun v w' => ∃ s', v = dsV s' x ∧ DOwn w' w.heap.size s' x) w) := by
  unfold dsV
  obtain ⟨wa, hwa⟩ : ∃ wa, wa = w.alloc (.cells #[.slice s.A0 x.bytes.length s.c0, .slice s.A1 x.host.length s.c1, .slice s.A2 x.mail.length s.c2, .slice s.A3 x.nums.length s.c3, .slice s.A4 x.texts.length s.c4] 46) := ⟨_, rfl⟩
  obtain ⟨w0, hw0⟩ : ∃ w0, w0 = wa.alloc (.cells #[.slice none 0 0, .slice none 0 0, .slice none 0 0, .slice none 0 0, .slice none 0 0] 46) := ⟨_, rfl⟩
  have hba : Below w.heap.size w wa := by rw [hwa]; exact bl.alloc (Nat.le_refl _) _
  have hb0' : Below wa.heap.size wa w0 := by rw [hw0]; exact bl.alloc (Nat.le_refl _) _
  have hb0 := nx hba hb0'
  have hza : wa.heap.size = w.heap.size + 1 := by rw [hwa]; simp
  have BX : Hid (DBox w0 w.heap.size s x) := by show DBox _ _ _ _; exact (by rw [hwa]; exact DBox.made w s x _ : DBox wa w.heap.size s x).below hb0'
  have HD : Hid (w0.heap[w.heap.size + 1]? = some (.cells #[.slice none 0 0, .slice none 0 0, .slice none 0 0, .slice none 0 0, .slice none 0 0] 46 (0, 0))) := by
    show _ = _
    rw [hw0, ← hza]
    exact heap_alloc_new _ _
  have HX := Lib.hid hx
  go_enter Try.func105, Try.ntmps105
  go_upto_region 1 with (fail)
  rw [← hwa, ← hw0]
  clear hwa hw0 hx
  refine wp_region_inv (n := 21) (by kernel_rfl) (by kernel_rfl) (by kernel_rfl) rfl (by kernel_rfl) (fun i => i + 3) (fun i hi => by show i + 3 < 24; omega) (fun i j _ _ e => by have e' : i + 3 = j + 3 := e; omega) (psiD s x w.heap.size w0.heap.size) (dD x) (fun j v w1 w2 _ hb h => h.below hb) ?_ ?_
  · intro i hi a w1 hbw hsm hdep hsp
    have hq1 : a.tmps[1]? = some (.pointer (some ⟨w.heap.size, 0, none⟩)) := (hsm.other 1 (fun j _ e => by have e' : j + 3 = 1 := e; omega)).trans rfl
    have hbw' := nx hb0 hbw
    have hx := HX.out.below hbw'
    obtain ⟨b0, b1, b2, b3, b4⟩ := BX.out.below hbw
    have hcases : i = 0 ∨ i = 1 ∨ i = 2 ∨ i = 3 ∨ i = 4 ∨ i = 5 ∨ i = 6 ∨ i = 7 ∨ i = 8 ∨ i = 9 ∨ i = 10 ∨ i = 11 ∨ i = 12 ∨ i = 13 ∨ i = 14 ∨ i = 15 ∨ i = 16 ∨ i = 17 ∨ i = 18 ∨ i = 19 ∨ i = 20 := by omega
    rcases hcases with rfl | rfl | rfl | rfl | rfl | rfl | rfl | rfl | rfl | rfl | rfl | rfl | rfl | rfl | rfl | rfl | rfl | rfl | rfl | rfl | rfl
    · refine wpOp_plain rfl rfl ?_
      generalize hK : (fun (a' : Act) (w' : World) => _) = K
      go_simp
      rw [← hK]
      exact ⟨_, rfl, bl.alloc (Nat.le_refl _) _, ⟨w1.heap.size, rfl, hbw.size, heap_alloc_new _ _⟩, fun j u _ _ h => by cases h⟩
    · refine wpOp_plain rfl rfl ?_
      generalize hK : (fun (a' : Act) (w' : World) => _) = K
      unfold Oper.wp execOp
      simp [hq1, go_sem]
      rw [← hK]
      exact ⟨_, rfl, bl, rfl, fun j u _ _ h => by cases h⟩
    · refine wpOp_plain rfl rfl ?_
      generalize hK : (fun (a' : Act) (w' : World) => _) = K
      obtain ⟨v, hv, hp⟩ := hdep 1 (by kernel_rfl)
      have hp' : v = .pointer (some ⟨w.heap.size, 0, none⟩) := hp
      subst hp'
      unfold Oper.wp execOp
      simp [hv, go_sem, b0]
      rw [← hK]
      exact ⟨_, rfl, bl, rfl, fun j u _ _ h => by cases h⟩
    · refine wpOp_plain rfl rfl ?_
      generalize hK : (fun (a' : Act) (w' : World) => _) = K
      obtain ⟨v, hv, hp⟩ := hdep 0 (by kernel_rfl)
      obtain ⟨u, hu, hpu⟩ := hdep 2 (by kernel_rfl)
      have hp' : psiA w0.heap.size 0 v w1 := hp
      have hpu' : u = .slice s.A0 x.bytes.length s.c0 := hpu
      obtain ⟨b, rfl, hb1, hb2⟩ := hp'
      subst hpu'
      have e1 := eval_tmp hv
      have e2 := eval_tmp hu
      obtain ⟨i0, hi0, hz0, hs0, hy0⟩ := info_parts infoB
      obtain ⟨v', w', hrun, h1, h2, hfr⟩ := run_clone (P := Try.prog) (w := w1) 22 Try.underlying22 hi0 hz0 hs0 hy0 rfl hb1 hb2 s.A0 x.bytes.length s.c0 (x.bytes.map bV) (hx.b) (fun u hu => by obtain ⟨y, _, rfl⟩ := List.mem_map.1 hu; rfl) (by unfold maxLen; omega) (by omega)
      unfold Oper.wp execOp
      simp only [List.getElem_toArray, List.getElem_cons_succ, List.getElem_cons_zero, resolve, invoke, builtin, Sem.run_bind, Sem.run_pure, Result.andThen_ok, List.map_toArray, List.map_cons, List.map_nil, e1, e2, hrun]
      show K _ _
      rw [← hK]
      refine ⟨v', rfl, h2, ?_, fun j u _ hpj _ hj3 _ hj20 k hk1 hk2 => ?_⟩
      rotate_left
      · by_cases hne : newsD x 0 = []
        · exact .inl hne
        · have h3 := hfr hne k hk1
          have hp3 : psiC x w0.heap.size (j / 4) u w1 := by
            have := hpj
            unfold psiD at this
            rw [if_neg (by omega), if_neg (by omega), if_neg (by omega), if_neg (by omega)] at this
            exact this
          have h4 := (World.ownsRow.lt hp3 k hk2).2
          omega
      show w'.ownsRow w0.heap.size (etyD 0) 1 v' (newsD x 0).length (newsD x 0)
      have hn : newsD x 0 = x.bytes.map bV := rfl
      rw [hn, List.length_map]
      exact h1
    · refine wpOp_plain rfl rfl ?_
      generalize hK : (fun (a' : Act) (w' : World) => _) = K
      go_simp
      rw [← hK]
      exact ⟨_, rfl, bl.alloc (Nat.le_refl _) _, ⟨w1.heap.size, rfl, hbw.size, heap_alloc_new _ _⟩, fun j u _ _ h => by cases h⟩
    · refine wpOp_plain rfl rfl ?_
      generalize hK : (fun (a' : Act) (w' : World) => _) = K
      unfold Oper.wp execOp
      simp [hq1, go_sem]
      rw [← hK]
      exact ⟨_, rfl, bl, rfl, fun j u _ _ h => by cases h⟩
    · refine wpOp_plain rfl rfl ?_
      generalize hK : (fun (a' : Act) (w' : World) => _) = K
      obtain ⟨v, hv, hp⟩ := hdep 5 (by kernel_rfl)
      have hp' : v = .pointer (some ⟨w.heap.size, 1, none⟩) := hp
      subst hp'
      unfold Oper.wp execOp
      simp [hv, go_sem, b1]
      rw [← hK]
      exact ⟨_, rfl, bl, rfl, fun j u _ _ h => by cases h⟩
    · refine wpOp_plain rfl rfl ?_
      generalize hK : (fun (a' : Act) (w' : World) => _) = K
      obtain ⟨v, hv, hp⟩ := hdep 4 (by kernel_rfl)
      obtain ⟨u, hu, hpu⟩ := hdep 6 (by kernel_rfl)
      have hp' : psiA w0.heap.size 1 v w1 := hp
      have hpu' : u = .slice s.A1 x.host.length s.c1 := hpu
      obtain ⟨b, rfl, hb1, hb2⟩ := hp'
      subst hpu'
      have e1 := eval_tmp hv
      have e2 := eval_tmp hu
      obtain ⟨i0, hi0, hz0, hs0, hy0⟩ := info_parts infoS
      obtain ⟨v', w', hrun, h1, h2, hfr⟩ := run_clone (P := Try.prog) (w := w1) 23 Try.underlying23 hi0 hz0 hs0 hy0 rfl hb1 hb2 s.A1 x.host.length s.c1 (x.host.map strV) (strs_rd hx.h) (fun u hu => by obtain ⟨y, _, rfl⟩ := List.mem_map.1 hu; rfl) (by unfold maxLen; omega) (by omega)
      unfold Oper.wp execOp
      simp only [List.getElem_toArray, List.getElem_cons_succ, List.getElem_cons_zero, resolve, invoke, builtin, Sem.run_bind, Sem.run_pure, Result.andThen_ok, List.map_toArray, List.map_cons, List.map_nil, e1, e2, hrun]
      show K _ _
      rw [← hK]
      refine ⟨v', rfl, h2, ?_, fun j u _ hpj _ hj3 _ hj20 k hk1 hk2 => ?_⟩
      rotate_left
      · by_cases hne : newsD x 1 = []
        · exact .inl hne
        · have h3 := hfr hne k hk1
          have hp3 : psiC x w0.heap.size (j / 4) u w1 := by
            have := hpj
            unfold psiD at this
            rw [if_neg (by omega), if_neg (by omega), if_neg (by omega), if_neg (by omega)] at this
            exact this
          have h4 := (World.ownsRow.lt hp3 k hk2).2
          omega
      show w'.ownsRow w0.heap.size (etyD 1) 1 v' (newsD x 1).length (newsD x 1)
      have hn : newsD x 1 = x.host.map strV := rfl
      rw [hn, List.length_map]
      exact h1
    · refine wpOp_plain rfl rfl ?_
      generalize hK : (fun (a' : Act) (w' : World) => _) = K
      go_simp
      rw [← hK]
      exact ⟨_, rfl, bl.alloc (Nat.le_refl _) _, ⟨w1.heap.size, rfl, hbw.size, heap_alloc_new _ _⟩, fun j u _ _ h => by cases h⟩
    · refine wpOp_plain rfl rfl ?_
      generalize hK : (fun (a' : Act) (w' : World) => _) = K
      unfold Oper.wp execOp
      simp [hq1, go_sem]
      rw [← hK]
      exact ⟨_, rfl, bl, rfl, fun j u _ _ h => by cases h⟩
    · refine wpOp_plain rfl rfl ?_
      generalize hK : (fun (a' : Act) (w' : World) => _) = K
      obtain ⟨v, hv, hp⟩ := hdep 9 (by kernel_rfl)
      have hp' : v = .pointer (some ⟨w.heap.size, 2, none⟩) := hp
      subst hp'
      unfold Oper.wp execOp
      simp [hv, go_sem, b2]
      rw [← hK]
      exact ⟨_, rfl, bl, rfl, fun j u _ _ h => by cases h⟩
    · refine wpOp_plain rfl rfl ?_
      generalize hK : (fun (a' : Act) (w' : World) => _) = K
      obtain ⟨v, hv, hp⟩ := hdep 8 (by kernel_rfl)
      obtain ⟨u, hu, hpu⟩ := hdep 10 (by kernel_rfl)
      have hp' : psiA w0.heap.size 2 v w1 := hp
      have hpu' : u = .slice s.A2 x.mail.length s.c2 := hpu
      obtain ⟨b, rfl, hb1, hb2⟩ := hp'
      subst hpu'
      have e1 := eval_tmp hv
      have e2 := eval_tmp hu
      obtain ⟨i0, hi0, hz0, hs0, hy0⟩ := info_parts infoS
      obtain ⟨v', w', hrun, h1, h2, hfr⟩ := run_clone (P := Try.prog) (w := w1) 23 Try.underlying23 hi0 hz0 hs0 hy0 rfl hb1 hb2 s.A2 x.mail.length s.c2 (x.mail.map strV) (strs_rd hx.m) (fun u hu => by obtain ⟨y, _, rfl⟩ := List.mem_map.1 hu; rfl) (by unfold maxLen; omega) (by omega)
      unfold Oper.wp execOp
      simp only [List.getElem_toArray, List.getElem_cons_succ, List.getElem_cons_zero, resolve, invoke, builtin, Sem.run_bind, Sem.run_pure, Result.andThen_ok, List.map_toArray, List.map_cons, List.map_nil, e1, e2, hrun]
      show K _ _
      rw [← hK]
      refine ⟨v', rfl, h2, ?_, fun j u _ hpj _ hj3 _ hj20 k hk1 hk2 => ?_⟩
      rotate_left
      · by_cases hne : newsD x 2 = []
        · exact .inl hne
        · have h3 := hfr hne k hk1
          have hp3 : psiC x w0.heap.size (j / 4) u w1 := by
            have := hpj
            unfold psiD at this
            rw [if_neg (by omega), if_neg (by omega), if_neg (by omega), if_neg (by omega)] at this
            exact this
          have h4 := (World.ownsRow.lt hp3 k hk2).2
          omega
      show w'.ownsRow w0.heap.size (etyD 2) 1 v' (newsD x 2).length (newsD x 2)
      have hn : newsD x 2 = x.mail.map strV := rfl
      rw [hn, List.length_map]
      exact h1
    · refine wpOp_plain rfl rfl ?_
      generalize hK : (fun (a' : Act) (w' : World) => _) = K
      go_simp
      rw [← hK]
      exact ⟨_, rfl, bl.alloc (Nat.le_refl _) _, ⟨w1.heap.size, rfl, hbw.size, heap_alloc_new _ _⟩, fun j u _ _ h => by cases h⟩
    · refine wpOp_plain rfl rfl ?_
      generalize hK : (fun (a' : Act) (w' : World) => _) = K
      unfold Oper.wp execOp
      simp [hq1, go_sem]
      rw [← hK]
      exact ⟨_, rfl, bl, rfl, fun j u _ _ h => by cases h⟩
    · refine wpOp_plain rfl rfl ?_
      generalize hK : (fun (a' : Act) (w' : World) => _) = K
      obtain ⟨v, hv, hp⟩ := hdep 13 (by kernel_rfl)
      have hp' : v = .pointer (some ⟨w.heap.size, 3, none⟩) := hp
      subst hp'
      unfold Oper.wp execOp
      simp [hv, go_sem, b3]
      rw [← hK]
      exact ⟨_, rfl, bl, rfl, fun j u _ _ h => by cases h⟩
    · refine wpOp_plain rfl rfl ?_
      generalize hK : (fun (a' : Act) (w' : World) => _) = K
      obtain ⟨v, hv, hp⟩ := hdep 12 (by kernel_rfl)
      obtain ⟨u, hu, hpu⟩ := hdep 14 (by kernel_rfl)
      have hp' : psiA w0.heap.size 3 v w1 := hp
      have hpu' : u = .slice s.A3 x.nums.length s.c3 := hpu
      obtain ⟨b, rfl, hb1, hb2⟩ := hp'
      subst hpu'
      have e1 := eval_tmp hv
      have e2 := eval_tmp hu
      obtain ⟨i0, hi0, hz0, hs0, hy0⟩ := info_parts infoI
      obtain ⟨v', w', hrun, h1, h2, hfr⟩ := run_clone (P := Try.prog) (w := w1) 44 Try.underlying44 hi0 hz0 hs0 hy0 rfl hb1 hb2 s.A3 x.nums.length s.c3 (x.nums.map intV) (ints_rd hx.n) (fun u hu => by obtain ⟨y, _, rfl⟩ := List.mem_map.1 hu; rfl) (by unfold maxLen; omega) (by omega)
      unfold Oper.wp execOp
      simp only [List.getElem_toArray, List.getElem_cons_succ, List.getElem_cons_zero, resolve, invoke, builtin, Sem.run_bind, Sem.run_pure, Result.andThen_ok, List.map_toArray, List.map_cons, List.map_nil, e1, e2, hrun]
      show K _ _
      rw [← hK]
      refine ⟨v', rfl, h2, ?_, fun j u _ hpj _ hj3 _ hj20 k hk1 hk2 => ?_⟩
      rotate_left
      · by_cases hne : newsD x 3 = []
        · exact .inl hne
        · have h3 := hfr hne k hk1
          have hp3 : psiC x w0.heap.size (j / 4) u w1 := by
            have := hpj
            unfold psiD at this
            rw [if_neg (by omega), if_neg (by omega), if_neg (by omega), if_neg (by omega)] at this
            exact this
          have h4 := (World.ownsRow.lt hp3 k hk2).2
          omega
      show w'.ownsRow w0.heap.size (etyD 3) 1 v' (newsD x 3).length (newsD x 3)
      have hn : newsD x 3 = x.nums.map intV := rfl
      rw [hn, List.length_map]
      exact h1
    · refine wpOp_plain rfl rfl ?_
      generalize hK : (fun (a' : Act) (w' : World) => _) = K
      go_simp
      rw [← hK]
      exact ⟨_, rfl, bl.alloc (Nat.le_refl _) _, ⟨w1.heap.size, rfl, hbw.size, heap_alloc_new _ _⟩, fun j u _ _ h => by cases h⟩
    · refine wpOp_plain rfl rfl ?_
      generalize hK : (fun (a' : Act) (w' : World) => _) = K
      unfold Oper.wp execOp
      simp [hq1, go_sem]
      rw [← hK]
      exact ⟨_, rfl, bl, rfl, fun j u _ _ h => by cases h⟩
    · refine wpOp_plain rfl rfl ?_
      generalize hK : (fun (a' : Act) (w' : World) => _) = K
      obtain ⟨v, hv, hp⟩ := hdep 17 (by kernel_rfl)
      have hp' : v = .pointer (some ⟨w.heap.size, 4, none⟩) := hp
      subst hp'
      unfold Oper.wp execOp
      simp [hv, go_sem, b4]
      rw [← hK]
      exact ⟨_, rfl, bl, rfl, fun j u _ _ h => by cases h⟩
    · refine wpOp_plain rfl rfl ?_
      generalize hK : (fun (a' : Act) (w' : World) => _) = K
      obtain ⟨v, hv, hp⟩ := hdep 16 (by kernel_rfl)
      obtain ⟨u, hu, hpu⟩ := hdep 18 (by kernel_rfl)
      have hp' : psiA w0.heap.size 4 v w1 := hp
      have hpu' : u = .slice s.A4 x.texts.length s.c4 := hpu
      obtain ⟨b, rfl, hb1, hb2⟩ := hp'
      subst hpu'
      have e1 := eval_tmp hv
      have e2 := eval_tmp hu
      obtain ⟨i0, hi0, hz0, hs0, hy0⟩ := info_parts infoS
      obtain ⟨v', w', hrun, h1, h2, hfr⟩ := run_clone (P := Try.prog) (w := w1) 23 Try.underlying23 hi0 hz0 hs0 hy0 rfl hb1 hb2 s.A4 x.texts.length s.c4 (x.texts.map strV) (strs_rd hx.t) (fun u hu => by obtain ⟨y, _, rfl⟩ := List.mem_map.1 hu; rfl) (by unfold maxLen; omega) (by omega)
      unfold Oper.wp execOp
      simp only [List.getElem_toArray, List.getElem_cons_succ, List.getElem_cons_zero, resolve, invoke, builtin, Sem.run_bind, Sem.run_pure, Result.andThen_ok, List.map_toArray, List.map_cons, List.map_nil, e1, e2, hrun]
      show K _ _
      rw [← hK]
      refine ⟨v', rfl, h2, ?_, fun j u _ hpj _ hj3 _ hj20 k hk1 hk2 => ?_⟩
      rotate_left
      · by_cases hne : newsD x 4 = []
        · exact .inl hne
        · have h3 := hfr hne k hk1
          have hp3 : psiC x w0.heap.size (j / 4) u w1 := by
            have := hpj
            unfold psiD at this
            rw [if_neg (by omega), if_neg (by omega), if_neg (by omega), if_neg (by omega)] at this
            exact this
          have h4 := (World.ownsRow.lt hp3 k hk2).2
          omega
      show w'.ownsRow w0.heap.size (etyD 4) 1 v' (newsD x 4).length (newsD x 4)
      have hn : newsD x 4 = x.texts.map strV := rfl
      rw [hn, List.length_map]
      exact h1
    · refine wpOp_plain rfl rfl ?_
      generalize hK : (fun (a' : Act) (w' : World) => _) = K
      obtain ⟨v0, hv0, hp0⟩ := hdep 3 (by kernel_rfl)
      obtain ⟨v1, hv1, hp1⟩ := hdep 7 (by kernel_rfl)
      obtain ⟨v2, hv2, hp2⟩ := hdep 11 (by kernel_rfl)
      obtain ⟨v3, hv3, hp3⟩ := hdep 15 (by kernel_rfl)
      obtain ⟨v4, hv4, hp4⟩ := hdep 19 (by kernel_rfl)
      have hsv : sepV x v0 v1 v2 v3 v4 := ⟨dD_sep (by omega) (by omega) (hsp 7 3 v1 v0 (by kernel_rfl) (by kernel_rfl) (by omega) hv1 hv0), dD_sep (by omega) (by omega) (hsp 7 11 v1 v2 (by kernel_rfl) (by kernel_rfl) (by omega) hv1 hv2), dD_sep (by omega) (by omega) (hsp 7 15 v1 v3 (by kernel_rfl) (by kernel_rfl) (by omega) hv1 hv3), dD_sep (by omega) (by omega) (hsp 7 19 v1 v4 (by kernel_rfl) (by kernel_rfl) (by omega) hv1 hv4)⟩
      unfold Oper.wp execOp
      clear hdep
      obtain ⟨A0, k0, rfl, hl0⟩ := psiC_form (show psiC x w0.heap.size 0 v0 w1 from hp0) (show (newsD x 0).length = x.bytes.length from List.length_map _)
      obtain ⟨A1, k1, rfl, hl1⟩ := psiC_form (show psiC x w0.heap.size 1 v1 w1 from hp1) (show (newsD x 1).length = x.host.length from List.length_map _)
      obtain ⟨A2, k2, rfl, hl2⟩ := psiC_form (show psiC x w0.heap.size 2 v2 w1 from hp2) (show (newsD x 2).length = x.mail.length from List.length_map _)
      obtain ⟨A3, k3, rfl, hl3⟩ := psiC_form (show psiC x w0.heap.size 3 v3 w1 from hp3) (show (newsD x 3).length = x.nums.length from List.length_map _)
      obtain ⟨A4, k4, rfl, hl4⟩ := psiC_form (show psiC x w0.heap.size 4 v4 w1 from hp4) (show (newsD x 4).length = x.texts.length from List.length_map _)
      simp [hv0, hv1, hv2, hv3, hv4, go_sem]
      rw [← hK]
      exact ⟨_, rfl, bl, ⟨_, _, _, _, _, rfl, hp0, hp1, hp2, hp3, hp4, hsv⟩, fun j u _ _ h => by cases h⟩
  · intro a w1 hbw hsm hall _
    obtain ⟨u, hu, hp⟩ := hall 20 (by omega)
    clear hall
    have hp' : ∃ v0 v1 v2 v3 v4, u = .agg #[v0, v1, v2, v3, v4] ∧ psiC x w0.heap.size 0 v0 w1 ∧ psiC x w0.heap.size 1 v1 w1 ∧ psiC x w0.heap.size 2 v2 w1 ∧ psiC x w0.heap.size 3 v3 w1 ∧ psiC x w0.heap.size 4 v4 w1 ∧ sepV x v0 v1 v2 v3 v4 := hp
    obtain ⟨v0, v1, v2, v3, v4, rfl, h0, h1, h2, h3, h4, hsv⟩ := hp'
    obtain ⟨A0, k0, rfl, hl0⟩ := psiC_form h0 (show (newsD x 0).length = x.bytes.length from List.length_map _)
    obtain ⟨A1, k1, rfl, hl1⟩ := psiC_form h1 (show (newsD x 1).length = x.host.length from List.length_map _)
    obtain ⟨A2, k2, rfl, hl2⟩ := psiC_form h2 (show (newsD x 2).length = x.mail.length from List.length_map _)
    obtain ⟨A3, k3, rfl, hl3⟩ := psiC_form h3 (show (newsD x 3).length = x.nums.length from List.length_map _)
    obtain ⟨A4, k4, rfl, hl4⟩ := psiC_form h4 (show (newsD x 4).length = x.texts.length from List.length_map _)
    have hq2 : a.tmps[2]? = some (.pointer (some ⟨w.heap.size + 1, 0, none⟩)) := (hsm.other 2 (fun j _ e => by have e' : j + 3 = 2 := e; omega)).trans rfl
    have hd1 := (hbw.block _ (Array.getElem?_eq_some_iff.1 HD.out).1).trans HD.out
    have x0 : w1.cell? ⟨w.heap.size + 1, 0, none⟩ = some (.slice none 0 0) := (cell_of_row _ _ _ _ _ _ hd1).trans rfl
    have x1 : w1.cell? ⟨w.heap.size + 1, 1, none⟩ = some (.slice none 0 0) := (cell_of_row _ _ _ _ _ _ hd1).trans rfl
    have x2 : w1.cell? ⟨w.heap.size + 1, 2, none⟩ = some (.slice none 0 0) := (cell_of_row _ _ _ _ _ _ hd1).trans rfl
    have x3 : w1.cell? ⟨w.heap.size + 1, 3, none⟩ = some (.slice none 0 0) := (cell_of_row _ _ _ _ _ _ hd1).trans rfl
    have x4 : w1.cell? ⟨w.heap.size + 1, 4, none⟩ = some (.slice none 0 0) := (cell_of_row _ _ _ _ _ _ hd1).trans rfl
    have f1 : ∀ k, w1.frozen? ⟨w.heap.size + 1, k, none⟩ = false := fun k => frozen_of_row _ _ _ _ _ hd1
    refine wpOp_plain rfl rfl ?_
    unfold Oper.wp execOp
    have hu' : a.tmps[23]? = some (.agg #[.slice A0 x.bytes.length k0, .slice A1 x.host.length k1, .slice A2 x.mail.length k2, .slice A3 x.nums.length k3, .slice A4 x.texts.length k4]) := hu
    simp [hu', hq2, go_sem, x0, x1, x2, x3, x4, f1]
    obtain ⟨w2, hw2⟩ : ∃ w2, w2 = ((((w1.setCell ⟨w.heap.size + 1, 0, none⟩ (.slice A0 x.bytes.length k0)).setCell ⟨w.heap.size + 1, 1, none⟩ (.slice A1 x.host.length k1)).setCell ⟨w.heap.size + 1, 2, none⟩ (.slice A2 x.mail.length k2)).setCell ⟨w.heap.size + 1, 3, none⟩ (.slice A3 x.nums.length k3)).setCell ⟨w.heap.size + 1, 4, none⟩ (.slice A4 x.texts.length k4) := ⟨_, rfl⟩
    have hd2 : w2.heap[w.heap.size + 1]? = some (.cells #[.slice A0 x.bytes.length k0, .slice A1 x.host.length k1, .slice A2 x.mail.length k2, .slice A3 x.nums.length k3, .slice A4 x.texts.length k4] 46 (0, 0)) := by
      rw [hw2]
      exact (heap_setCell_same _ _ _ _ _ _ (heap_setCell_same _ _ _ _ _ _ (heap_setCell_same _ _ _ _ _ _ (heap_setCell_same _ _ _ _ _ _ (heap_setCell_same _ _ _ _ _ _ hd1))))).trans rfl
    have hc2 : Chg (fun k => k = w.heap.size + 1) w1 w2 := by
      rw [hw2]
      have h1 : ∀ {u : World} (j : Nat) (v : Value), Chg (fun k => k = w.heap.size + 1) w1 u → Chg (fun k => k = w.heap.size + 1) w1 (u.setCell ⟨w.heap.size + 1, j, none⟩ v) := fun j v h => h.setCell (p := ⟨w.heap.size + 1, j, none⟩) (Or.inl rfl) v
      exact h1 _ _ (h1 _ _ (h1 _ _ (h1 _ _ (h1 _ _ (Chg.refl _ w1)))))
    rw [← hw2]
    clear hw2 x0 x1 x2 x3 x4 hu' hp hu
    have hx : ∀ j : Nat, w2.cell? ⟨w.heap.size + 1, j, none⟩ = (#[.slice A0 x.bytes.length k0, .slice A1 x.host.length k1, .slice A2 x.mail.length k2, .slice A3 x.nums.length k3, .slice A4 x.texts.length k4] : Array Value)[j]? := fun j => cell_of_row _ _ _ _ _ _ hd2
    have x0 : w2.cell? ⟨w.heap.size + 1, 0, none⟩ = some (.slice A0 x.bytes.length k0) := hx 0
    have x1 : w2.cell? ⟨w.heap.size + 1, 1, none⟩ = some (.slice A1 x.host.length k1) := hx 1
    have x2 : w2.cell? ⟨w.heap.size + 1, 2, none⟩ = some (.slice A2 x.mail.length k2) := hx 2
    have x3 : w2.cell? ⟨w.heap.size + 1, 3, none⟩ = some (.slice A3 x.nums.length k3) := hx 3
    have x4 : w2.cell? ⟨w.heap.size + 1, 4, none⟩ = some (.slice A4 x.texts.length k4) := hx 4
    have hz0 : w.heap.size + 1 < w0.heap.size := (Array.getElem?_eq_some_iff.1 HD.out).1
    have hkeep : ∀ {e : TypeId} {v : Value} {n : Nat} {xs : List Value}, w1.ownsRow w0.heap.size e 1 v n xs → w2.ownsRow w.heap.size e 1 v n xs := fun {e v n xs} h => by
      refine ⟨h.1, ?_⟩
      rcases h.2 with h0 | ⟨g, cap, cur, e1, h2, h3, h4⟩
      · exact .inl h0
      · exact .inr ⟨g, cap, cur, e1, by omega, hc2.heap h3 (by omega), h4⟩
    have hbA : Below w.heap.size w w2 := nx hb0 hbw |>.trans (hc2.below (fun k hk => by omega) (by have := hbw.size; omega))
    have hX := HX.out
    go_wp2
    refine bodyPost_ret (v := dsV ⟨A0, A1, A2, A3, A4, k0, k1, k2, k3, k4⟩ x) ?_ hsm.defers ⟨_, rfl, ⟨_, rfl, ⟨?_, ?_, ?_, ?_, ?_, hsv⟩⟩, hbA⟩
    · simp [results, Try.results105, go_sem, hq2, x0, x1, x2, x3, x4]
      rfl
    · have := hkeep h0
      rw [show (newsD x 0).length = x.bytes.length from List.length_map _] at this
      exact this
    · have := hkeep h1
      rw [show (newsD x 1).length = x.host.length from List.length_map _] at this
      exact own_strs this (strs_max hX.h)
    · have := hkeep h2
      rw [show (newsD x 2).length = x.mail.length from List.length_map _] at this
      exact own_strs this (strs_max hX.m)
    · have := hkeep h3
      rw [show (newsD x 3).length = x.nums.length from List.length_map _] at this
      exact own_ints this (ints_max hX.n)
    · have := hkeep h4
      rw [show (newsD x 4).length = x.texts.length from List.length_map _] at this
      exact own_strs this (strs_max hX.t)
theorem ownData_any (s : DS) (x : Da) (w : World) (hx : DRd w s x) (hbd : x.bytes.length ≤ 8796093022208 ∧ x.host.length ≤ 8796093022208 ∧ x.mail.length ≤ 8796093022208 ∧ x.nums.length ≤ 8796093022208 ∧ x.texts.length ≤ 8796093022208) :
    Calls Try.prog 105 #[dsV s x] w (RetP (fun v w' => ∃ s', v = dsV s' x ∧ DOwn w' w.heap.size s' x) w) := ownData_big s x w hx ⟨Nat.le_trans hbd.1 (by decide), hbd.2⟩
end Go.Proofs.Ytimkdpkhdbiniaa

/- rdata: what a reader says of bytes, in plain Lean. -/
namespace Go.Proofs.Ytimkdpkhdbiniaa

/-- A type's shape. -/
structure Shp where
  bytes : Int
  host : Bool
  mail : Bool
  short : Bool
  nums : Int
  size : Int
  texts : Bool
  first : Bool
def shpA : Shp := ⟨4, false, false, false, 0, 0, false, false⟩
def shpT : Shp := ⟨0, false, false, false, 0, 0, true, false⟩
def shpQ : Shp := ⟨16, false, false, false, 0, 0, false, false⟩
def shpN : Shp := ⟨0, true, false, true, 0, 0, false, false⟩
def shpM : Shp := ⟨0, true, false, true, 1, 2, false, true⟩
def shpS : Shp := ⟨0, true, true, true, 5, 4, false, false⟩
def shpV3 : Shp := ⟨0, true, false, false, 3, 2, false, true⟩
def shpB : Shp := ⟨-1, false, false, false, 0, 0, false, false⟩
/-- The shape of a type. -/
def shapeP (k : Int) : Shp :=
  if k = 1 then shpA else if k = 28 then shpQ else if k = 2 ∨ k = 5 ∨ k = 12 then shpN else if k = 15 then shpM else if k = 6 then shpS else if k = 33 then shpV3 else if k = 16 then shpT else shpB
theorem shape_cases (k : Int) : shapeP k = shpA ∨ shapeP k = shpQ ∨ shapeP k = shpN ∨ shapeP k = shpM ∨ shapeP k = shpS ∨ shapeP k = shpV3 ∨ shapeP k = shpT ∨ shapeP k = shpB := by
  unfold shapeP
  split
  · exact .inl rfl
  split
  · exact .inr (.inl rfl)
  split
  · exact .inr (.inr (.inl rfl))
  split
  · exact .inr (.inr (.inr (.inl rfl)))
  split
  · exact .inr (.inr (.inr (.inr (.inl rfl))))
  split
  · exact .inr (.inr (.inr (.inr (.inr (.inl rfl)))))
  split
  · exact .inr (.inr (.inr (.inr (.inr (.inr (.inl rfl))))))
  · exact .inr (.inr (.inr (.inr (.inr (.inr (.inr rfl))))))

/-- A number: it, and the place behind it; or the error that is given up with. -/
def numR (b : List UInt8) (pos en size : Nat) : Except Int (Nat × Nat) := if en < pos + size then .error 3 else .ok (val ((b.drop pos).take size), pos + size)
def nameX (b : List UInt8) (pos en : Nat) : Except Int (List (List UInt8) × Nat) :=
  if (getP b pos pos 0 []).2.2 = 0 then (if en < (getP b pos pos 0 []).2.1.toNat then .error 3 else .ok ((getP b pos pos 0 []).1, (getP b pos pos 0 []).2.1.toNat)) else .error (getP b pos pos 0 []).2.2
def bytesR (b : List UInt8) (pos en n : Nat) : Except Int (List UInt8 × Nat) := if en < pos + n then .error 3 else .ok ((b.drop pos).take n, pos + n)
/-- So many numbers more, behind those that are there. -/
def numsR (b : List UInt8) (en size : Nat) : Nat → Nat → List Int → Except Int (List Int × Nat)
  | 0, pos, acc => .ok (acc, pos)
  | k + 1, pos, acc => match numR b pos en size with
    | .error e => .error e
    | .ok (n, q) => numsR b en size k q (acc ++ [(n : Int)])
/-- All texts that are left; at most so many more. -/
def textsR (b : List UInt8) (en : Nat) : Nat → Nat → List (List UInt8) → Except Int (List (List UInt8) × Nat)
  | 0, pos, acc => if pos < en then .error 4 else if acc.length = 0 then .error 2 else .ok (acc, pos)
  | k + 1, pos, acc => if pos < en then
      (match numR b pos en 1 with
      | .error e => .error e
      | .ok (n, q) => match bytesR b q en n with
        | .error e => .error e
        | .ok (t, r) => textsR b en k r (acc ++ [t]))
    else if acc.length = 0 then .error 2 else .ok (acc, pos)
def Da.zero : Da := ⟨[], [], [], [], []⟩

theorem getP_nn (b : List UInt8) (a g n : Nat) (ls : List (List UInt8)) : 0 ≤ (getP b a g n ls).2.1 := by
  fun_induction getP b a g n ls <;> first | assumption | (simp only; omega)
theorem numR_le {b : List UInt8} {pos en size n q : Nat} (h : numR b pos en size = .ok (n, q)) : pos + size = q ∧ q ≤ en := by
  unfold numR at h
  split at h
  · cases h
  · injection h with h
    injection h with h1 h2
    omega
theorem bytesR_le {b l : List UInt8} {pos en n q : Nat} (h : bytesR b pos en n = .ok (l, q)) : pos + n = q ∧ q ≤ en := by
  unfold bytesR at h
  split at h
  · cases h
  · injection h with h
    injection h with h1 h2
    omega
theorem nameX_le {b : List UInt8} {pos en q : Nat} {n : List (List UInt8)} (h : nameX b pos en = .ok (n, q)) : q ≤ en := by
  unfold nameX at h
  split at h
  · split at h
    · cases h
    · injection h with h
      injection h with h1 h2
      omega
  · cases h
theorem numsR_le {b : List UInt8} {en size : Nat} {l : List Int} {q : Nat} : ∀ {k pos : Nat} {acc : List Int}, pos ≤ en → numsR b en size k pos acc = .ok (l, q) → q ≤ en
  | 0, pos, acc, hp, h => by
    injection h with h
    injection h with h1 h2
    omega
  | k + 1, pos, acc, hp, h => by
    rw [numsR] at h
    cases hn : numR b pos en size with
    | error e => rw [hn] at h; cases h
    | ok r =>
      obtain ⟨n, p⟩ := r
      rw [hn] at h
      exact numsR_le (numR_le hn).2 h
theorem textsR_le {b : List UInt8} {en : Nat} {l : List (List UInt8)} {q : Nat} : ∀ {k pos : Nat} {acc : List (List UInt8)}, pos ≤ en → textsR b en k pos acc = .ok (l, q) → q = en
  | 0, pos, acc, hp, h => by
    rw [textsR] at h
    split at h
    · cases h
    · split at h
      · cases h
      · injection h with h
        injection h with h1 h2
        omega
  | k + 1, pos, acc, hp, h => by
    rw [textsR] at h
    split at h
    · cases hn : numR b pos en 1 with
      | error e => rw [hn] at h; cases h
      | ok r =>
        obtain ⟨n, p⟩ := r
        rw [hn] at h
        simp only at h
        cases hb : bytesR b p en n with
        | error e => rw [hb] at h; cases h
        | ok r2 =>
          obtain ⟨t, p2⟩ := r2
          rw [hb] at h
          exact textsR_le (bytesR_le hb).2 h
    · split at h
      · cases h
      · injection h with h
        injection h with h1 h2
        omega
theorem numR_get {b : List UInt8} {pos en size : Nat} (h1 : 1 ≤ size) (h7 : size ≤ 7) (hp : pos ≤ en) (he : en ≤ b.length) : getN (b.take en) (pos : Int) (size : Int) = match numR b pos en size with | .error e => (0, e) | .ok (n, _) => ((n : Int), 0) := by
  unfold getN numR
  rw [if_neg (by omega), List.length_take, Nat.min_eq_left he]
  by_cases h : en < pos + size
  · rw [if_pos (by omega), if_pos h]
  · rw [if_neg (by omega), if_neg h]
    simp only [Int.toNat_natCast]
    rw [List.drop_take, List.take_take, Nat.min_eq_left (by omega)]
theorem numR_err {b : List UInt8} {pos en size : Nat} {e : Int} (h : numR b pos en size = .error e) : e = 3 ∧ en < pos + size := by
  unfold numR at h
  split at h
  · injection h with h
    exact ⟨h.symm, by assumption⟩
  · cases h
theorem bytesR_err {b : List UInt8} {pos en size : Nat} {e : Int} (h : bytesR b pos en size = .error e) : e = 3 ∧ en < pos + size := by
  unfold bytesR at h
  split at h
  · injection h with h
    exact ⟨h.symm, by assumption⟩
  · cases h

/-- What a type says: the parts one behind the other. -/
def dataR (b : List UInt8) (pos en : Nat) (s : Shp) : Except Int (Da × Nat) :=
  if s.bytes = 4 then (match bytesR b pos en 4 with | .error e => .error e | .ok (x, q) => .ok ({ Da.zero with bytes := x }, q))
  else if s.bytes = 16 then (match bytesR b pos en 16 with | .error e => .error e | .ok (x, q) => .ok ({ Da.zero with bytes := x }, q))
  else if s.bytes < 0 then (match bytesR b pos en (en - pos) with | .error e => .error e | .ok (x, q) => .ok ({ Da.zero with bytes := x }, q))
  else if s.texts = true then (match textsR b en 64 pos [] with | .error e => .error e | .ok (x, q) => .ok ({ Da.zero with texts := x }, q))
  else if s.first = true then
    (match numsR b en s.size.toNat s.nums.toNat pos [] with
    | .error e => .error e
    | .ok (x, q) => match nameX b q en with
      | .error e => .error e
      | .ok (n, r) => .ok ({ Da.zero with nums := x, host := n }, r))
  else if s.mail = true then
    (match nameX b pos en with
    | .error e => .error e
    | .ok (n, q) => match nameX b q en with
      | .error e => .error e
      | .ok (m, r) => match numsR b en s.size.toNat s.nums.toNat r [] with
        | .error e => .error e
        | .ok (x, t) => .ok ({ Da.zero with nums := x, host := n, mail := m }, t))
  else (match nameX b pos en with | .error e => .error e | .ok (n, q) => .ok ({ Da.zero with host := n }, q))
/-- What stands at a place for a type: the data and the error. -/
def getD (b : List UInt8) (at_ size k : Int) : Da × Int :=
  if at_ < 0 ∨ size < 0 ∨ k < 1 ∨ 65535 < k then (Da.zero, 1)
  else if (b.length : Int) < at_ ∨ (b.length : Int) - at_ < size then (Da.zero, 3)
  else match dataR b at_.toNat (at_.toNat + size.toNat) (shapeP k) with
    | .error e => (Da.zero, e)
    | .ok (d, q) => if q < at_.toNat + size.toNat then (Da.zero, 7) else (d, 0)
end Go.Proofs.Ytimkdpkhdbiniaa

/- rr: records, in plain Lean; what stands at a place. -/
namespace Go.Proofs.Ytimkdpkhdbiniaa

structure RR where
  name : List (List UInt8)
  type : Int
  cls : Int
  ttl : Int
  data : Da
def RR.zero : RR := ⟨[], 0, 0, 0, Da.zero⟩
/-- A number of bytes at a place. -/
def numA (b : List UInt8) (p k : Nat) : Nat := val ((b.drop p).take k)
/-- The name at a place, as the program reads it. -/
def nameA (b : List UInt8) (a : Int) : List (List UInt8) × Int × Int := if a < 0 then ([], 0, 1) else getP b a.toNat a.toNat 0 []
theorem numA_get {b : List UInt8} {p k : Nat} (h : p + k ≤ b.length) (h1 : 1 ≤ k) (h7 : k ≤ 7) : getN b (p : Int) (k : Int) = ((numA b p k : Int), 0) := by
  unfold getN numA
  rw [if_neg (by omega), if_neg (by omega)]
  simp
theorem numA_lt {b : List UInt8} {p k : Nat} : numA b p k < 256 ^ k := by
  have h := val_lt ((b.drop p).take k)
  have h2 : 256 ^ ((b.drop p).take k).length ≤ 256 ^ k := Nat.pow_le_pow_right (by decide) (by rw [List.length_take]; omega)
  exact Nat.lt_of_lt_of_le h h2
theorem numA_2 {b : List UInt8} {p : Nat} : numA b p 2 < 65536 := numA_lt (k := 2)
theorem nameA_nn (b : List UInt8) (a : Int) : 0 ≤ (nameA b a).2.1 := by
  unfold nameA
  split
  · simp
  · exact getP_nn _ _ _ _ _
end Go.Proofs.Ytimkdpkhdbiniaa

/- num.Get and the reference's: the number at a place. -/
namespace Go.Proofs.Ytimkdpkhdbiniaa
open Go.RowKit

def RetG (r : Int × Int) (w : World) (e : Ending) (w' : World) : Prop := e = .returned (.tuple #[.int .i64 r.1, .int .i64 r.2]) ∧ w = w'

set_option maxHeartbeats 400000 in
theorem get_any (A : Option Addr) (m c : Nat) (bs : List UInt8) (p size : Int) (w : World) (hb : RdB w A m bs) (hm : m ≤ c) (hc : m ≤ 140737488355328) :
    Calls Try.prog 161 #[.slice A m c, .int .i64 p, .int .i64 size] w (RetG (getN bs p size) w) := by
  have hlb := Lib.hid hb.len
  by_cases h1 : size < 1 ∨ 7 < size ∨ p < 0
  · have hr : Hid (getN bs p size = (0, 1)) := by unfold getN; rw [if_pos h1]; rfl
    by_cases g1 : size < 1
    · clear h1
      go_enter Try.func161, Try.ntmps161
      go_wp2
      go_ret2
      exact ⟨by rw [hr.out]; rfl, rfl⟩
    · by_cases g2 : 7 < size
      · clear h1
        go_enter Try.func161, Try.ntmps161
        go_wp2
        go_ret2
        exact ⟨by rw [hr.out]; rfl, rfl⟩
      · have g3 : p < 0 := by omega
        clear h1
        go_enter Try.func161, Try.ntmps161
        go_wp2
        go_ret2
        exact ⟨by rw [hr.out]; rfl, rfl⟩
  · have g1 : 1 ≤ size := by omega
    have g2 : size ≤ 7 := by omega
    have g3 : 0 ≤ p := by omega
    obtain ⟨z, rfl⟩ := Int.eq_ofNat_of_zero_le (Int.le_trans (by decide) g1)
    obtain ⟨q, rfl⟩ := Int.eq_ofNat_of_zero_le g3
    by_cases h2 : m < q
    · have hr : Hid (getN bs q z = (0, 3)) := by unfold getN; rw [if_neg h1, if_pos (by rw [hlb.out]; omega)]; rfl
      clear h1
      go_enter Try.func161, Try.ntmps161
      go_wp2
      go_ret2
      exact ⟨by rw [hr.out]; rfl, rfl⟩
    · by_cases h3 : m - q < z
      · have hr : Hid (getN bs q z = (0, 3)) := by unfold getN; rw [if_neg h1, if_pos (by rw [hlb.out]; omega)]; rfl
        clear h1
        have h4 : (m : Int) - q < z := by omega
        go_enter Try.func161, Try.ntmps161
        go_wp2
        go_ret2
        exact ⟨by rw [hr.out]; rfl, rfl⟩
      · have hr : Hid (getN bs q z = ((val ((bs.drop q).take z) : Int), 0)) := by unfold getN; rw [if_neg h1, if_neg (by rw [hlb.out]; omega)]; rfl
        clear h1
        have h4 : ¬ (m : Int) - q < z := by omega
        obtain ⟨b, off, rfl, hcell⟩ := hb.flat (by omega)
        have HC := Lib.hid hcell
        clear hcell
        obtain ⟨seg, hseg⟩ : ∃ seg, seg = (bs.drop q).take z := ⟨_, rfl⟩
        rw [← hseg] at hr
        have hsl : Hid (seg.length = z) := by rw [hseg]; show _ = _; rw [List.length_take, List.length_drop, hlb.out]; omega
        have HS := Lib.hid hseg
        clear hseg
        go_enter Try.func161, Try.ntmps161
        go_wp2
        go_loop [8, 10, 42] (fun nn _ i => ∃ k : Nat, k ≤ z ∧ i = .int .i64 k ∧ nn = .int .i64 (val (seg.take k) : Int)) (fun _ _ i => z - (intOf i).toNat)
        case atStart => exact ⟨0, Nat.zero_le _, rfl, rfl⟩
        case round =>
          obtain ⟨k, hk, rfl, rfl⟩ := hrel
          by_cases hlt : k < z
          · obtain ⟨x, hx⟩ : ∃ x, seg[k]? = some x := ⟨_, List.getElem?_eq_getElem (by rw [hsl.out]; exact hlt)⟩
            have hxb : bs[q + k]? = some x := by
              have h := hx
              rw [HS.out, List.getElem?_take, if_pos hlt, List.getElem?_drop] at h
              exact h
            have hc1 := HC.out _ _ hxb
            rw [← Nat.add_assoc] at hc1
            have hv := val_lt_of (l := seg.take k) (k := 6) (by rw [List.length_take]; omega)
            rw [pow256_6] at hv
            have HV := Lib.hid (val_take seg k x hx)
            clear hx hxb
            obtain ⟨v, hv'⟩ : ∃ v, v = val (seg.take k) := ⟨_, rfl⟩
            rw [← hv'] at hv HV ⊢
            clear hv'
            have hx8 := x.toNat_lt
            go_wp2
            go_round
            case rel => exact ⟨k + 1, by omega, by go_num, by rw [or_byte _ _ hv hx8, HV.out]⟩
            case measure => simp [intOf]; omega
          · go_wp2
            go_ret2
            refine ⟨?_, rfl⟩
            obtain rfl : k = z := by omega
            rw [hr.out, List.take_of_length_le (by rw [hsl.out]; omega)]
            rfl
end Go.Proofs.Ytimkdpkhdbiniaa

/- wname.Get: the name at a place, as the program reads it. -/
namespace Go.Proofs.Ytimkdpkhdbiniaa
open Go.RowKit

def RetW (r : List (List UInt8) × Int × Int) (w : World) (e : Ending) (w' : World) : Prop := ∃ v, e = .returned (.tuple #[v, .int .i64 r.2.1, .int .i64 r.2.2]) ∧ OwnS w' w.heap.size v r.1 ∧ Below w.heap.size w w'

set_option maxRecDepth 100000 in
set_option maxHeartbeats 1000000 in
theorem wget_any (A : Option Addr) (m c : Nat) (bs : List UInt8) (p : Int) (w : World) (hb : RdB w A m bs) (hm : m ≤ c) (hc : m ≤ 140737488355328) :
    Calls Try.prog 164 #[.slice A m c, .int .i64 p] w (RetW (if p < 0 then ([], 0, 1) else getP bs p.toNat p.toNat 0 []) w) := by
  have hlb := hb.len
  subst hlb
  by_cases hp : p < 0
  · rw [if_pos hp]
    go_enter Try.func164, Try.ntmps164
    go_wp2
    go_ret3
    exact ⟨_, rfl, OwnE.nil _ _ _ _, bl⟩
  · rw [if_neg hp]
    obtain ⟨q, rfl⟩ := Int.eq_ofNat_of_zero_le (show 0 ≤ p by omega)
    rw [Int.toNat_natCast]
    obtain ⟨R, hR⟩ : ∃ R, R = getP bs q q 0 [] := ⟨_, rfl⟩
    rw [← hR]
    have HR := Lib.hid hR
    clear hR
    go_enter Try.func164, Try.ntmps164
    go_wp2
    go_loopw [1, 4, 5, 7, 8, 9, 10, 11, 12] (fun at_ n nx bg sz _ _ _ _ wr => ∃ (a0 b0 x0 : Nat) (ls : List (List UInt8)), at_ = .int .i64 a0 ∧ bg = .int .i64 b0 ∧ nx = .int .i64 x0 ∧ sz = .int .i64 (sizeN ls : Nat) ∧ sizeN ls ≤ 255 ∧ R = getP bs a0 b0 x0 ls ∧
        x0 ≤ bs.length + 2 ∧ OwnS wr w.heap.size n ls ∧ Below w.heap.size w wr) (fun _ _ _ bg sz _ _ _ _ _ => (intOf bg).toNat * 256 + (255 - (intOf sz).toNat))
    case atStart => exact ⟨q, q, 0, [], rfl, rfl, rfl, rfl, by simp [sizeN], HR.out, by omega, OwnE.nil _ _ _ _, bl⟩
    case round =>
      obtain ⟨a0, b0, x0, ls, rfl, rfl, rfl, rfl, hsz, hRe, hx0, hown, hbw⟩ := hrel
      have HRE := Lib.hid hRe
      clear hRe
      have hbr := hb.below hbw
      rcases hca : bs[a0]? with _ | ca
      · have hg1 := Lib.hid (getN_1n hca)
        have hl : bs.length ≤ a0 := List.getElem?_eq_none_iff.1 hca
        have hRv : Hid (R = ([], 0, 3)) := HRE.out.trans (getP_short hl)
        rw [hRv.out]
        clear hca
        go_wp2_with (go_at_call 161; refine (get_any _ _ _ bs _ _ _ hbr hm hc).mono ?_; rintro e w' ⟨he, rfl⟩; rw [hg1.out] at he; subst he)
        go_ret3
        exact ⟨_, rfl, OwnE.nil _ _ _ _, hbw⟩
      · have hg1 := getN_1s hca
        have hl : a0 < bs.length := (List.getElem?_eq_some_iff.1 hca).1
        have HCA := Lib.hid hca
        clear hca
        obtain ⟨k, hk⟩ : ∃ k, k = ca.toNat := ⟨_, rfl⟩
        have hk8 : k < 256 := by rw [hk]; exact ca.toNat_lt
        rw [← hk] at hg1
        have hg1 := Lib.hid hg1
        have HK := Lib.hid hk
        clear hk
        by_cases hk0 : k = 0
        · have hRv : Hid (R = (ls, ((max x0 (a0 + 1) : Nat) : Int), 0)) := HRE.out.trans (getP_end HCA.out (by rw [← HK.out]; exact hk0))
          subst hk0
          by_cases hx1 : x0 < a0 + 1
          · rw [show max x0 (a0 + 1) = a0 + 1 by omega] at hRv
            rw [hRv.out]
            go_wp2_with (go_at_call 161; refine (get_any _ _ _ bs _ _ _ hbr hm hc).mono ?_; rintro e w' ⟨he, rfl⟩; rw [hg1.out] at he; subst he)
            go_ret3
            exact ⟨_, rfl, hown, hbw⟩
          · rw [show max x0 (a0 + 1) = x0 by omega] at hRv
            rw [hRv.out]
            go_wp2_with (go_at_call 161; refine (get_any _ _ _ bs _ _ _ hbr hm hc).mono ?_; rintro e w' ⟨he, rfl⟩; rw [hg1.out] at he; subst he)
            go_ret3
            exact ⟨_, rfl, hown, hbw⟩
        · have e0 : ((k : Int) == 0) = false := by rw [beq_eq_false_iff_ne]; omega
          by_cases hk2 : 192 ≤ k
          · rcases hda : bs[a0 + 1]? with _ | da
            · have hg2 := Lib.hid (getN_2n HCA.out hda)
              have hl2 : bs.length ≤ a0 + 1 := List.getElem?_eq_none_iff.1 hda
              have hRv : Hid (R = ([], 0, 3)) := HRE.out.trans (getP_short2 HCA.out (by rw [← HK.out]; exact hk2) hl2)
              rw [hRv.out]
              clear hda hk0
              go_wp2_with (go_at_call 161; refine (get_any _ _ _ bs _ _ _ hbr hm hc).mono ?_; rintro e w' ⟨he, rfl⟩; first | rw [hg1.out] at he | rw [hg2.out] at he; subst he)
              go_ret3
              exact ⟨_, rfl, OwnE.nil _ _ _ _, hbw⟩
            · have hg2 := getN_2s HCA.out hda
              have hl2 : a0 + 1 < bs.length := (List.getElem?_eq_some_iff.1 hda).1
              have HDA := Lib.hid hda
              obtain ⟨t, ht⟩ : ∃ t, t = ca.toNat * 256 + da.toNat := ⟨_, rfl⟩
              have ht6 : t < 65536 := by have := ca.toNat_lt; have := da.toNat_lt; omega
              rw [← ht] at hg2
              have hg2 := Lib.hid hg2
              have HT := Lib.hid ht
              have hand := and_16383 t (by omega)
              obtain ⟨u, hu⟩ : ∃ u, u = t % 16384 := ⟨_, rfl⟩
              rw [← hu] at hand
              have hu2 : u < 16384 := by omega
              have HU := Lib.hid hu
              clear hda hk0 ht hu
              by_cases hub : u < b0
              · have hRv : Hid (R = getP bs u u (max x0 (a0 + 2)) ls) := HRE.out.trans (by
                  have h := getP_ptr (nx := x0) (ls := ls) (beg := b0) HCA.out (by rw [← HK.out]; exact hk2) HDA.out (by rw [← HT.out, ← HU.out]; exact hub)
                  rw [← HT.out, ← HU.out] at h; exact h)
                by_cases hx1 : x0 < a0 + 2
                · rw [show max x0 (a0 + 2) = a0 + 2 by omega] at hRv
                  go_wp2_with (go_at_call 161; refine (get_any _ _ _ bs _ _ _ hbr hm hc).mono ?_; rintro e w' ⟨he, rfl⟩; first | rw [hg1.out] at he | rw [hg2.out] at he; subst he)
                  go_roundw
                  case rel => exact ⟨u, u, a0 + 2, ls, rfl, rfl, rfl, rfl, hsz, hRv.out, by omega, hown, hbw⟩
                  case measure => simp [intOf]; omega
                · rw [show max x0 (a0 + 2) = x0 by omega] at hRv
                  go_wp2_with (go_at_call 161; refine (get_any _ _ _ bs _ _ _ hbr hm hc).mono ?_; rintro e w' ⟨he, rfl⟩; first | rw [hg1.out] at he | rw [hg2.out] at he; subst he)
                  go_roundw
                  case rel => exact ⟨u, u, x0, ls, rfl, rfl, rfl, rfl, hsz, hRv.out, by omega, hown, hbw⟩
                  case measure => simp [intOf]; omega
              · have hRv : Hid (R = ([], 0, 6)) := HRE.out.trans (getP_loop HCA.out (by rw [← HK.out]; exact hk2) HDA.out (by rw [← HT.out, ← HU.out]; exact hub))
                rw [hRv.out]
                by_cases hx1 : x0 < a0 + 2
                · go_wp2_with (go_at_call 161; refine (get_any _ _ _ bs _ _ _ hbr hm hc).mono ?_; rintro e w' ⟨he, rfl⟩; first | rw [hg1.out] at he | rw [hg2.out] at he; subst he)
                  go_ret3
                  exact ⟨_, rfl, OwnE.nil _ _ _ _, hbw⟩
                · go_wp2_with (go_at_call 161; refine (get_any _ _ _ bs _ _ _ hbr hm hc).mono ?_; rintro e w' ⟨he, rfl⟩; first | rw [hg1.out] at he | rw [hg2.out] at he; subst he)
                  go_ret3
                  exact ⟨_, rfl, OwnE.nil _ _ _ _, hbw⟩
          · by_cases hk3 : 63 < k
            · have hRv : Hid (R = ([], 0, 5)) := HRE.out.trans (getP_name HCA.out (by rw [← HK.out]; exact hk3) (by rw [← HK.out]; omega))
              rw [hRv.out]
              clear hk0
              go_wp2_with (go_at_call 161; refine (get_any _ _ _ bs _ _ _ hbr hm hc).mono ?_; rintro e w' ⟨he, rfl⟩; rw [hg1.out] at he; subst he)
              go_ret3
              exact ⟨_, rfl, OwnE.nil _ _ _ _, hbw⟩
            · by_cases hk4 : bs.length < a0 + 1 + k
              · have hRv : Hid (R = ([], 0, 3)) := HRE.out.trans (getP_cut HCA.out (by rw [← HK.out]; exact hk0) (by rw [← HK.out]; omega) (by rw [← HK.out]; exact hk4))
                rw [hRv.out]
                clear hk0
                go_wp2_with (go_at_call 161; refine (get_any _ _ _ bs _ _ _ hbr hm hc).mono ?_; rintro e w' ⟨he, rfl⟩; rw [hg1.out] at he; subst he)
                go_ret3
                exact ⟨_, rfl, OwnE.nil _ _ _ _, hbw⟩
              · by_cases hk5 : 255 < sizeN ls + 1 + k
                · have hRv : Hid (R = ([], 0, 5)) := HRE.out.trans (getP_long HCA.out (by rw [← HK.out]; exact hk0) (by rw [← HK.out]; omega) (by rw [← HK.out]; omega) (by rw [← HK.out]; exact hk5))
                  rw [hRv.out]
                  clear hk0
                  go_wp2_with (go_at_call 161; refine (get_any _ _ _ bs _ _ _ hbr hm hc).mono ?_; rintro e w' ⟨he, rfl⟩; rw [hg1.out] at he; subst he)
                  go_ret3
                  exact ⟨_, rfl, OwnE.nil _ _ _ _, hbw⟩
                · have hRv : Hid (R = getP bs (a0 + 1 + k) b0 x0 (ls ++ [(bs.drop (a0 + 1)).take k])) := HRE.out.trans (by
                    have h := getP_label (nx := x0) (ls := ls) (beg := b0) HCA.out (by rw [← HK.out]; exact hk0) (by rw [← HK.out]; omega) (by rw [← HK.out]; omega) (by rw [← HK.out]; omega)
                    rw [← HK.out] at h; exact h)
                  have hk1 : 1 ≤ k := by omega
                  clear hk0
                  obtain ⟨b, off, rfl, _⟩ := hb.flat (by omega)
                  have hcut := hbr.cut (i := a0 + 1) (k := k) (by omega)
                  obtain ⟨seg, hseg⟩ : ∃ seg, seg = (bs.drop (a0 + 1)).take k := ⟨_, rfl⟩
                  rw [← hseg] at hcut hRv
                  have hsl : seg.length = k := hcut.len
                  have hcv := conv_str (P := Try.prog) _ _ _ Try.underlying22 Try.underlying5 Try.underlying9 wr (some ⟨b, off + (a0 + 1), none⟩) k (c - (a0 + 1)) seg hcut
                  have hsn := sizeN_snoc ls seg
                  have hll := sizeN_length ls
                  have HSL := Lib.hid hsl
                  have HSN := Lib.hid hsn
                  clear hseg hsl hsn hcut
                  go_wp2_with (first
                    | (go_at_call 161; refine (get_any _ _ _ bs _ _ _ hbr hm hc).mono ?_; rintro e w' ⟨he, rfl⟩; rw [hg1.out] at he; subst he)
                    | ((with_reducible show wpList _ _ _ (⟨some 39, _, _, _, _, _⟩ :: _) _ _); refine wpL_pushS rfl (.tmp 28) (.tmp 38) rfl w.heap.size _ ls rfl hown seg ?hy rfl ?hb hbw.size ?_; rotate_right; intro v2 w2 hown2 hg2 _))
                  case hy => rw [HSL.out]; unfold maxLen; omega
                  case hb => omega
                  go_roundw
                  case rel => exact ⟨a0 + 1 + k, b0, x0, ls ++ [seg], by go_num, rfl, rfl, by rw [HSN.out, HSL.out]; go_num, by rw [HSN.out, HSL.out]; omega, hRv.out, hx0, hown2, hbw.grown hg2 hbw.size (fun j hj => (hown.lt j hj).1)⟩
                  case measure => simp [intOf]; omega
end Go.Proofs.Ytimkdpkhdbiniaa

/- rdata: the reader's parts, whatever the bytes: num, name, bytes. -/
namespace Go.Proofs.Ytimkdpkhdbiniaa
open Go.RowKit
set_option maxRecDepth 100000

def shpV (s : Shp) : Value := .agg #[.int .i64 s.bytes, .bool s.host, .bool s.mail, .bool s.short, .int .i64 s.nums, .int .i64 s.size, .bool s.texts, .bool s.first]
/-- A reader, in its block. -/
def Rdr (w : World) (p : Nat) (v : Value) (pos en : Int) : Prop := w.heap[p]? = some (.cells #[v, .int .i64 pos, .int .i64 en] 213 (0, 0))
section
variable {w w' : World} {p : Nat} {v : Value} {pos en : Int}
theorem Rdr.cells (h : Rdr w p v pos en) : w.cell? ⟨p, 0, none⟩ = some v ∧ w.cell? ⟨p, 1, none⟩ = some (.int .i64 pos) ∧ w.cell? ⟨p, 2, none⟩ = some (.int .i64 en) ∧ ∀ k, w.frozen? ⟨p, k, none⟩ = false :=
  ⟨(cell_of_row _ _ _ _ _ _ h).trans rfl, (cell_of_row _ _ _ _ _ _ h).trans rfl, (cell_of_row _ _ _ _ _ _ h).trans rfl, fun _ => frozen_of_row _ _ _ _ _ h⟩
theorem Rdr.lt (h : Rdr w p v pos en) : p < w.heap.size := (Array.getElem?_eq_some_iff.1 h).1
theorem Rdr.below (h : Rdr w p v pos en) (hb : Below w.heap.size w w') : Rdr w' p v pos en := (hb.block p h.lt).trans h
theorem Rdr.move (h : Rdr w p v pos en) (q : Int) : Rdr (w.setCell ⟨p, 1, none⟩ (.int .i64 q)) p v q en := (heap_setCell_same _ _ _ _ _ _ h).trans rfl
end
/-- The panic with an error. -/
def pnc (x : Int) : List PanicEntry := [{ v := .iface 34 (.int .i64 x), recovered := false }]
/-- A reader's call: it says what the plain law says, or gives up with its error. -/
def RdX {α : Type} (r : Except Int (α × Nat)) (good : Value → World → α → Prop) (w : World) (p : Nat) (bv : Value) (en : Nat) (e : Ending) (w' : World) : Prop :=
  match r with
  | .ok (a, q) => ∃ v, e = .returned v ∧ good v w' a ∧ Rdr w' p bv (q : Int) (en : Int) ∧ Chg (fun k => k = p) w w'
  | .error x => e = .panicked (pnc x) ∧ Chg (fun k => k = p) w w'
/-- The bytes do not lie in the reader's block. -/
def offA (A : Option Addr) (p : Nat) : Prop := ∀ b off, A = some ⟨b, off, none⟩ → b ≠ p
theorem RdB.chgP {w w' : World} {A : Option Addr} {n p : Nat} {bs : List UInt8} (h : RdB w A n bs) (hc : Chg (fun k => k = p) w w') (ho : offA A p) : RdB w' A n bs := h.chg hc fun b off e e2 => ho b off e e2

set_option maxHeartbeats 1000000 in
theorem gnum_any (w : World) (p : Nat) (A : Option Addr) (n c pos en size : Nat) (bs : List UInt8) (h : Rdr w p (.slice A n c) (pos : Int) (en : Int)) (hr : RdB w A n bs) (hpe : pos ≤ en) (hen : en ≤ n) (hn : n ≤ c) (hn2 : n ≤ 100000000) (hs1 : 1 ≤ size) (hs7 : size ≤ 7) :
    Calls Try.prog 204 #[.pointer (some ⟨p, 0, none⟩), .int .i64 (size : Int)] w (RdX (numR bs pos en size) (fun v _ a => v = .int .i64 (a : Int)) w p (.slice A n c) en) := by
  obtain ⟨c0, c1, c2, f0⟩ := h.cells
  have H := Lib.hid h
  have hl := hr.len
  have hg := numR_get (b := bs) hs1 hs7 hpe (by omega)
  have HR := Lib.hid (hr.take hen)
  clear h hr
  have hi1 : (0 : Int) ≤ en := by omega
  have hi2 : (en : Int) ≤ c := by omega
  cases hx : numR bs pos en size with
  | error x =>
    rw [hx] at hg
    obtain ⟨rfl, _⟩ := numR_err hx
    have HG := Lib.hid hg
    clear hg hx
    go_enter Try.func204, Try.ntmps204
    go_wp2
    go_region_held3 (fun w' => w'.cell? ⟨p, 0, none⟩ = some (.slice A n c) ∧ w'.cell? ⟨p, 1, none⟩ = some (.int .i64 (pos : Int)) ∧ w'.cell? ⟨p, 2, none⟩ = some (.int .i64 (en : Int)))
      (first
        | with_reducible exact ⟨c0, c1, c2⟩
        | with_reducible exact ⟨below_cell bl.drew c0, below_cell bl.drew c1, below_cell bl.drew c2⟩
        | with_reducible exact ⟨y0, y1, y2⟩
        | fail)
      (first
        | (go_at_call 161; refine (get_any A en c (bs.take en) (pos : Int) (size : Int) w.drew (HR.out.below bl.drew) (by omega) (by omega)).mono ?_; rw [HG.out]; rintro e w2 ⟨rfl, rfl⟩)
        | fail)
    go_wp2
    exact ⟨rfl, rfl, (Chg.refl (fun k => k = p) w).drew⟩
  | ok r =>
    obtain ⟨m, q⟩ := r
    rw [hx] at hg
    obtain ⟨rfl, hq⟩ := numR_le hx
    have HG := Lib.hid hg
    clear hg hx
    go_enter Try.func204, Try.ntmps204
    go_wp2
    go_region_held3 (fun w' => w'.cell? ⟨p, 0, none⟩ = some (.slice A n c) ∧ w'.cell? ⟨p, 1, none⟩ = some (.int .i64 (pos : Int)) ∧ w'.cell? ⟨p, 2, none⟩ = some (.int .i64 (en : Int)))
      (first
        | with_reducible exact ⟨c0, c1, c2⟩
        | with_reducible exact ⟨below_cell bl.drew c0, below_cell bl.drew c1, below_cell bl.drew c2⟩
        | with_reducible exact ⟨y0, y1, y2⟩
        | fail)
      (first
        | (go_at_call 161; refine (get_any A en c (bs.take en) (pos : Int) (size : Int) w.drew (HR.out.below bl.drew) (by omega) (by omega)).mono ?_; rw [HG.out]; rintro e w2 ⟨rfl, rfl⟩)
        | fail)
    go_wp2
    go_ret
    rw [show ((pos : Int) + size) = ((pos + size : Nat) : Int) by omega]
    exact ⟨_, rfl, rfl, (H.out.below bl.drew).move _, (Chg.refl (fun k => k = p) w).drew.setCell (p := ⟨p, 1, none⟩) (Or.inl rfl) _⟩
end Go.Proofs.Ytimkdpkhdbiniaa

/- rdata: the reader's parts, whatever the bytes: name, bytes. -/
namespace Go.Proofs.Ytimkdpkhdbiniaa
open Go.RowKit
set_option maxRecDepth 100000

theorem own_noP {w0 w : World} {v : Value} {ns : List (List UInt8)} {p : Nat} (h : OwnS w w0.heap.size v ns) (hp : p < w0.heap.size) : ∀ z, v.ownBlock = some z → ¬ z = p := fun z hz e => by have := (OwnE.lt h z hz).1; omega

set_option maxHeartbeats 1000000 in
theorem gname_any (w : World) (p : Nat) (A : Option Addr) (n c pos en : Nat) (bs : List UInt8) (h : Rdr w p (.slice A n c) (pos : Int) (en : Int)) (hr : RdB w A n bs) (hn : n ≤ c) (hn2 : n ≤ 100000000) :
    Calls Try.prog 203 #[.pointer (some ⟨p, 0, none⟩)] w (RdX (nameX bs pos en) (fun v w' a => OwnS w' w.heap.size v a) w p (.slice A n c) en) := by
  obtain ⟨c0, c1, c2, f0⟩ := h.cells
  have H := Lib.hid h
  have HR := Lib.hid hr
  have hpl := h.lt
  have hwg : ∀ w1 : World, RdB w1 A n bs → Calls Try.prog 164 #[.slice A n c, .int .i64 (pos : Int)] w1 (RetW (getP bs pos pos 0 []) w1) := fun w1 h1 => by
    have := wget_any A n c bs (pos : Int) w1 h1 hn (by omega)
    rwa [if_neg (by omega), Int.toNat_natCast] at this
  have HW := Lib.hid hwg
  clear h hr hwg
  unfold nameX
  have hnn := getP_nn bs pos pos 0 []
  obtain ⟨⟨ls, nx', er⟩, hg⟩ : ∃ g, g = getP bs pos pos 0 [] := ⟨_, rfl⟩
  rw [← hg] at HW hnn ⊢
  clear hg
  simp only at hnn ⊢
  by_cases he : er = 0
  · subst he
    rw [if_pos rfl]
    by_cases hlt : en < nx'.toNat
    · have h1 : (en : Int) < nx' := by omega
      rw [if_pos hlt]
      go_enter Try.func203, Try.ntmps203
      go_wp2
      go_region_held3 (fun w' => w'.cell? ⟨p, 0, none⟩ = some (.slice A n c) ∧ w'.cell? ⟨p, 1, none⟩ = some (.int .i64 (pos : Int)))
        (first
          | with_reducible exact ⟨c0, c1⟩
          | with_reducible exact ⟨below_cell bl.drew c0, below_cell bl.drew c1⟩
          | with_reducible exact ⟨y0, y1⟩
          | fail)
        (first
          | (go_at_call 164; refine (HW.out w.drew (HR.out.below bl.drew)).mono ?_; rintro e w2 ⟨v2, rfl, hown2, hb2'⟩; have hb2 : Below w.heap.size w w2 := bl.drew.trans hb2'; have y0 := below_cell hb2 c0; have y1 := below_cell hb2 c1)
          | fail)
      have z2 := below_cell hb2 c2
      go_wp2
      exact ⟨rfl, rfl, Chg.of_below hb2⟩
    · rw [if_neg hlt]
      · obtain ⟨q, rfl⟩ := Int.eq_ofNat_of_zero_le hnn
        rw [Int.toNat_natCast] at hlt ⊢
        have h1 : ¬ (en : Int) < (q : Int) := by omega
        go_enter Try.func203, Try.ntmps203
        go_wp2
        go_region_held3 (fun w' => w'.cell? ⟨p, 0, none⟩ = some (.slice A n c) ∧ w'.cell? ⟨p, 1, none⟩ = some (.int .i64 (pos : Int)))
          (first
            | with_reducible exact ⟨c0, c1⟩
            | with_reducible exact ⟨below_cell bl.drew c0, below_cell bl.drew c1⟩
            | with_reducible exact ⟨y0, y1⟩
            | fail)
          (first
            | (go_at_call 164; refine (HW.out w.drew (HR.out.below bl.drew)).mono ?_; rintro e w2 ⟨v2, rfl, hown2, hb2'⟩; have hb2 : Below w.heap.size w w2 := bl.drew.trans hb2'; have y0 := below_cell hb2 c0; have y1 := below_cell hb2 c1)
            | fail)
        have z2 := below_cell hb2 c2
        have fz := (H.out.below hb2).cells.2.2.2
        have hch : Chg (fun k => k = p) w2 (w2.setCell ⟨p, 1, none⟩ (.int .i64 (q : Int))) := chg_g1 _ _ _ _
        go_wp2
        go_ret
        exact ⟨_, rfl, OwnE.chg hown2 hch (own_noP (w0 := w) hown2 hpl) (fun _ hz => hz.elim), (H.out.below hb2).move _, (Chg.of_below (F := fun k => k = p) hb2).trans hch (fun _ h => .inl h)⟩
  · rw [if_neg he]
    go_enter Try.func203, Try.ntmps203
    go_wp2
    go_region_held3 (fun w' => w'.cell? ⟨p, 0, none⟩ = some (.slice A n c) ∧ w'.cell? ⟨p, 1, none⟩ = some (.int .i64 (pos : Int)))
      (first
        | with_reducible exact ⟨c0, c1⟩
        | with_reducible exact ⟨below_cell bl.drew c0, below_cell bl.drew c1⟩
        | with_reducible exact ⟨y0, y1⟩
        | fail)
      (first
        | (go_at_call 164; refine (HW.out w.drew (HR.out.below bl.drew)).mono ?_; rintro e w2 ⟨v2, rfl, hown2, hb2'⟩; have hb2 : Below w.heap.size w w2 := bl.drew.trans hb2'; have y0 := below_cell hb2 c0; have y1 := below_cell hb2 c1)
        | fail)
    have z2 := below_cell hb2 c2
    go_wp2
    exact ⟨rfl, rfl, Chg.of_below hb2⟩
end Go.Proofs.Ytimkdpkhdbiniaa

/- rdata: the reader's bytes, whatever they are. -/
namespace Go.Proofs.Ytimkdpkhdbiniaa
open Go.RowKit
set_option maxRecDepth 100000

theorem cutA {w : World} {A : Option Addr} {n c i k : Nat} {bs : List UInt8} (h : RdB w A n bs) (hk : i + k ≤ n) (hc : n ≤ c) : RdB w (if c = i then A else A.map (·.add i)) k ((bs.drop i).take k) := by
  by_cases h0 : k = 0
  · subst h0
    rw [List.take_zero]
    exact Rd.nil _ _ _
  · rw [if_neg (by omega)]
    have hl := h.len
    obtain ⟨b, off, rfl, hcell⟩ := h.2 (by simp; omega)
    rw [Option.map_some, add_flat]
    exact h.cut hk

set_option maxHeartbeats 1000000 in
theorem gbytes_any (w : World) (p : Nat) (A : Option Addr) (n c pos en m : Nat) (bs : List UInt8) (h : Rdr w p (.slice A n c) (pos : Int) (en : Int)) (hr : RdB w A n bs) (ho : offA A p) (hpe : pos ≤ en) (hen : en ≤ n) (hn : n ≤ c) (hc : c ≤ 9223372036854775807) (hn2 : n ≤ 100000000) (hm : m ≤ 100000000) :
    Calls Try.prog 200 #[.pointer (some ⟨p, 0, none⟩), .int .i64 (m : Int)] w (RdX (bytesR bs pos en m) (fun v w' a => OwnB w' w.heap.size v a) w p (.slice A n c) en) := by
  obtain ⟨c0, c1, c2, f0⟩ := h.cells
  have H := Lib.hid h
  have hpl := h.lt
  unfold bytesR
  by_cases hlt : en < pos + m
  · rw [if_pos hlt]
    have h1 : (en : Int) - pos < m := by omega
    go_enter Try.func200, Try.ntmps200
    go_wp2
    go_quiet (fail)
    go_wp2
    exact ⟨rfl, rfl, (Chg.refl (fun k => k = p) w).drewN nq⟩
  · rw [if_neg hlt]
    have h1 : ¬ ((en : Int) - pos < m) := by omega
    go_enter Try.func200, Try.ntmps200
    go_wp2
    go_quiet (fail)
    go_wp2
    obtain ⟨w1, hw1⟩ : ∃ w1, w1 = (w.drewN nq).setCell ⟨p, 1, none⟩ (.int .i64 ((pos + m : Nat) : Int)) := ⟨_, rfl⟩
    have H1 : Hid (Rdr w1 p (.slice A n c) ((pos + m : Nat) : Int) en) := by
      show Rdr _ _ _ _ _
      rw [hw1]
      exact (h.below (dN bl nq)).move _
    have hch : Chg (fun k => k = p) w w1 := by rw [hw1]; exact ((Chg.refl (fun k => k = p) w).drewN nq).setCell (p := ⟨p, 1, none⟩) (Or.inl rfl) _
    have hr1 := RdB.chgP hr hch ho
    rw [show ((pos : Int) + m) = ((pos + m : Nat) : Int) by omega, ← hw1]
    clear hw1
    have HC := Lib.hid (cutA (i := pos) (k := m) (c := c) hr1 (by omega) hn)
    clear hr1 c0 c1 c2 f0 h hr
    obtain ⟨c0, c1, c2, f0⟩ := H1.out.cells
    rw [show ((pos + m : Nat) : Int) = (pos : Int) + m by omega] at c1
    have hwp : IntKind.i64.wrap (pos : Int) = pos := by rw [IntKind.wrap_i64]; omega
    have hs1 : (0 : Int) ≤ pos := by omega
    have hs2 : (pos : Int) ≤ (pos : Int) + m := by omega
    have hs3 : ((pos : Int) + m) ≤ c := by omega
    obtain ⟨A2, hA2⟩ : ∃ A2 : Option Addr, A2 = if c = pos then A else A.map (·.add pos) := ⟨_, rfl⟩
    have HA2 := Lib.hid hA2
    rw [← hA2] at HC
    clear hA2
    go_region_held3 (fun w' => w'.cell? ⟨p, 0, none⟩ = some (.slice A n c) ∧ w'.cell? ⟨p, 1, none⟩ = some (.int .i64 ((pos : Int) + m)))
      (first
        | with_reducible exact ⟨c0, c1⟩
        | with_reducible exact ⟨below_cell bl.drew c0, below_cell bl.drew c1⟩
        | with_reducible exact ⟨y0, y1⟩
        | fail)
      (first
        | (go_at_call 152; rw [← HA2.out, show ((pos : Int) + m).toNat - pos = m by omega]; refine (sclone_any A2 m _ _ w1.drew (HC.out.below bl.drew) (by omega)).mono ?_; rintro e w2 ⟨v2, rfl, hown2, hb2'⟩; have hb2 : Below w1.heap.size w1 w2 := bl.drew.trans hb2'; have y0 := below_cell hb2 c0; have y1 := below_cell hb2 c1)
        | fail)
    go_wp2
    go_ret
    exact ⟨_, rfl, hown2.mono (by have := hch.size; show w.heap.size ≤ w1.heap.size; omega), H1.out.below hb2, hch.nx hb2⟩
end Go.Proofs.Ytimkdpkhdbiniaa

/- Slices of numbers of the call's own. -/
namespace Go.Proofs.Ytimkdpkhdbiniaa
open Go.RowKit

theorem elN : ElT Try.prog 44 3 encI 8 := ElT.mk Try.underlying44 (.int .i64 0) 1 (by kernel_rfl) rfl rfl
def OwnI (w : World) (base : Nat) (v : Value) (l : List Int) : Prop := OwnE encI 3 noS w base v l
theorem OwnI.nil (w : World) (base : Nat) : OwnI w base (.slice none 0 0) [] := OwnE.nil _ _ _ _
theorem orS_noS : orS noS noS = noS := by funext b; simp [orS, noS]
/-- append(s, n): one number. -/
theorem wpL_pushI {w : World} {ops : Array Oper} {rest : List Oper} {o : Oper} {a : Act} {Q : Exit → Act → World → Prop} (hgd : Region.wanted o (yielded ops a.tmps) = true) (s x : Operand)
    (ho : o.op = .call { callee := .builtin .append, args := #[s, x], argTypes := #[44, 44] })
    (base : Nat) (v : Value) (xs : List Int) (hs : a.eval s = v) (hown : OwnI w base v xs) (y : Int) (hy : -9223372036854775808 ≤ y ∧ y ≤ 9223372036854775807)
    {g : Nat} (hx : a.eval x = .slice (some ⟨g, 0, none⟩) 1 1) (hb : xs.length + 1 ≤ 8796093022208) (hbase : base ≤ w.heap.size)
    (h : ∀ v' w', OwnI w' base v' (xs ++ [y]) → w.grownBy w' v.ownBlock → (v'.ownBlock = v.ownBlock ∨ v'.ownBlock = some (w.heap.size + 1)) → wpList Try.prog ops Q rest (a.put o.dst v') w') (hgs : g = w.heap.size := by simp) :
    wpList Try.prog ops Q (o :: rest) a (w.alloc (.cells #[.int .i64 y] 3)) := by
  refine wpL_pushE (S' := noS) elN hgd s x ho base v xs hs hown [.int .i64 y] y ⟨rfl, hy⟩ (fun b hb => hb.elim) hx (by omega) (by unfold maxLen; omega) hbase (fun v' w' h1 h2 h3 => h v' w' ?_ h2 h3) hgs
  rw [orS_noS] at h1
  exact h1
end Go.Proofs.Ytimkdpkhdbiniaa

/- rdata: the reader's numbers. -/
namespace Go.Proofs.Ytimkdpkhdbiniaa
open Go.RowKit
set_option maxRecDepth 100000

def lenOf : Value → Nat
  | .slice _ n _ => n
  | _ => 0
theorem val_i64 {l : List UInt8} (h : l.length ≤ 7) : -9223372036854775808 ≤ (val l : Int) ∧ (val l : Int) ≤ 9223372036854775807 := by
  have := val_lt l
  have h2 : 256 ^ l.length ≤ 256 ^ 7 := Nat.pow_le_pow_right (by decide) h
  have h3 : (256 : Nat) ^ 7 = 72057594037927936 := by decide
  omega
theorem numR_i64 {b : List UInt8} {pos en size n q : Nat} (h7 : size ≤ 7) (h : numR b pos en size = .ok (n, q)) : -9223372036854775808 ≤ (n : Int) ∧ (n : Int) ≤ 9223372036854775807 := by
  unfold numR at h
  split at h
  · cases h
  · injection h with h
    injection h with h1 h2
    rw [← h1]
    exact val_i64 (by rw [List.length_take]; omega)

set_option maxHeartbeats 2000000 in
theorem gnums_any (w : World) (p : Nat) (A : Option Addr) (n c pos en k z : Nat) (bs : List UInt8) (s : Shp) (hk : s.nums = (k : Int)) (hz : s.size = (z : Int)) (h : Rdr w p (.slice A n c) (pos : Int) (en : Int)) (hr : RdB w A n bs) (ho : offA A p) (hpe : pos ≤ en) (hen : en ≤ n) (hn : n ≤ c) (hn2 : n ≤ 100000000) (hkk : k ≤ 5) (hz1 : 0 < k → 1 ≤ z) (hz7 : z ≤ 7) :
    Calls Try.prog 202 #[.pointer (some ⟨p, 0, none⟩), shpV s] w (RdX (numsR bs en z k pos []) (fun v w' a => OwnI w' w.heap.size v a) w p (.slice A n c) en) := by
  have hpl := h.lt
  unfold shpV
  rw [hk, hz]
  obtain ⟨w0, hw0⟩ : ∃ w0, w0 = w.alloc (.cells #[.int .i64 s.bytes, .bool s.host, .bool s.mail, .bool s.short, .int .i64 (k : Int), .int .i64 (z : Int), .bool s.texts, .bool s.first] 182) := ⟨_, rfl⟩
  have hb0 : Below w.heap.size w w0 := by rw [hw0]; exact bl.alloc (Nat.le_refl _) _
  have hs0 : Hid (w0.heap[w.heap.size]? = some (.cells #[.int .i64 s.bytes, .bool s.host, .bool s.mail, .bool s.short, .int .i64 (k : Int), .int .i64 (z : Int), .bool s.texts, .bool s.first] 182 (0, 0))) := by show _ = _; rw [hw0]; exact heap_alloc_new w _
  have H := Lib.hid (h.below hb0)
  have HR := Lib.hid (hr.below hb0)
  have x4 : w0.cell? ⟨w.heap.size, 4, none⟩ = some (.int .i64 (k : Int)) := (cell_of_row _ _ _ _ _ _ hs0.out).trans rfl
  have hsz : Hid (w0.heap.size = w.heap.size + 1) := by show _ = _; rw [hw0]; simp
  clear h hr
  go_enter Try.func202, Try.ntmps202
  go_upto_region 1 with (fail)
  rw [← hw0]
  clear hw0
  go_wp2
  go_loopw [5, 8] (fun ov iv wr => ∃ (j q : Nat) (acc : List Int) (A' : Option Addr) (c' : Nat), ov = .slice A' acc.length c' ∧ iv = .int .i64 (j : Int) ∧ j ≤ k ∧ acc.length = j ∧ Hid (OwnI wr w0.heap.size (.slice A' acc.length c') acc) ∧ Hid (Rdr wr p (.slice A n c) (q : Int) (en : Int)) ∧ q ≤ en ∧ Hid (Chg (fun x => x = p) w0 wr) ∧ Hid (numsR bs en z k pos [] = numsR bs en z (k - j) q acc)) (fun _ iv _ => k - (intOf iv).toNat)
  case atStart => exact ⟨0, pos, [], none, 0, rfl, rfl, Nat.zero_le _, rfl, OwnI.nil _ _, H, hpe, Chg.refl _ _, rfl⟩
  case round =>
    clear H x4
    obtain ⟨j, q, acc, A', c', rfl, rfl, hj, hal, HO, HP, hq, HC, HE⟩ := hrel
    have hs1 := HC.out.heap hs0.out (by omega)
    have x4 : wr.cell? ⟨w.heap.size, 4, none⟩ = some (.int .i64 (k : Int)) := (cell_of_row _ _ _ _ _ _ hs1).trans rfl
    have x5 : wr.cell? ⟨w.heap.size, 5, none⟩ = some (.int .i64 (z : Int)) := (cell_of_row _ _ _ _ _ _ hs1).trans rfl
    by_cases hlt : j < k
    · have HR1 := Lib.hid (RdB.chgP HR.out HC.out ho)
      have hkj : k - j = (k - (j + 1)) + 1 := by omega
      have he := HE.out
      rw [hkj, numsR] at he
      cases hx : numR bs q en z with
      | error x =>
        rw [hx] at he
        simp only at he
        have HEE := Lib.hid he
        have HX := Lib.hid hx
        clear hx he hs1
        go_wp2_with (first
          | (go_at_call 204; refine (gnum_any wr p A n c q en z bs HP.out HR1.out hq hen hn hn2 (hz1 (by omega)) hz7).mono ?_; rw [HX.out]; rintro e w2 ⟨rfl, hc2⟩)
          | fail)
        refine ⟨rfl, ?_⟩
        rw [HEE.out]
        exact ⟨rfl, (Chg.of_below (F := fun x => x = p) hb0).trans (HC.out.trans hc2 (fun _ h => .inl h)) (fun _ h => .inl h)⟩
      | ok r =>
        obtain ⟨m, q2⟩ := r
        rw [hx] at he
        simp only at he
        have hm := numR_i64 hz7 hx
        have hq2 := (numR_le hx).2
        have HX := Lib.hid hx
        have HE2 := Lib.hid he
        have hno : ∀ x, (Value.slice A' acc.length c').ownBlock = some x → ¬ x = p := fun x hx e => by have := (OwnE.lt HO.out x hx).1; have := hsz.out; omega
        clear hx he hs1
        have hal5 : acc.length + 1 ≤ 8796093022208 := by omega
        have HAL := Lib.hid hal
        clear hal
        go_wp2_with (first
          | ((with_reducible show wpList _ _ _ (⟨some 16, _, _, _, _, _⟩ :: _) _ _); refine wpL_pushI rfl (.tmp 10) (.tmp 15) rfl w0.heap.size (.slice A' acc.length c') acc rfl HO2.out _ hm rfl hal5 HSZ.out ?_; intro v5 w5 hown5 hg5 hv5; obtain ⟨A5, c5, rfl, _⟩ := OwnE.form hown5)
          | (go_at_call 204; refine (gnum_any wr p A n c q en z bs HP.out HR1.out hq hen hn hn2 (hz1 (by omega)) hz7).mono ?_; rw [HX.out]; rintro e w2 ⟨v2, rfl, rfl, hp2, hc2⟩; have HP2 := Lib.hid hp2; have HC2 := Lib.hid hc2; have HO2 := Lib.hid (OwnE.chg HO.out hc2 hno (fun _ hz => hz.elim)); have HSZ := Lib.hid (show w0.heap.size ≤ w2.heap.size from Nat.le_trans HC.out.size hc2.size); clear hp2 hc2)
          | fail)
        have hge : ∀ x, (Value.slice A' acc.length c').ownBlock = some x → w0.heap.size ≤ x := fun x hx => (OwnE.lt HO.out x hx).1
        have hp5 : Rdr w5 p (.slice A n c) (q2 : Int) en := (hg5.block p HP2.out.lt (fun e => by have := hge p e.symm; have := hsz.out; omega)).trans HP2.out
        have hc5 : Chg (fun x => x = p) w0 w5 := (HC.out.trans HC2.out (fun _ h => .inl h)).grown hg5 (fun x hx => .inr (hge x hx))
        have hl5 : (acc ++ [(m : Int)]).length = j + 1 := by rw [List.length_append, HAL.out]; rfl
        go_roundw
        case rel => exact ⟨j + 1, q2, acc ++ [(m : Int)], A5, c5, by rw [List.length_append]; rfl, by go_num, by omega, hl5, hown5, hp5, hq2, hc5, HE2.out⟩
        case measure => simp [intOf]; omega
    · obtain rfl : j = k := by omega
      have he := HE.out
      rw [Nat.sub_self, numsR] at he
      have HEE := Lib.hid he
      clear he
      go_wp2
      go_ret
      rw [HEE.out]
      exact ⟨_, rfl, OwnE.base_le HO.out (by have := hsz.out; omega), HP.out, (Chg.of_below (F := fun x => x = p) hb0).trans HC.out (fun _ h => .inl h)⟩
end Go.Proofs.Ytimkdpkhdbiniaa

/- rdata: the reader's texts. -/
namespace Go.Proofs.Ytimkdpkhdbiniaa
open Go.RowKit
set_option maxRecDepth 100000

theorem numR_byte {b : List UInt8} {pos en n q : Nat} (h : numR b pos en 1 = .ok (n, q)) : n ≤ 1000000 := by
  unfold numR at h
  split at h
  · cases h
  · injection h with h
    injection h with h1 h2
    have h3 := val_lt ((b.drop pos).take 1)
    have h4 : ((b.drop pos).take 1).length ≤ 1 := by rw [List.length_take]; omega
    have h5 : 256 ^ ((b.drop pos).take 1).length ≤ 256 ^ 1 := Nat.pow_le_pow_right (by decide) h4
    have h6 : (256 : Nat) ^ 1 = 256 := by decide
    omega
theorem bytesR_len {b l : List UInt8} {pos en n q : Nat} (h : bytesR b pos en n = .ok (l, q)) : l.length ≤ n := by
  unfold bytesR at h
  split at h
  · cases h
  · injection h with h
    injection h with h1 h2
    rw [← h1, List.length_take]
    omega

theorem textsR_more {b : List UInt8} {en k q : Nat} {acc : List (List UInt8)} (h : q < en) : textsR b en (k + 1) q acc = (match numR b q en 1 with
      | .error e => .error e
      | .ok (n, r) => match bytesR b r en n with
        | .error e => .error e
        | .ok (t, r2) => textsR b en k r2 (acc ++ [t])) := by rw [textsR, if_pos h] <;> rfl

set_option maxHeartbeats 2000000 in
theorem gtexts_any (w : World) (p : Nat) (A : Option Addr) (n c pos en : Nat) (bs : List UInt8) (h : Rdr w p (.slice A n c) (pos : Int) (en : Int)) (hr : RdB w A n bs) (ho : offA A p) (hpe : pos ≤ en) (hen : en ≤ n) (hn : n ≤ c) (hc : c ≤ 9223372036854775807) (hn2 : n ≤ 100000000) :
    Calls Try.prog 201 #[.pointer (some ⟨p, 0, none⟩)] w (RdX (textsR bs en 64 pos []) (fun v w' a => OwnS w' w.heap.size v a) w p (.slice A n c) en) := by
  have hpl := h.lt
  have H := Lib.hid h
  have HR := Lib.hid hr
  clear h hr
  go_enter Try.func201, Try.ntmps201
  go_wp2
  go_loopw [3] (fun ov wr => ∃ (a k q : Nat) (acc : List (List UInt8)) (A' : Option Addr) (c' : Nat), ov = .slice A' a c' ∧ a + k = 64 ∧ Hid (acc.length = a) ∧ Hid (OwnS wr w.heap.size (.slice A' a c') acc) ∧ Hid (Rdr wr p (.slice A n c) (q : Int) (en : Int)) ∧ q ≤ en ∧ Hid (Chg (fun x => x = p) w wr) ∧ Hid (textsR bs en 64 pos [] = textsR bs en k q acc)) (fun ov _ => 64 - lenOf ov)
  case atStart => exact ⟨0, 64, pos, [], none, 0, rfl, rfl, rfl, OwnS.nil _ _, H, hpe, Chg.refl _ _, rfl⟩
  case round =>
    clear H
    obtain ⟨a, k, q, acc, A', c', rfl, hak, HAL, HO, HP, hq, HC, HE⟩ := hrel
    obtain ⟨c0, c1, c2, f0⟩ := HP.out.cells
    by_cases hlt : q < en
    · rcases k with _ | k
      · have he := HE.out
        rw [textsR, if_pos hlt] at he
        have HEE := Lib.hid he
        clear he
        have ha : a = 64 := by omega
        subst ha
        go_wp2
        go_quiet (fail)
        go_wp2
        refine ⟨rfl, ?_⟩
        rw [HEE.out]
        exact ⟨rfl, HC.out.drewN nq⟩
      · have ha64 : ¬ a = 64 := by omega
        have he := HE.out.trans (textsR_more hlt)
        have HR1 := Lib.hid (RdB.chgP HR.out HC.out ho)
        cases hx : numR bs q en 1 with
        | error x =>
          rw [hx] at he
          simp only at he
          have HEE := Lib.hid he
          have HX := Lib.hid hx
          clear hx he
          go_wp2
          go_quiet (fail)
          go_wp2_with (first
            | (go_at_call 204; refine (gnum_any (wr.drewN nq) p A n c q en 1 bs (HP.out.below (dN bl nq)) (HR1.out.below (dN bl nq)) hq hen hn hn2 (by omega) (by omega)).mono ?_; rw [HX.out]; rintro e w2 ⟨rfl, hc2⟩)
            | fail)
          refine ⟨rfl, ?_⟩
          rw [HEE.out]
          exact ⟨rfl, (HC.out.drewN nq).trans hc2 (fun _ h => .inl h)⟩
        | ok r =>
          obtain ⟨m, q2⟩ := r
          rw [hx] at he
          simp only at he
          have hm := numR_byte hx
          have hq2 := (numR_le hx).2
          have HX := Lib.hid hx
          have hno : ∀ {wz : World} {v : Value} {ns : List (List UInt8)}, OwnS wz w.heap.size v ns → ∀ z, v.ownBlock = some z → ¬ z = p := fun h z hz e => by have := (OwnE.lt h z hz).1; omega
          clear hx
          cases hy : bytesR bs q2 en m with
          | error x =>
            rw [hy] at he
            simp only at he
            have HEE := Lib.hid he
            have HY := Lib.hid hy
            clear hy he
            go_wp2
            go_quiet (fail)
            go_wp2_with (first
              | (go_at_call 200; refine (gbytes_any w2 p A n c q2 en m bs HP2.out (RdB.chgP HR1.out HC2.out ho) ho hq2 hen hn hc hn2 (by omega)).mono ?_; rw [HY.out]; rintro e w3 ⟨rfl, hc3⟩)
              | (go_at_call 204; refine (gnum_any (wr.drewN nq) p A n c q en 1 bs (HP.out.below (dN bl nq)) (HR1.out.below (dN bl nq)) hq hen hn hn2 (by omega) (by omega)).mono ?_; rw [HX.out]; rintro e w2 ⟨v2, rfl, rfl, hp2, hc2⟩; have HP2 := Lib.hid hp2; have HC2 := Lib.hid (((Chg.refl (fun z => z = p) wr).drewN nq).trans hc2 (fun _ h => .inl h)); clear hp2 hc2)
              | fail)
            refine ⟨rfl, ?_⟩
            rw [HEE.out]
            exact ⟨rfl, (HC.out.trans HC2.out (fun _ h => .inl h)).trans hc3 (fun _ h => .inl h)⟩
          | ok r2 =>
            obtain ⟨t, q3⟩ := r2
            rw [hy] at he
            simp only at he
            have htl := bytesR_len hy
            have hq3 := (bytesR_le hy).2
            have HY := Lib.hid hy
            have HE2 := Lib.hid he
            clear hy he
            go_wp2
            go_quiet (fail)
            go_wp2_with (first
              | ((with_reducible show wpList _ _ _ (⟨some 24, _, _, _, _, _⟩ :: _) _ _); refine wpL_pushS rfl (.tmp 17) (.tmp 23) rfl w.heap.size (.slice A' a c') acc rfl HO3.out t (by unfold maxLen; omega) rfl (by rw [HAL.out]; omega) HSZ.out ?_; intro v5 w5 hown5 hg5 hv5; obtain ⟨A5, c5, rfl, _⟩ := OwnE.form hown5)
              | (go_at_call 200; refine (gbytes_any w2 p A n c q2 en m bs HP2.out (RdB.chgP HR1.out HC2.out ho) ho hq2 hen hn hc hn2 (by omega)).mono ?_; rw [HY.out]; rintro e w3 ⟨v3, rfl, hown3, hp3, hc3⟩; have HP3 := Lib.hid hp3; have HC3 := Lib.hid hc3; have HO3 := Lib.hid (OwnE.chg HO2.out hc3 (hno HO2.out) (fun _ hz => hz.elim)); have HSZ := Lib.hid (show w.heap.size ≤ w3.heap.size from Nat.le_trans (Nat.le_trans HC.out.size HC2.out.size) hc3.size); obtain ⟨A3, c3, rfl, hr3, _⟩ := hown3.form; have hcv := conv_str (P := Try.prog) _ _ _ Try.underlying22 Try.underlying5 Try.underlying9 w3 A3 t.length c3 t hr3; clear hc3 hp3 hown3 hr3)
              | (go_at_call 204; refine (gnum_any (wr.drewN nq) p A n c q en 1 bs (HP.out.below (dN bl nq)) (HR1.out.below (dN bl nq)) hq hen hn hn2 (by omega) (by omega)).mono ?_; rw [HX.out]; rintro e w2 ⟨v2, rfl, rfl, hp2, hc2⟩; have HP2 := Lib.hid hp2; have HC2 := Lib.hid (((Chg.refl (fun z => z = p) wr).drewN nq).trans hc2 (fun _ h => .inl h)); have HO2 := Lib.hid (OwnE.chg HO.out HC2.out (hno HO.out) (fun _ hz => hz.elim)); clear hp2 hc2)
              | fail)
            have hge : ∀ z, (Value.slice A' a c').ownBlock = some z → w.heap.size ≤ z := fun z hz => (OwnE.lt HO.out z hz).1
            have hp5 : Rdr w5 p (.slice A n c) (q3 : Int) en := (hg5.block p HP3.out.lt (fun e => by have := hge p e.symm; omega)).trans HP3.out
            have hc5 : Chg (fun z => z = p) w w5 := ((HC.out.trans HC2.out (fun _ h => .inl h)).trans HC3.out (fun _ h => .inl h)).grown hg5 (fun z hz => .inr (hge z hz))
            have hl5 : (acc ++ [t]).length = a + 1 := by rw [List.length_append, HAL.out]; rfl
            rw [hl5] at hown5
            rw [HAL.out]
            go_roundw
            case rel => exact ⟨a + 1, k, q3, acc ++ [t], A5, c5, rfl, by omega, hl5, hown5, hp5, hq3, hc5, HE2.out⟩
            case measure => simp [lenOf]; omega
    · by_cases h0 : a = 0
      · have he : textsR bs en 64 pos [] = .error 2 := by
          rw [HE.out]
          cases k <;> rw [textsR, if_neg hlt, if_pos (by rw [HAL.out]; exact h0)]
        have HEE := Lib.hid he
        clear he
        subst h0
        go_wp2
        go_quiet (fail)
        go_wp2
        refine ⟨rfl, ?_⟩
        rw [HEE.out]
        exact ⟨rfl, HC.out.drewN nq⟩
      · have he : textsR bs en 64 pos [] = .ok (acc, q) := by
          rw [HE.out]
          cases k <;> rw [textsR, if_neg hlt, if_neg (by rw [HAL.out]; exact h0)]
        have HEE := Lib.hid he
        clear he
        go_wp2
        go_quiet (fail)
        go_wp2
        go_ret
        rw [HEE.out]
        exact ⟨_, rfl, HO.out, HP.out.below (dN bl nq), HC.out.drewN nq⟩
end Go.Proofs.Ytimkdpkhdbiniaa
