/- Parts of a proof, joined: OwnD, RdPlain, RrPlain, Get, Wget, RdG1, RdG2, RdG3, Ints, RdG4, RdG5. -/
import Derived.Defers
import Derived.Recover
import Derived.StillTailTactics
import Derived.Test.YtimkdpkhdbiniaaChecked
import Derived.Test.YtimkdpkhdbiniaaZADM03
import Derived.Test.YtimkdpkhdbiniaaZADM02c
import Derived.Test.YtimkdpkhdbiniaaZADM02
import Derived.Test.YtimkdpkhdbiniaaZADM01
/- The reference's OwnData: data that shares nothing. -/
namespace Go.Proofs.Ytimkdpkhdbiniaa
open Go.RowKit
set_option maxRecDepth 100000

def intV (n : Int) : Value := .int .i64 n
def etyD (g : Nat) : TypeId := if g = 0 then 5 else if g = 3 then 3 else 9
def newsD (x : Da) (g : Nat) : List Value := if g = 0 then x.bytes.map bV else if g = 1 then x.host.map strV else if g = 2 then x.mail.map strV else if g = 3 then x.nums.map intV else x.texts.map strV
def srcD (s : DS) (x : Da) (g : Nat) : Value := if g = 0 then .slice s.A0 x.bytes.length s.c0 else if g = 1 then .slice s.A1 x.host.length s.c1 else if g = 2 then .slice s.A2 x.mail.length s.c2 else if g = 3 then .slice s.A3 x.nums.length s.c3 else .slice s.A4 x.texts.length s.c4
/-- A row is there, empty. -/
def psiA (B g : Nat) (v : Value) (w : World) : Prop := ∃ b, v = .slice (some ⟨b, 0, none⟩) 0 0 ∧ B ≤ b ∧ w.heap[b]? = some (.cells #[] (etyD g) (0, 0))
def psiC (x : Da) (B g : Nat) (v : Value) (w : World) : Prop := w.ownsRow B (etyD g) 1 v (newsD x g).length (newsD x g)
/-- Two rows that are not empty are not one. -/
def sepP (a b : List Value) (v u : Value) : Prop := ∀ k, v.ownBlock = some k → u.ownBlock = some k → a = [] ∨ b = []
def sepV (x : Da) (v0 v1 v2 v3 v4 : Value) : Prop :=
  sepP (newsD x 1) (newsD x 0) v1 v0 ∧ sepP (newsD x 1) (newsD x 2) v1 v2 ∧ sepP (newsD x 1) (newsD x 3) v1 v3 ∧ sepP (newsD x 1) (newsD x 4) v1 v4
/-- What operation j has left. -/
def psiD (s : DS) (x : Da) (q B j : Nat) (v : Value) (w : World) : Prop :=
  if j = 20 then ∃ v0 v1 v2 v3 v4, v = .agg #[v0, v1, v2, v3, v4] ∧ psiC x B 0 v0 w ∧ psiC x B 1 v1 w ∧ psiC x B 2 v2 w ∧ psiC x B 3 v3 w ∧ psiC x B 4 v4 w ∧ sepV x v0 v1 v2 v3 v4
  else if j % 4 = 0 then psiA B (j / 4) v w else if j % 4 = 1 then v = .pointer (some ⟨q, j / 4, none⟩) else if j % 4 = 2 then v = srcD s x (j / 4) else psiC x B (j / 4) v w
def dD (x : Da) (i j : Nat) (v u : Value) : Prop := i % 4 = 3 → j % 4 = 3 → i < 20 → j < 20 → ∀ k, v.ownBlock = some k → u.ownBlock = some k → newsD x (i / 4) = [] ∨ newsD x (j / 4) = []
theorem dD_sep {x : Da} {i j : Nat} {v u : Value} (hi : i < 5) (hj : j < 5) (h : dD x (4 * i + 3) (4 * j + 3) v u ∨ dD x (4 * j + 3) (4 * i + 3) u v) : sepP (newsD x i) (newsD x j) v u := by
  intro k hk hk2
  have e1 : (4 * i + 3) / 4 = i := by omega
  have e2 : (4 * j + 3) / 4 = j := by omega
  rcases h with h | h
  · have := h (by omega) (by omega) (by omega) (by omega) k hk hk2
    rwa [e1, e2] at this
  · have := h (by omega) (by omega) (by omega) (by omega) k hk2 hk
    rw [e1, e2] at this
    exact this.symm
theorem psiA.below {B g : Nat} {v : Value} {w w' : World} (h : psiA B g v w) (hb : Below w.heap.size w w') : psiA B g v w' := by
  obtain ⟨b, e, h1, h2⟩ := h
  exact ⟨b, e, h1, (hb.block b (Array.getElem?_eq_some_iff.1 h2).1).trans h2⟩
theorem ownsRow_below {w w' : World} {B size n : Nat} {e : TypeId} {v : Value} {xs : List Value} (h : w.ownsRow B e size v n xs) (hb : Below w.heap.size w w') : w'.ownsRow B e size v n xs := by
  refine ⟨h.1, ?_⟩
  rcases h.2 with h0 | ⟨g, cap, cur, e1, h2, h3, h4⟩
  · exact .inl h0
  · exact .inr ⟨g, cap, cur, e1, h2, (hb.block g (Array.getElem?_eq_some_iff.1 h3).1).trans h3, h4⟩
theorem psiC.below {x : Da} {B g : Nat} {v : Value} {w w' : World} (h : psiC x B g v w) (hb : Below w.heap.size w w') : psiC x B g v w' := ownsRow_below h hb
theorem psiC_form {x : Da} {B g n : Nat} {v : Value} {w : World} (h : psiC x B g v w) (hn : (newsD x g).length = n) : ∃ A c, v = .slice A n c ∧ n ≤ c ∧ c ≤ maxLen := by
  subst hn
  rcases h.2 with ⟨e, h0⟩ | ⟨g', cap, cur, e, _, _, h1, h2, _⟩
  · exact ⟨none, 0, by rw [e, h0], by rw [h0]; exact Nat.le_refl _, Nat.zero_le _⟩
  · exact ⟨_, cap, e, h1, h2⟩
theorem psiD.below {s : DS} {x : Da} {q B j : Nat} {v : Value} {w w' : World} (h : psiD s x q B j v w) (hb : Below w.heap.size w w') : psiD s x q B j v w' := by
  unfold psiD at *
  split at h
  · rename_i hj
    rw [if_pos hj]
    obtain ⟨v0, v1, v2, v3, v4, e, h0, h1, h2, h3, h4, h5⟩ := h
    exact ⟨v0, v1, v2, v3, v4, e, h0.below hb, h1.below hb, h2.below hb, h3.below hb, h4.below hb, h5⟩
  · rename_i hj
    rw [if_neg hj]
    split at h
    · rename_i hk; rw [if_pos hk]; exact h.below hb
    · rename_i hk
      rw [if_neg hk]
      split at h
      · rename_i hk2; rw [if_pos hk2]; exact h
      · rename_i hk2
        rw [if_neg hk2]
        split at h
        · rename_i hk3; rw [if_pos hk3]; exact h
        · rename_i hk3; rw [if_neg hk3]; exact h.below hb

theorem ints_rd {So Si : Nat → Prop} {w : World} {A : Option Addr} {n : Nat} {ns : List Int} (h : Els encI So Si w A n ns) : Rd w 1 A n (ns.map intV) := by
  have hl := h.len
  refine ⟨by rw [List.length_map, hl, Nat.mul_one], fun hn => ?_⟩
  rw [List.length_map] at hn
  obtain ⟨l, hx⟩ : ∃ l, ns[0]? = some l := ⟨_, List.getElem?_eq_getElem hn⟩
  obtain ⟨b, off, rfl, _⟩ := ints_at h hx
  refine ⟨b, off, rfl, fun j u hu => ?_⟩
  rw [List.getElem?_map] at hu
  obtain ⟨y, hy, rfl⟩ := Option.map_eq_some_iff.1 hu
  obtain ⟨b', off', e, _, hc, _⟩ := ints_at h hy
  injection e with e
  injection e with e1 e2
  subst e1 e2
  exact hc
theorem infoI : (Try.prog.info? 3).map (fun i => (i.zero, i.size, i.bytes)) = some (some (.int .i64 0), 1, 8) := by kernel_rfl
theorem infoS : (Try.prog.info? 9).map (fun i => (i.zero, i.size, i.bytes)) = some (some (.string ByteArray.empty), 1, 16) := by kernel_rfl

/-- A call's own copy: each slice a row of the call's own. -/
structure DOwn (w : World) (B : Nat) (s : DS) (x : Da) : Prop where
  b : OwnB w B (.slice s.A0 x.bytes.length s.c0) x.bytes
  h : OwnS w B (.slice s.A1 x.host.length s.c1) x.host
  m : OwnS w B (.slice s.A2 x.mail.length s.c2) x.mail
  n : OwnE encI 3 noS w B (.slice s.A3 x.nums.length s.c3) x.nums
  t : OwnS w B (.slice s.A4 x.texts.length s.c4) x.texts
  sep : sepV x (.slice s.A0 x.bytes.length s.c0) (.slice s.A1 x.host.length s.c1) (.slice s.A2 x.mail.length s.c2) (.slice s.A3 x.nums.length s.c3) (.slice s.A4 x.texts.length s.c4)

theorem strs_max {So Si : Nat → Prop} {w : World} {A : Option Addr} {n : Nat} {ns : List (List UInt8)} (h : Els encS So Si w A n ns) : ∀ l ∈ ns, l.length ≤ maxLen := fun l hl => by
  obtain ⟨i, hi⟩ := List.mem_iff_getElem?.1 hl
  obtain ⟨_, _, _, _, _, hm⟩ := strs_at h hi
  exact hm
theorem ints_max {So Si : Nat → Prop} {w : World} {A : Option Addr} {n : Nat} {ns : List Int} (h : Els encI So Si w A n ns) : ∀ l ∈ ns, -9223372036854775808 ≤ l ∧ l ≤ 9223372036854775807 := fun l hl => by
  obtain ⟨i, hi⟩ := List.mem_iff_getElem?.1 hl
  obtain ⟨_, _, _, _, _, hm⟩ := ints_at h hi
  exact hm
theorem flat_chunk {α : Type} {f : α → Value} {ns : List α} {j : Nat} {y : α} (hy : ns[j]? = some y) : List.take 1 (List.drop (j * 1) (ns.map f)) = [f y] := by
  have hjl : j < ns.length := (List.getElem?_eq_some_iff.1 hy).1
  rw [Nat.mul_one, List.drop_eq_getElem_cons (by rw [List.length_map]; exact hjl), List.take_succ_cons, List.take_zero, List.getElem_map]
  rw [List.getElem?_eq_getElem hjl] at hy
  injection hy with hy
  rw [hy]
theorem own_strs {w : World} {B : Nat} {v : Value} {ns : List (List UInt8)} (h : w.ownsRow B 9 1 v ns.length (ns.map strV)) (hm : ∀ l ∈ ns, l.length ≤ maxLen) : OwnS w B v ns :=
  ⟨ns.map strV, h, fun j y hy => by
    have e : List.take encS.size (List.drop (j * encS.size) (ns.map strV)) = [strV y] := flat_chunk hy
    rw [e]
    exact ⟨rfl, hm y (List.mem_of_getElem? hy)⟩, fun b hb => hb.elim⟩
theorem own_ints {w : World} {B : Nat} {v : Value} {ns : List Int} (h : w.ownsRow B 3 1 v ns.length (ns.map intV)) (hm : ∀ l ∈ ns, -9223372036854775808 ≤ l ∧ l ≤ 9223372036854775807) : OwnE encI 3 noS w B v ns :=
  ⟨ns.map intV, h, fun j y hy => by
    have e : List.take encI.size (List.drop (j * encI.size) (ns.map intV)) = [intV y] := flat_chunk hy
    rw [e]
    exact ⟨rfl, hm y (List.mem_of_getElem? hy)⟩, fun b hb => hb.elim⟩
theorem eval_tmp {a : Act} {t : Nat} {v : Value} (h : a.tmps[t]? = some v) : a.eval (.tmp t) = v := by
  show a.tmps.getD t undef = v
  rw [Array.getD_eq_getD_getElem?, h]
  rfl
set_option maxHeartbeats 4000000 in
theorem ownData_big (s : DS) (x : Da) (w : World) (hx : DRd w s x) (hbd : x.bytes.length ≤ 140737488355328 ∧ x.host.length ≤ 8796093022208 ∧ x.mail.length ≤ 8796093022208 ∧ x.nums.length ≤ 8796093022208 ∧ x.texts.length ≤ 8796093022208) :
    Calls Try.prog 105 #[dsV s x] w (RetP (fun v w' => ∃ s', v = dsV s' x ∧ DOwn w' w.heap.size s' x) w) := by
  unfold dsV
  obtain ⟨wa, hwa⟩ : ∃ wa, wa = w.alloc (.cells #[.slice s.A0 x.bytes.length s.c0, .slice s.A1 x.host.length s.c1, .slice s.A2 x.mail.length s.c2, .slice s.A3 x.nums.length s.c3, .slice s.A4 x.texts.length s.c4] 46) := ⟨_, rfl⟩
  obtain ⟨w0, hw0⟩ : ∃ w0, w0 = wa.alloc (.cells #[.slice none 0 0, .slice none 0 0, .slice none 0 0, .slice none 0 0, .slice none 0 0] 46) := ⟨_, rfl⟩
  have hba : Below w.heap.size w wa := by rw [hwa]; exact bl.alloc (Nat.le_refl _) _
  have hb0' : Below wa.heap.size wa w0 := by rw [hw0]; exact bl.alloc (Nat.le_refl _) _
  have hb0 := nx hba hb0'
  have hza : wa.heap.size = w.heap.size + 1 := by rw [hwa]; simp
  have BX : Hid (DBox w0 w.heap.size s x) := by show DBox _ _ _ _; exact (by rw [hwa]; exact DBox.made w s x _ : DBox wa w.heap.size s x).below hb0'
  have HD : Hid (w0.heap[w.heap.size + 1]? = some (.cells #[.slice none 0 0, .slice none 0 0, .slice none 0 0, .slice none 0 0, .slice none 0 0] 46 (0, 0))) := by
    show _ = _
    rw [hw0, ← hza]
    exact heap_alloc_new _ _
  have HX := Lib.hid hx
  go_enter Try.func105, Try.ntmps105
  go_upto_region 1 with (fail)
  rw [← hwa, ← hw0]
  clear hwa hw0 hx
  refine wp_region_inv (n := 21) (by kernel_rfl) (by kernel_rfl) (by kernel_rfl) rfl (by kernel_rfl) (fun i => i + 3) (fun i hi => by show i + 3 < 24; omega) (fun i j _ _ e => by have e' : i + 3 = j + 3 := e; omega) (psiD s x w.heap.size w0.heap.size) (dD x) (fun j v w1 w2 _ hb h => h.below hb) ?_ ?_
  · intro i hi a w1 hbw hsm hdep hsp
    have hq1 : a.tmps[1]? = some (.pointer (some ⟨w.heap.size, 0, none⟩)) := (hsm.other 1 (fun j _ e => by have e' : j + 3 = 1 := e; omega)).trans rfl
    have hbw' := nx hb0 hbw
    have hx := HX.out.below hbw'
    obtain ⟨b0, b1, b2, b3, b4⟩ := BX.out.below hbw
    have hcases : i = 0 ∨ i = 1 ∨ i = 2 ∨ i = 3 ∨ i = 4 ∨ i = 5 ∨ i = 6 ∨ i = 7 ∨ i = 8 ∨ i = 9 ∨ i = 10 ∨ i = 11 ∨ i = 12 ∨ i = 13 ∨ i = 14 ∨ i = 15 ∨ i = 16 ∨ i = 17 ∨ i = 18 ∨ i = 19 ∨ i = 20 := by omega
    rcases hcases with rfl | rfl | rfl | rfl | rfl | rfl | rfl | rfl | rfl | rfl | rfl | rfl | rfl | rfl | rfl | rfl | rfl | rfl | rfl | rfl | rfl
    · refine wpOp_plain rfl rfl ?_
      generalize hK : (fun (a' : Act) (w' : World) => _) = K
      go_simp
      rw [← hK]
      exact ⟨_, rfl, bl.alloc (Nat.le_refl _) _, ⟨w1.heap.size, rfl, hbw.size, heap_alloc_new _ _⟩, fun j u _ _ h => by cases h⟩
    · refine wpOp_plain rfl rfl ?_
      generalize hK : (fun (a' : Act) (w' : World) => _) = K
      unfold Oper.wp execOp
      simp [hq1, go_sem]
      rw [← hK]
      exact ⟨_, rfl, bl, rfl, fun j u _ _ h => by cases h⟩
    · refine wpOp_plain rfl rfl ?_
      generalize hK : (fun (a' : Act) (w' : World) => _) = K
      obtain ⟨v, hv, hp⟩ := hdep 1 (by kernel_rfl)
      have hp' : v = .pointer (some ⟨w.heap.size, 0, none⟩) := hp
      subst hp'
      unfold Oper.wp execOp
      simp [hv, go_sem, b0]
      rw [← hK]
      exact ⟨_, rfl, bl, rfl, fun j u _ _ h => by cases h⟩
    · refine wpOp_plain rfl rfl ?_
      generalize hK : (fun (a' : Act) (w' : World) => _) = K
      obtain ⟨v, hv, hp⟩ := hdep 0 (by kernel_rfl)
      obtain ⟨u, hu, hpu⟩ := hdep 2 (by kernel_rfl)
      have hp' : psiA w0.heap.size 0 v w1 := hp
      have hpu' : u = .slice s.A0 x.bytes.length s.c0 := hpu
      obtain ⟨b, rfl, hb1, hb2⟩ := hp'
      subst hpu'
      have e1 := eval_tmp hv
      have e2 := eval_tmp hu
      obtain ⟨i0, hi0, hz0, hs0, hy0⟩ := info_parts infoB
      obtain ⟨v', w', hrun, h1, h2, hfr⟩ := run_clone (P := Try.prog) (w := w1) 22 Try.underlying22 hi0 hz0 hs0 hy0 rfl hb1 hb2 s.A0 x.bytes.length s.c0 (x.bytes.map bV) (hx.b) (fun u hu => by obtain ⟨y, _, rfl⟩ := List.mem_map.1 hu; rfl) (by unfold maxLen; omega) (by omega)
      unfold Oper.wp execOp
      simp only [List.getElem_toArray, List.getElem_cons_succ, List.getElem_cons_zero, resolve, invoke, builtin, Sem.run_bind, Sem.run_pure, Result.andThen_ok, List.map_toArray, List.map_cons, List.map_nil, e1, e2, hrun]
      show K _ _
      rw [← hK]
      refine ⟨v', rfl, h2, ?_, fun j u _ hpj _ hj3 _ hj20 k hk1 hk2 => ?_⟩
      rotate_left
      · by_cases hne : newsD x 0 = []
        · exact .inl hne
        · have h3 := hfr hne k hk1
          have hp3 : psiC x w0.heap.size (j / 4) u w1 := by
            have := hpj
            unfold psiD at this
            rw [if_neg (by omega), if_neg (by omega), if_neg (by omega), if_neg (by omega)] at this
            exact this
          have h4 := (World.ownsRow.lt hp3 k hk2).2
          omega
      show w'.ownsRow w0.heap.size (etyD 0) 1 v' (newsD x 0).length (newsD x 0)
      have hn : newsD x 0 = x.bytes.map bV := rfl
      rw [hn, List.length_map]
      exact h1
    · refine wpOp_plain rfl rfl ?_
      generalize hK : (fun (a' : Act) (w' : World) => _) = K
      go_simp
      rw [← hK]
      exact ⟨_, rfl, bl.alloc (Nat.le_refl _) _, ⟨w1.heap.size, rfl, hbw.size, heap_alloc_new _ _⟩, fun j u _ _ h => by cases h⟩
    · refine wpOp_plain rfl rfl ?_
      generalize hK : (fun (a' : Act) (w' : World) => _) = K
      unfold Oper.wp execOp
      simp [hq1, go_sem]
      rw [← hK]
      exact ⟨_, rfl, bl, rfl, fun j u _ _ h => by cases h⟩
    · refine wpOp_plain rfl rfl ?_
      generalize hK : (fun (a' : Act) (w' : World) => _) = K
      obtain ⟨v, hv, hp⟩ := hdep 5 (by kernel_rfl)
      have hp' : v = .pointer (some ⟨w.heap.size, 1, none⟩) := hp
      subst hp'
      unfold Oper.wp execOp
      simp [hv, go_sem, b1]
      rw [← hK]
      exact ⟨_, rfl, bl, rfl, fun j u _ _ h => by cases h⟩
    · refine wpOp_plain rfl rfl ?_
      generalize hK : (fun (a' : Act) (w' : World) => _) = K
      obtain ⟨v, hv, hp⟩ := hdep 4 (by kernel_rfl)
      obtain ⟨u, hu, hpu⟩ := hdep 6 (by kernel_rfl)
      have hp' : psiA w0.heap.size 1 v w1 := hp
      have hpu' : u = .slice s.A1 x.host.length s.c1 := hpu
      obtain ⟨b, rfl, hb1, hb2⟩ := hp'
      subst hpu'
      have e1 := eval_tmp hv
      have e2 := eval_tmp hu
      obtain ⟨i0, hi0, hz0, hs0, hy0⟩ := info_parts infoS
      obtain ⟨v', w', hrun, h1, h2, hfr⟩ := run_clone (P := Try.prog) (w := w1) 23 Try.underlying23 hi0 hz0 hs0 hy0 rfl hb1 hb2 s.A1 x.host.length s.c1 (x.host.map strV) (strs_rd hx.h) (fun u hu => by obtain ⟨y, _, rfl⟩ := List.mem_map.1 hu; rfl) (by unfold maxLen; omega) (by omega)
      unfold Oper.wp execOp
      simp only [List.getElem_toArray, List.getElem_cons_succ, List.getElem_cons_zero, resolve, invoke, builtin, Sem.run_bind, Sem.run_pure, Result.andThen_ok, List.map_toArray, List.map_cons, List.map_nil, e1, e2, hrun]
      show K _ _
      rw [← hK]
      refine ⟨v', rfl, h2, ?_, fun j u _ hpj _ hj3 _ hj20 k hk1 hk2 => ?_⟩
      rotate_left
      · by_cases hne : newsD x 1 = []
        · exact .inl hne
        · have h3 := hfr hne k hk1
          have hp3 : psiC x w0.heap.size (j / 4) u w1 := by
            have := hpj
            unfold psiD at this
            rw [if_neg (by omega), if_neg (by omega), if_neg (by omega), if_neg (by omega)] at this
            exact this
          have h4 := (World.ownsRow.lt hp3 k hk2).2
          omega
      show w'.ownsRow w0.heap.size (etyD 1) 1 v' (newsD x 1).length (newsD x 1)
      have hn : newsD x 1 = x.host.map strV := rfl
      rw [hn, List.length_map]
      exact h1
    · refine wpOp_plain rfl rfl ?_
      generalize hK : (fun (a' : Act) (w' : World) => _) = K
      go_simp
      rw [← hK]
      exact ⟨_, rfl, bl.alloc (Nat.le_refl _) _, ⟨w1.heap.size, rfl, hbw.size, heap_alloc_new _ _⟩, fun j u _ _ h => by cases h⟩
    · refine wpOp_plain rfl rfl ?_
      generalize hK : (fun (a' : Act) (w' : World) => _) = K
      unfold Oper.wp execOp
      simp [hq1, go_sem]
      rw [← hK]
      exact ⟨_, rfl, bl, rfl, fun j u _ _ h => by cases h⟩
    · refine wpOp_plain rfl rfl ?_
      generalize hK : (fun (a' : Act) (w' : World) => _) = K
      obtain ⟨v, hv, hp⟩ := hdep 9 (by kernel_rfl)
      have hp' : v = .pointer (some ⟨w.heap.size, 2, none⟩) := hp
      subst hp'
      unfold Oper.wp execOp
      simp [hv, go_sem, b2]
      rw [← hK]
      exact ⟨_, rfl, bl, rfl, fun j u _ _ h => by cases h⟩
    · refine wpOp_plain rfl rfl ?_
      generalize hK : (fun (a' : Act) (w' : World) => _) = K
      obtain ⟨v, hv, hp⟩ := hdep 8 (by kernel_rfl)
      obtain ⟨u, hu, hpu⟩ := hdep 10 (by kernel_rfl)
      have hp' : psiA w0.heap.size 2 v w1 := hp
      have hpu' : u = .slice s.A2 x.mail.length s.c2 := hpu
      obtain ⟨b, rfl, hb1, hb2⟩ := hp'
      subst hpu'
      have e1 := eval_tmp hv
      have e2 := eval_tmp hu
      obtain ⟨i0, hi0, hz0, hs0, hy0⟩ := info_parts infoS
      obtain ⟨v', w', hrun, h1, h2, hfr⟩ := run_clone (P := Try.prog) (w := w1) 23 Try.underlying23 hi0 hz0 hs0 hy0 rfl hb1 hb2 s.A2 x.mail.length s.c2 (x.mail.map strV) (strs_rd hx.m) (fun u hu => by obtain ⟨y, _, rfl⟩ := List.mem_map.1 hu; rfl) (by unfold maxLen; omega) (by omega)
      unfold Oper.wp execOp
      simp only [List.getElem_toArray, List.getElem_cons_succ, List.getElem_cons_zero, resolve, invoke, builtin, Sem.run_bind, Sem.run_pure, Result.andThen_ok, List.map_toArray, List.map_cons, List.map_nil, e1, e2, hrun]
      show K _ _
      rw [← hK]
      refine ⟨v', rfl, h2, ?_, fun j u _ hpj _ hj3 _ hj20 k hk1 hk2 => ?_⟩
      rotate_left
      · by_cases hne : newsD x 2 = []
        · exact .inl hne
        · have h3 := hfr hne k hk1
          have hp3 : psiC x w0.heap.size (j / 4) u w1 := by
            have := hpj
            unfold psiD at this
            rw [if_neg (by omega), if_neg (by omega), if_neg (by omega), if_neg (by omega)] at this
            exact this
          have h4 := (World.ownsRow.lt hp3 k hk2).2
          omega
      show w'.ownsRow w0.heap.size (etyD 2) 1 v' (newsD x 2).length (newsD x 2)
      have hn : newsD x 2 = x.mail.map strV := rfl
      rw [hn, List.length_map]
      exact h1
    · refine wpOp_plain rfl rfl ?_
      generalize hK : (fun (a' : Act) (w' : World) => _) = K
      go_simp
      rw [← hK]
      exact ⟨_, rfl, bl.alloc (Nat.le_refl _) _, ⟨w1.heap.size, rfl, hbw.size, heap_alloc_new _ _⟩, fun j u _ _ h => by cases h⟩
    · refine wpOp_plain rfl rfl ?_
      generalize hK : (fun (a' : Act) (w' : World) => _) = K
      unfold Oper.wp execOp
      simp [hq1, go_sem]
      rw [← hK]
      exact ⟨_, rfl, bl, rfl, fun j u _ _ h => by cases h⟩
    · refine wpOp_plain rfl rfl ?_
      generalize hK : (fun (a' : Act) (w' : World) => _) = K
      obtain ⟨v, hv, hp⟩ := hdep 13 (by kernel_rfl)
      have hp' : v = .pointer (some ⟨w.heap.size, 3, none⟩) := hp
      subst hp'
      unfold Oper.wp execOp
      simp [hv, go_sem, b3]
      rw [← hK]
      exact ⟨_, rfl, bl, rfl, fun j u _ _ h => by cases h⟩
    · refine wpOp_plain rfl rfl ?_
      generalize hK : (fun (a' : Act) (w' : World) => _) = K
      obtain ⟨v, hv, hp⟩ := hdep 12 (by kernel_rfl)
      obtain ⟨u, hu, hpu⟩ := hdep 14 (by kernel_rfl)
      have hp' : psiA w0.heap.size 3 v w1 := hp
      have hpu' : u = .slice s.A3 x.nums.length s.c3 := hpu
      obtain ⟨b, rfl, hb1, hb2⟩ := hp'
      subst hpu'
      have e1 := eval_tmp hv
      have e2 := eval_tmp hu
      obtain ⟨i0, hi0, hz0, hs0, hy0⟩ := info_parts infoI
      obtain ⟨v', w', hrun, h1, h2, hfr⟩ := run_clone (P := Try.prog) (w := w1) 44 Try.underlying44 hi0 hz0 hs0 hy0 rfl hb1 hb2 s.A3 x.nums.length s.c3 (x.nums.map intV) (ints_rd hx.n) (fun u hu => by obtain ⟨y, _, rfl⟩ := List.mem_map.1 hu; rfl) (by unfold maxLen; omega) (by omega)
      unfold Oper.wp execOp
      simp only [List.getElem_toArray, List.getElem_cons_succ, List.getElem_cons_zero, resolve, invoke, builtin, Sem.run_bind, Sem.run_pure, Result.andThen_ok, List.map_toArray, List.map_cons, List.map_nil, e1, e2, hrun]
      show K _ _
      rw [← hK]
      refine ⟨v', rfl, h2, ?_, fun j u _ hpj _ hj3 _ hj20 k hk1 hk2 => ?_⟩
      rotate_left
      · by_cases hne : newsD x 3 = []
        · exact .inl hne
        · have h3 := hfr hne k hk1
          have hp3 : psiC x w0.heap.size (j / 4) u w1 := by
            have := hpj
            unfold psiD at this
            rw [if_neg (by omega), if_neg (by omega), if_neg (by omega), if_neg (by omega)] at this
            exact this
          have h4 := (World.ownsRow.lt hp3 k hk2).2
          omega
      show w'.ownsRow w0.heap.size (etyD 3) 1 v' (newsD x 3).length (newsD x 3)
      have hn : newsD x 3 = x.nums.map intV := rfl
      rw [hn, List.length_map]
      exact h1
    · refine wpOp_plain rfl rfl ?_
      generalize hK : (fun (a' : Act) (w' : World) => _) = K
      go_simp
      rw [← hK]
      exact ⟨_, rfl, bl.alloc (Nat.le_refl _) _, ⟨w1.heap.size, rfl, hbw.size, heap_alloc_new _ _⟩, fun j u _ _ h => by cases h⟩
    · refine wpOp_plain rfl rfl ?_
      generalize hK : (fun (a' : Act) (w' : World) => _) = K
      unfold Oper.wp execOp
      simp [hq1, go_sem]
      rw [← hK]
      exact ⟨_, rfl, bl, rfl, fun j u _ _ h => by cases h⟩
    · refine wpOp_plain rfl rfl ?_
      generalize hK : (fun (a' : Act) (w' : World) => _) = K
      obtain ⟨v, hv, hp⟩ := hdep 17 (by kernel_rfl)
      have hp' : v = .pointer (some ⟨w.heap.size, 4, none⟩) := hp
      subst hp'
      unfold Oper.wp execOp
      simp [hv, go_sem, b4]
      rw [← hK]
      exact ⟨_, rfl, bl, rfl, fun j u _ _ h => by cases h⟩
    · refine wpOp_plain rfl rfl ?_
      generalize hK : (fun (a' : Act) (w' : World) => _) = K
      obtain ⟨v, hv, hp⟩ := hdep 16 (by kernel_rfl)
      obtain ⟨u, hu, hpu⟩ := hdep 18 (by kernel_rfl)
      have hp' : psiA w0.heap.size 4 v w1 := hp
      have hpu' : u = .slice s.A4 x.texts.length s.c4 := hpu
      obtain ⟨b, rfl, hb1, hb2⟩ := hp'
      subst hpu'
      have e1 := eval_tmp hv
      have e2 := eval_tmp hu
      obtain ⟨i0, hi0, hz0, hs0, hy0⟩ := info_parts infoS
      obtain ⟨v', w', hrun, h1, h2, hfr⟩ := run_clone (P := Try.prog) (w := w1) 23 Try.underlying23 hi0 hz0 hs0 hy0 rfl hb1 hb2 s.A4 x.texts.length s.c4 (x.texts.map strV) (strs_rd hx.t) (fun u hu => by obtain ⟨y, _, rfl⟩ := List.mem_map.1 hu; rfl) (by unfold maxLen; omega) (by omega)
      unfold Oper.wp execOp
      simp only [List.getElem_toArray, List.getElem_cons_succ, List.getElem_cons_zero, resolve, invoke, builtin, Sem.run_bind, Sem.run_pure, Result.andThen_ok, List.map_toArray, List.map_cons, List.map_nil, e1, e2, hrun]
      show K _ _
      rw [← hK]
      refine ⟨v', rfl, h2, ?_, fun j u _ hpj _ hj3 _ hj20 k hk1 hk2 => ?_⟩
      rotate_left
      · by_cases hne : newsD x 4 = []
        · exact .inl hne
        · have h3 := hfr hne k hk1
          have hp3 : psiC x w0.heap.size (j / 4) u w1 := by
            have := hpj
            unfold psiD at this
            rw [if_neg (by omega), if_neg (by omega), if_neg (by omega), if_neg (by omega)] at this
            exact this
          have h4 := (World.ownsRow.lt hp3 k hk2).2
          omega
      show w'.ownsRow w0.heap.size (etyD 4) 1 v' (newsD x 4).length (newsD x 4)
      have hn : newsD x 4 = x.texts.map strV := rfl
      rw [hn, List.length_map]
      exact h1
    · refine wpOp_plain rfl rfl ?_
      generalize hK : (fun (a' : Act) (w' : World) => _) = K
      obtain ⟨v0, hv0, hp0⟩ := hdep 3 (by kernel_rfl)
      obtain ⟨v1, hv1, hp1⟩ := hdep 7 (by kernel_rfl)
      obtain ⟨v2, hv2, hp2⟩ := hdep 11 (by kernel_rfl)
      obtain ⟨v3, hv3, hp3⟩ := hdep 15 (by kernel_rfl)
      obtain ⟨v4, hv4, hp4⟩ := hdep 19 (by kernel_rfl)
      have hsv : sepV x v0 v1 v2 v3 v4 := ⟨dD_sep (by omega) (by omega) (hsp 7 3 v1 v0 (by kernel_rfl) (by kernel_rfl) (by omega) hv1 hv0), dD_sep (by omega) (by omega) (hsp 7 11 v1 v2 (by kernel_rfl) (by kernel_rfl) (by omega) hv1 hv2), dD_sep (by omega) (by omega) (hsp 7 15 v1 v3 (by kernel_rfl) (by kernel_rfl) (by omega) hv1 hv3), dD_sep (by omega) (by omega) (hsp 7 19 v1 v4 (by kernel_rfl) (by kernel_rfl) (by omega) hv1 hv4)⟩
      unfold Oper.wp execOp
      clear hdep
      obtain ⟨A0, k0, rfl, hl0⟩ := psiC_form (show psiC x w0.heap.size 0 v0 w1 from hp0) (show (newsD x 0).length = x.bytes.length from List.length_map _)
      obtain ⟨A1, k1, rfl, hl1⟩ := psiC_form (show psiC x w0.heap.size 1 v1 w1 from hp1) (show (newsD x 1).length = x.host.length from List.length_map _)
      obtain ⟨A2, k2, rfl, hl2⟩ := psiC_form (show psiC x w0.heap.size 2 v2 w1 from hp2) (show (newsD x 2).length = x.mail.length from List.length_map _)
      obtain ⟨A3, k3, rfl, hl3⟩ := psiC_form (show psiC x w0.heap.size 3 v3 w1 from hp3) (show (newsD x 3).length = x.nums.length from List.length_map _)
      obtain ⟨A4, k4, rfl, hl4⟩ := psiC_form (show psiC x w0.heap.size 4 v4 w1 from hp4) (show (newsD x 4).length = x.texts.length from List.length_map _)
      simp [hv0, hv1, hv2, hv3, hv4, go_sem]
      rw [← hK]
      exact ⟨_, rfl, bl, ⟨_, _, _, _, _, rfl, hp0, hp1, hp2, hp3, hp4, hsv⟩, fun j u _ _ h => by cases h⟩
  · intro a w1 hbw hsm hall _
    obtain ⟨u, hu, hp⟩ := hall 20 (by omega)
    clear hall
    have hp' : ∃ v0 v1 v2 v3 v4, u = .agg #[v0, v1, v2, v3, v4] ∧ psiC x w0.heap.size 0 v0 w1 ∧ psiC x w0.heap.size 1 v1 w1 ∧ psiC x w0.heap.size 2 v2 w1 ∧ psiC x w0.heap.size 3 v3 w1 ∧ psiC x w0.heap.size 4 v4 w1 ∧ sepV x v0 v1 v2 v3 v4 := hp
    obtain ⟨v0, v1, v2, v3, v4, rfl, h0, h1, h2, h3, h4, hsv⟩ := hp'
    obtain ⟨A0, k0, rfl, hl0⟩ := psiC_form h0 (show (newsD x 0).length = x.bytes.length from List.length_map _)
    obtain ⟨A1, k1, rfl, hl1⟩ := psiC_form h1 (show (newsD x 1).length = x.host.length from List.length_map _)
    obtain ⟨A2, k2, rfl, hl2⟩ := psiC_form h2 (show (newsD x 2).length = x.mail.length from List.length_map _)
    obtain ⟨A3, k3, rfl, hl3⟩ := psiC_form h3 (show (newsD x 3).length = x.nums.length from List.length_map _)
    obtain ⟨A4, k4, rfl, hl4⟩ := psiC_form h4 (show (newsD x 4).length = x.texts.length from List.length_map _)
    have hq2 : a.tmps[2]? = some (.pointer (some ⟨w.heap.size + 1, 0, none⟩)) := (hsm.other 2 (fun j _ e => by have e' : j + 3 = 2 := e; omega)).trans rfl
    have hd1 := (hbw.block _ (Array.getElem?_eq_some_iff.1 HD.out).1).trans HD.out
    have x0 : w1.cell? ⟨w.heap.size + 1, 0, none⟩ = some (.slice none 0 0) := (cell_of_row _ _ _ _ _ _ hd1).trans rfl
    have x1 : w1.cell? ⟨w.heap.size + 1, 1, none⟩ = some (.slice none 0 0) := (cell_of_row _ _ _ _ _ _ hd1).trans rfl
    have x2 : w1.cell? ⟨w.heap.size + 1, 2, none⟩ = some (.slice none 0 0) := (cell_of_row _ _ _ _ _ _ hd1).trans rfl
    have x3 : w1.cell? ⟨w.heap.size + 1, 3, none⟩ = some (.slice none 0 0) := (cell_of_row _ _ _ _ _ _ hd1).trans rfl
    have x4 : w1.cell? ⟨w.heap.size + 1, 4, none⟩ = some (.slice none 0 0) := (cell_of_row _ _ _ _ _ _ hd1).trans rfl
    have f1 : ∀ k, w1.frozen? ⟨w.heap.size + 1, k, none⟩ = false := fun k => frozen_of_row _ _ _ _ _ hd1
    refine wpOp_plain rfl rfl ?_
    unfold Oper.wp execOp
    have hu' : a.tmps[23]? = some (.agg #[.slice A0 x.bytes.length k0, .slice A1 x.host.length k1, .slice A2 x.mail.length k2, .slice A3 x.nums.length k3, .slice A4 x.texts.length k4]) := hu
    simp [hu', hq2, go_sem, x0, x1, x2, x3, x4, f1]
    obtain ⟨w2, hw2⟩ : ∃ w2, w2 = ((((w1.setCell ⟨w.heap.size + 1, 0, none⟩ (.slice A0 x.bytes.length k0)).setCell ⟨w.heap.size + 1, 1, none⟩ (.slice A1 x.host.length k1)).setCell ⟨w.heap.size + 1, 2, none⟩ (.slice A2 x.mail.length k2)).setCell ⟨w.heap.size + 1, 3, none⟩ (.slice A3 x.nums.length k3)).setCell ⟨w.heap.size + 1, 4, none⟩ (.slice A4 x.texts.length k4) := ⟨_, rfl⟩
    have hd2 : w2.heap[w.heap.size + 1]? = some (.cells #[.slice A0 x.bytes.length k0, .slice A1 x.host.length k1, .slice A2 x.mail.length k2, .slice A3 x.nums.length k3, .slice A4 x.texts.length k4] 46 (0, 0)) := by
      rw [hw2]
      exact (heap_setCell_same _ _ _ _ _ _ (heap_setCell_same _ _ _ _ _ _ (heap_setCell_same _ _ _ _ _ _ (heap_setCell_same _ _ _ _ _ _ (heap_setCell_same _ _ _ _ _ _ hd1))))).trans rfl
    have hc2 : Chg (fun k => k = w.heap.size + 1) w1 w2 := by
      rw [hw2]
      have h1 : ∀ {u : World} (j : Nat) (v : Value), Chg (fun k => k = w.heap.size + 1) w1 u → Chg (fun k => k = w.heap.size + 1) w1 (u.setCell ⟨w.heap.size + 1, j, none⟩ v) := fun j v h => h.setCell (p := ⟨w.heap.size + 1, j, none⟩) (Or.inl rfl) v
      exact h1 _ _ (h1 _ _ (h1 _ _ (h1 _ _ (h1 _ _ (Chg.refl _ w1)))))
    rw [← hw2]
    clear hw2 x0 x1 x2 x3 x4 hu' hp hu
    have hx : ∀ j : Nat, w2.cell? ⟨w.heap.size + 1, j, none⟩ = (#[.slice A0 x.bytes.length k0, .slice A1 x.host.length k1, .slice A2 x.mail.length k2, .slice A3 x.nums.length k3, .slice A4 x.texts.length k4] : Array Value)[j]? := fun j => cell_of_row _ _ _ _ _ _ hd2
    have x0 : w2.cell? ⟨w.heap.size + 1, 0, none⟩ = some (.slice A0 x.bytes.length k0) := hx 0
    have x1 : w2.cell? ⟨w.heap.size + 1, 1, none⟩ = some (.slice A1 x.host.length k1) := hx 1
    have x2 : w2.cell? ⟨w.heap.size + 1, 2, none⟩ = some (.slice A2 x.mail.length k2) := hx 2
    have x3 : w2.cell? ⟨w.heap.size + 1, 3, none⟩ = some (.slice A3 x.nums.length k3) := hx 3
    have x4 : w2.cell? ⟨w.heap.size + 1, 4, none⟩ = some (.slice A4 x.texts.length k4) := hx 4
    have hz0 : w.heap.size + 1 < w0.heap.size := (Array.getElem?_eq_some_iff.1 HD.out).1
    have hkeep : ∀ {e : TypeId} {v : Value} {n : Nat} {xs : List Value}, w1.ownsRow w0.heap.size e 1 v n xs → w2.ownsRow w.heap.size e 1 v n xs := fun {e v n xs} h => by
      refine ⟨h.1, ?_⟩
      rcases h.2 with h0 | ⟨g, cap, cur, e1, h2, h3, h4⟩
      · exact .inl h0
      · exact .inr ⟨g, cap, cur, e1, by omega, hc2.heap h3 (by omega), h4⟩
    have hbA : Below w.heap.size w w2 := nx hb0 hbw |>.trans (hc2.below (fun k hk => by omega) (by have := hbw.size; omega))
    have hX := HX.out
    go_wp2
    refine bodyPost_ret (v := dsV ⟨A0, A1, A2, A3, A4, k0, k1, k2, k3, k4⟩ x) ?_ hsm.defers ⟨_, rfl, ⟨_, rfl, ⟨?_, ?_, ?_, ?_, ?_, hsv⟩⟩, hbA⟩
    · simp [results, Try.results105, go_sem, hq2, x0, x1, x2, x3, x4]
      rfl
    · have := hkeep h0
      rw [show (newsD x 0).length = x.bytes.length from List.length_map _] at this
      exact this
    · have := hkeep h1
      rw [show (newsD x 1).length = x.host.length from List.length_map _] at this
      exact own_strs this (strs_max hX.h)
    · have := hkeep h2
      rw [show (newsD x 2).length = x.mail.length from List.length_map _] at this
      exact own_strs this (strs_max hX.m)
    · have := hkeep h3
      rw [show (newsD x 3).length = x.nums.length from List.length_map _] at this
      exact own_ints this (ints_max hX.n)
    · have := hkeep h4
      rw [show (newsD x 4).length = x.texts.length from List.length_map _] at this
      exact own_strs this (strs_max hX.t)
theorem ownData_any (s : DS) (x : Da) (w : World) (hx : DRd w s x) (hbd : x.bytes.length ≤ 8796093022208 ∧ x.host.length ≤ 8796093022208 ∧ x.mail.length ≤ 8796093022208 ∧ x.nums.length ≤ 8796093022208 ∧ x.texts.length ≤ 8796093022208) :
    Calls Try.prog 105 #[dsV s x] w (RetP (fun v w' => ∃ s', v = dsV s' x ∧ DOwn w' w.heap.size s' x) w) := ownData_big s x w hx ⟨Nat.le_trans hbd.1 (by decide), hbd.2⟩
end Go.Proofs.Ytimkdpkhdbiniaa

/- rdata: what a reader says of bytes, in plain Lean. -/
namespace Go.Proofs.Ytimkdpkhdbiniaa

/-- A type's shape. -/
structure Shp where
  bytes : Int
  host : Bool
  mail : Bool
  short : Bool
  nums : Int
  size : Int
  texts : Bool
  first : Bool
def shpA : Shp := ⟨4, false, false, false, 0, 0, false, false⟩
def shpT : Shp := ⟨0, false, false, false, 0, 0, true, false⟩
def shpQ : Shp := ⟨16, false, false, false, 0, 0, false, false⟩
def shpN : Shp := ⟨0, true, false, true, 0, 0, false, false⟩
def shpM : Shp := ⟨0, true, false, true, 1, 2, false, true⟩
def shpS : Shp := ⟨0, true, true, true, 5, 4, false, false⟩
def shpV3 : Shp := ⟨0, true, false, false, 3, 2, false, true⟩
def shpB : Shp := ⟨-1, false, false, false, 0, 0, false, false⟩
/-- The shape of a type. -/
def shapeP (k : Int) : Shp :=
  if k = 1 then shpA else if k = 28 then shpQ else if k = 2 ∨ k = 5 ∨ k = 12 then shpN else if k = 15 then shpM else if k = 6 then shpS else if k = 33 then shpV3 else if k = 16 then shpT else shpB
theorem shape_cases (k : Int) : shapeP k = shpA ∨ shapeP k = shpQ ∨ shapeP k = shpN ∨ shapeP k = shpM ∨ shapeP k = shpS ∨ shapeP k = shpV3 ∨ shapeP k = shpT ∨ shapeP k = shpB := by
  unfold shapeP
  split
  · exact .inl rfl
  split
  · exact .inr (.inl rfl)
  split
  · exact .inr (.inr (.inl rfl))
  split
  · exact .inr (.inr (.inr (.inl rfl)))
  split
  · exact .inr (.inr (.inr (.inr (.inl rfl))))
  split
  · exact .inr (.inr (.inr (.inr (.inr (.inl rfl)))))
  split
  · exact .inr (.inr (.inr (.inr (.inr (.inr (.inl rfl))))))
  · exact .inr (.inr (.inr (.inr (.inr (.inr (.inr rfl))))))

/-- A number: it, and the place behind it; or the error that is given up with. -/
def numR (b : List UInt8) (pos en size : Nat) : Except Int (Nat × Nat) := if en < pos + size then .error 3 else .ok (val ((b.drop pos).take size), pos + size)
def nameX (b : List UInt8) (pos en : Nat) : Except Int (List (List UInt8) × Nat) :=
  if (getP b pos pos 0 []).2.2 = 0 then (if en < (getP b pos pos 0 []).2.1.toNat then .error 3 else .ok ((getP b pos pos 0 []).1, (getP b pos pos 0 []).2.1.toNat)) else .error (getP b pos pos 0 []).2.2
def bytesR (b : List UInt8) (pos en n : Nat) : Except Int (List UInt8 × Nat) := if en < pos + n then .error 3 else .ok ((b.drop pos).take n, pos + n)
/-- So many numbers more, behind those that are there. -/
def numsR (b : List UInt8) (en size : Nat) : Nat → Nat → List Int → Except Int (List Int × Nat)
  | 0, pos, acc => .ok (acc, pos)
  | k + 1, pos, acc => match numR b pos en size with
    | .error e => .error e
    | .ok (n, q) => numsR b en size k q (acc ++ [(n : Int)])
/-- All texts that are left; at most so many more. -/
def textsR (b : List UInt8) (en : Nat) : Nat → Nat → List (List UInt8) → Except Int (List (List UInt8) × Nat)
  | 0, pos, acc => if pos < en then .error 4 else if acc.length = 0 then .error 2 else .ok (acc, pos)
  | k + 1, pos, acc => if pos < en then
      (match numR b pos en 1 with
      | .error e => .error e
      | .ok (n, q) => match bytesR b q en n with
        | .error e => .error e
        | .ok (t, r) => textsR b en k r (acc ++ [t]))
    else if acc.length = 0 then .error 2 else .ok (acc, pos)
def Da.zero : Da := ⟨[], [], [], [], []⟩

/-- What a type says: the parts one behind the other. -/
def dataR (b : List UInt8) (pos en : Nat) (s : Shp) : Except Int (Da × Nat) :=
  if s.bytes = 4 then (match bytesR b pos en 4 with | .error e => .error e | .ok (x, q) => .ok ({ Da.zero with bytes := x }, q))
  else if s.bytes = 16 then (match bytesR b pos en 16 with | .error e => .error e | .ok (x, q) => .ok ({ Da.zero with bytes := x }, q))
  else if s.bytes < 0 then (match bytesR b pos en (en - pos) with | .error e => .error e | .ok (x, q) => .ok ({ Da.zero with bytes := x }, q))
  else if s.texts = true then (match textsR b en 64 pos [] with | .error e => .error e | .ok (x, q) => .ok ({ Da.zero with texts := x }, q))
  else if s.first = true then
    (match numsR b en s.size.toNat s.nums.toNat pos [] with
    | .error e => .error e
    | .ok (x, q) => match nameX b q en with
      | .error e => .error e
      | .ok (n, r) => .ok ({ Da.zero with nums := x, host := n }, r))
  else if s.mail = true then
    (match nameX b pos en with
    | .error e => .error e
    | .ok (n, q) => match nameX b q en with
      | .error e => .error e
      | .ok (m, r) => match numsR b en s.size.toNat s.nums.toNat r [] with
        | .error e => .error e
        | .ok (x, t) => .ok ({ Da.zero with nums := x, host := n, mail := m }, t))
  else (match nameX b pos en with | .error e => .error e | .ok (n, q) => .ok ({ Da.zero with host := n }, q))
/-- What stands at a place for a type: the data and the error. -/
def getD (b : List UInt8) (at_ size k : Int) : Da × Int :=
  if at_ < 0 ∨ size < 0 ∨ k < 1 ∨ 65535 < k then (Da.zero, 1)
  else if (b.length : Int) < at_ ∨ (b.length : Int) - at_ < size then (Da.zero, 3)
  else match dataR b at_.toNat (at_.toNat + size.toNat) (shapeP k) with
    | .error e => (Da.zero, e)
    | .ok (d, q) => if q < at_.toNat + size.toNat then (Da.zero, 7) else (d, 0)
end Go.Proofs.Ytimkdpkhdbiniaa

/- rr: records, in plain Lean; what stands at a place. -/
namespace Go.Proofs.Ytimkdpkhdbiniaa

structure RR where
  name : List (List UInt8)
  type : Int
  cls : Int
  ttl : Int
  data : Da
def RR.zero : RR := ⟨[], 0, 0, 0, Da.zero⟩
end Go.Proofs.Ytimkdpkhdbiniaa

/- num.Get and the reference's: the number at a place. -/
namespace Go.Proofs.Ytimkdpkhdbiniaa
open Go.RowKit

end Go.Proofs.Ytimkdpkhdbiniaa

/- wname.Get: the name at a place, as the program reads it. -/
namespace Go.Proofs.Ytimkdpkhdbiniaa
open Go.RowKit

end Go.Proofs.Ytimkdpkhdbiniaa

/- rdata: the reader's parts, whatever the bytes: num, name, bytes. -/
namespace Go.Proofs.Ytimkdpkhdbiniaa
open Go.RowKit
set_option maxRecDepth 100000

def shpV (s : Shp) : Value := .agg #[.int .i64 s.bytes, .bool s.host, .bool s.mail, .bool s.short, .int .i64 s.nums, .int .i64 s.size, .bool s.texts, .bool s.first]
section
variable {w w' : World} {p : Nat} {v : Value} {pos en : Int}
end
end Go.Proofs.Ytimkdpkhdbiniaa

/- rdata: the reader's parts, whatever the bytes: name, bytes. -/
namespace Go.Proofs.Ytimkdpkhdbiniaa
open Go.RowKit
set_option maxRecDepth 100000

end Go.Proofs.Ytimkdpkhdbiniaa

/- rdata: the reader's bytes, whatever they are. -/
namespace Go.Proofs.Ytimkdpkhdbiniaa
open Go.RowKit
set_option maxRecDepth 100000

end Go.Proofs.Ytimkdpkhdbiniaa

/- Slices of numbers of the call's own. -/
namespace Go.Proofs.Ytimkdpkhdbiniaa
open Go.RowKit

def OwnI (w : World) (base : Nat) (v : Value) (l : List Int) : Prop := OwnE encI 3 noS w base v l
theorem OwnI.nil (w : World) (base : Nat) : OwnI w base (.slice none 0 0) [] := OwnE.nil _ _ _ _
end Go.Proofs.Ytimkdpkhdbiniaa

/- rdata: the reader's numbers. -/
namespace Go.Proofs.Ytimkdpkhdbiniaa
open Go.RowKit
set_option maxRecDepth 100000

def lenOf : Value → Nat
  | .slice _ n _ => n
  | _ => 0
end Go.Proofs.Ytimkdpkhdbiniaa

/- rdata: the reader's texts. -/
namespace Go.Proofs.Ytimkdpkhdbiniaa
open Go.RowKit
set_option maxRecDepth 100000

end Go.Proofs.Ytimkdpkhdbiniaa
