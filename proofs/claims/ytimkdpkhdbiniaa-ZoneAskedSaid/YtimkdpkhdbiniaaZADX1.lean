/- Parts of a proof, joined: OwnP. -/
import Derived.Test.YtimkdpkhdbiniaaZADM05
import Derived.Test.YtimkdpkhdbiniaaZADM02
import Derived.Test.YtimkdpkhdbiniaaZADM01
/- slices.Clone of names and of numbers; rr.Own: data that shares nothing. -/
namespace Go.Proofs.Ytimkdpkhdbiniaa
open Go.RowKit
set_option maxRecDepth 100000

theorem wpL_cloneI {w : World} {So Si : Nat → Prop} {ops : Array Oper} {rest : List Oper} {o : Oper} {a : Act} {Q : Exit → Act → World → Prop} (hgd : Region.wanted o (yielded ops a.tmps) = true) (s x : Operand)
    (ho : o.op = .call { callee := .builtin .append, args := #[s, x], argTypes := #[44, 44] })
    {g : Nat} (hs : a.eval s = .slice (some ⟨g, 0, none⟩) 0 0) (A : Option Addr) (n c : Nat) (ns : List Int) (hx : a.eval x = .slice A n c) (hr : Els encI So Si w A n ns) (hn : n ≤ 8796093022208)
    (h : ∀ v' w', OwnE encI 3 noS w' w.heap.size v' ns → Below w.heap.size w w' → wpList Try.prog ops Q rest (a.put o.dst v') w') (hgs : g = w.heap.size := by simp) : wpList Try.prog ops Q (o :: rest) a (w.alloc (.cells #[] 3)) := by
  subst hgs
  obtain ⟨i, hi, hz, hsz, hby⟩ := info_parts infoI
  have hl := hr.len
  subst hl
  have hone : ∀ u ∈ ns.map intV, u.oneCell' = true := fun u hu => by
    obtain ⟨y, _, rfl⟩ := List.mem_map.1 hu
    rfl
  have hown0 : (w.alloc (.cells #[] 3)).ownsRow w.heap.size 3 1 (.slice (some ⟨w.heap.size, 0, none⟩) 0 0) 0 [] := World.ownsRow_lit (e := 3) (size := 1) w #[] 0 (Nat.le_refl _) (by simp) rfl
  refine wpList_want hgd fun K hK => ?_
  refine wp_append_any (P := Try.prog) s x _ ho w.heap.size 3 i _ 1 8 Try.underlying44 hi hz hsz hby rfl (by decide) _ 0 [] hs hown0 A ns.length c (ns.map intV) hx ((ints_rd hr).below (bl.alloc (Nat.le_refl _) _)) hone (by unfold maxLen; omega) (by omega) (by simp) fun v' w' h1 h2 h3 => hK _ _ (h v' w' ?_ ?_)
  · rw [Nat.zero_add, List.nil_append] at h1
    exact own_ints h1 (ints_max hr)
  · exact (bl.alloc (Nat.le_refl _) _).grown h2 (by simp) (fun k hk => by simp [Value.ownBlock] at hk; omega)

set_option maxHeartbeats 400000 in
theorem cloneS_any {So Si : Nat → Prop} (A : Option Addr) (n c : Nat) (ns : List (List UInt8)) (w : World) (h : Els encS So Si w A n ns) (hm : n ≤ 8796093022208) :
    Calls Try.prog 81 #[.slice A n c] w (RetP (fun v w' => OwnS w' w.heap.size v ns) w) := by
  have hl := h.len
  subst hl
  rcases A with _ | ad
  · have hn : ns = [] := by
      rcases ns with _ | ⟨x, ns⟩
      · rfl
      · obtain ⟨b, off, e, _⟩ := h.flat (by simp); cases e
    subst hn
    have he := fun W : World => Lib.run_eql_slice_nil (P := Try.prog) W 23 9 none ([] : List (List UInt8)).length c 0 0 Try.underlying23
    simp only [List.length_nil, Option.isNone_none] at he
    go_enter Try.func81, Try.ntmps81
    go_wp2
    go_ret
    exact ⟨_, rfl, OwnS.nil _ _, bl⟩
  · have he := fun W : World => Lib.run_eql_slice_nil (P := Try.prog) W 23 9 (some ad) ns.length c 0 0 Try.underlying23
    simp only [Option.isNone_some] at he
    go_enter Try.func81, Try.ntmps81
    go_wp2_with ((with_reducible show wpList _ _ _ (⟨some 7, _, _, _, _, _⟩ :: _) _ _); refine wpL_cloneS rfl (.tmp 5) (.tmp 6) rfl rfl _ _ c ns rfl h hm ?_; intro v2 w2 hown2 hb2)
    go_ret
    exact ⟨_, rfl, hown2, hb2⟩
set_option maxHeartbeats 400000 in
theorem cloneI_any {So Si : Nat → Prop} (A : Option Addr) (n c : Nat) (ns : List Int) (w : World) (h : Els encI So Si w A n ns) (hm : n ≤ 8796093022208) :
    Calls Try.prog 193 #[.slice A n c] w (RetP (fun v w' => OwnE encI 3 noS w' w.heap.size v ns) w) := by
  have hl := h.len
  subst hl
  rcases A with _ | ad
  · have hn : ns = [] := by
      rcases ns with _ | ⟨x, ns⟩
      · rfl
      · obtain ⟨b, off, e, _⟩ := h.flat (by simp); cases e
    subst hn
    have he := fun W : World => Lib.run_eql_slice_nil (P := Try.prog) W 44 3 none ([] : List Int).length c 0 0 Try.underlying44
    simp only [List.length_nil, Option.isNone_none] at he
    go_enter Try.func193, Try.ntmps193
    go_wp2
    go_ret
    exact ⟨_, rfl, OwnE.nil _ _ _ _, bl⟩
  · have he := fun W : World => Lib.run_eql_slice_nil (P := Try.prog) W 44 3 (some ad) ns.length c 0 0 Try.underlying44
    simp only [Option.isNone_some] at he
    go_enter Try.func193, Try.ntmps193
    go_wp2_with ((with_reducible show wpList _ _ _ (⟨some 7, _, _, _, _, _⟩ :: _) _ _); refine wpL_cloneI rfl (.tmp 5) (.tmp 6) rfl rfl _ _ c ns rfl h hm ?_; intro v2 w2 hown2 hb2)
    go_ret
    exact ⟨_, rfl, hown2, hb2⟩

theorem DBox.far5 {w : World} {q p : Nat} {s : DS} {x : Da} (h : DBox w q s x) (hq : q ≠ p) (v0 v1 v2 v3 v4 : Value) : DBox (((((w.setCell ⟨p, 0, none⟩ v0).setCell ⟨p, 1, none⟩ v1).setCell ⟨p, 2, none⟩ v2).setCell ⟨p, 3, none⟩ v3).setCell ⟨p, 4, none⟩ v4) q s x := by
  obtain ⟨h0, h1, h2, h3, h4⟩ := h
  have k : ∀ (j : Nat) (u : Value), w.cell? ⟨q, j, none⟩ = some u → (((((w.setCell ⟨p, 0, none⟩ v0).setCell ⟨p, 1, none⟩ v1).setCell ⟨p, 2, none⟩ v2).setCell ⟨p, 3, none⟩ v3).setCell ⟨p, 4, none⟩ v4).cell? ⟨q, j, none⟩ = some u := fun j u hu => by
    have hne : ∀ i : Nat, (⟨p, i, none⟩ : Addr).block ≠ (⟨q, j, none⟩ : Addr).block := fun i e => hq e.symm
    rw [World.cell?_setCell_far _ _ _ _ (hne 4), World.cell?_setCell_far _ _ _ _ (hne 3), World.cell?_setCell_far _ _ _ _ (hne 2), World.cell?_setCell_far _ _ _ _ (hne 1), World.cell?_setCell_far _ _ _ _ (hne 0)]
    exact hu
  exact ⟨k 0 _ h0, k 1 _ h1, k 2 _ h2, k 3 _ h3, k 4 _ h4⟩
theorem set5 {w : World} {g : Nat} {t : TypeId} {a0 a1 a2 a3 a4 : Value} (h : w.heap[g]? = some (.cells #[a0, a1, a2, a3, a4] t (0, 0))) (v0 v1 v2 v3 v4 : Value) : (((((w.setCell ⟨g, 0, none⟩ v0).setCell ⟨g, 1, none⟩ v1).setCell ⟨g, 2, none⟩ v2).setCell ⟨g, 3, none⟩ v3).setCell ⟨g, 4, none⟩ v4).heap[g]? = some (.cells #[v0, v1, v2, v3, v4] t (0, 0)) :=
  heap_setCell_same _ _ 4 _ _ _ (heap_setCell_same _ _ 3 _ _ _ (heap_setCell_same _ _ 2 _ _ _ (heap_setCell_same _ _ 1 _ _ _ (heap_setCell_same _ _ 0 _ _ _ h))))
/-- Data so small that it can be copied. -/
def LightB (x : Da) : Prop := x.bytes.length ≤ 8796093022208 ∧ x.host.length ≤ 8796093022208 ∧ x.mail.length ≤ 8796093022208 ∧ x.nums.length ≤ 8796093022208 ∧ x.texts.length ≤ 8796093022208

set_option maxHeartbeats 4000000 in
theorem pown_got (s : DS) (x : Da) (w : World) {S : Nat → Prop} (hx : DIn S w s x) (hS : ∀ b, S b → b < w.heap.size) (hL : LightB x) :
    Calls Try.prog 171 #[dsV s x] w (RetP (fun v w' => ∃ s', v = dsV s' x ∧ DGot w' w.heap.size s' x) w) := by
  unfold dsV
  obtain ⟨w1, hw1⟩ : ∃ w1, w1 = w.alloc (.cells #[.slice s.A0 x.bytes.length s.c0, .slice s.A1 x.host.length s.c1, .slice s.A2 x.mail.length s.c2, .slice s.A3 x.nums.length s.c3, .slice s.A4 x.texts.length s.c4] 46) := ⟨_, rfl⟩
  obtain ⟨w0, hw0⟩ : ∃ w0, w0 = w1.alloc (.cells #[.slice none 0 0, .slice none 0 0, .slice none 0 0, .slice none 0 0, .slice none 0 0] 46) := ⟨_, rfl⟩
  have hb1 : Below w.heap.size w w1 := by rw [hw1]; exact bl.alloc (Nat.le_refl _) _
  have hb2 : Below w1.heap.size w1 w0 := by rw [hw0]; exact bl.alloc (Nat.le_refl _) _
  have hz1 : w1.heap.size = w.heap.size + 1 := by rw [hw1]; simp
  have hz0 : w0.heap.size = w.heap.size + 2 := by rw [hw0]; simp; omega
  have hb0 := nx hb1 hb2
  have hX : DIn S w0 s x := hx.below hb0 hS
  have HX := Lib.hid hX
  have HS0 : Hid (∀ b, S b → b < w0.heap.size) := fun b hb => Nat.lt_of_lt_of_le (hS b hb) hb0.size
  have HL := Lib.hid hL
  have BX : Hid (DBox w0 w.heap.size s x) := by show DBox _ _ _ _; have h : DBox w1 w.heap.size s x := by { rw [hw1]; exact DBox.made w s x _ }; exact h.below hb2
  have hrow : w0.heap[w.heap.size + 1]? = some (.cells #[.slice none 0 0, .slice none 0 0, .slice none 0 0, .slice none 0 0, .slice none 0 0] 46 (0, 0)) := by rw [← hz1, hw0]; exact heap_alloc_new w1 _
  have HROW := Lib.hid hrow
  have HB0 := Lib.hid hb0
  have HZ0 := Lib.hid hz0
  obtain ⟨a0, a1, a2, a3, a4⟩ := BX.out
  have p0 : w0.drew.cell? ⟨w.heap.size, 0, none⟩ = some (.slice s.A0 x.bytes.length s.c0) ∧ w0.drew.cell? ⟨w.heap.size, 1, none⟩ = some (.slice s.A1 x.host.length s.c1) ∧ w0.drew.cell? ⟨w.heap.size, 2, none⟩ = some (.slice s.A2 x.mail.length s.c2) ∧ w0.drew.cell? ⟨w.heap.size, 3, none⟩ = some (.slice s.A3 x.nums.length s.c3) ∧ w0.drew.cell? ⟨w.heap.size, 4, none⟩ = some (.slice s.A4 x.texts.length s.c4) := ⟨below_cell bl.drew a0, below_cell bl.drew a1, below_cell bl.drew a2, below_cell bl.drew a3, below_cell bl.drew a4⟩
  clear hx hS hL hb1 hb2 hz1 hz0 hb0 hX hrow
  go_enter Try.func171, Try.ntmps171
  go_upto_region 1 with (fail)
  rw [← hw1, ← hw0]
  clear hw1 hw0
  go_region_held3 (fun w' => w'.cell? ⟨w.heap.size, 0, none⟩ = some (.slice s.A0 x.bytes.length s.c0) ∧ w'.cell? ⟨w.heap.size, 1, none⟩ = some (.slice s.A1 x.host.length s.c1) ∧ w'.cell? ⟨w.heap.size, 2, none⟩ = some (.slice s.A2 x.mail.length s.c2) ∧ w'.cell? ⟨w.heap.size, 3, none⟩ = some (.slice s.A3 x.nums.length s.c3) ∧ w'.cell? ⟨w.heap.size, 4, none⟩ = some (.slice s.A4 x.texts.length s.c4))
    (first
      | with_reducible exact p0
      | with_reducible exact p1
      | with_reducible exact p2
      | with_reducible exact p3
      | with_reducible exact p4
      | with_reducible exact p5
      | with_reducible exact p6
      | fail)
    (first
      | (go_at_call 81; refine (cloneS_any s.A4 _ s.c4 x.texts w4 (HX.out.below hB4 HS0.out).t HL.out.2.2.2.2).mono ?_; rintro e w5 ⟨v5, rfl, ho5, hb5⟩; obtain ⟨C4, k4, rfl, _⟩ := OwnE.form ho5; have hB5 := nx hB4 hb5; have hr5 := (hB5.block (w.heap.size + 1) (by have := HZ0.out; omega)).trans HROW.out; have g0 := (cell_of_row _ _ 0 _ _ _ hr5).trans rfl; have g1 := (cell_of_row _ _ 1 _ _ _ hr5).trans rfl; have g2 := (cell_of_row _ _ 2 _ _ _ hr5).trans rfl; have g3 := (cell_of_row _ _ 3 _ _ _ hr5).trans rfl; have g4 := (cell_of_row _ _ 4 _ _ _ hr5).trans rfl; have f0 : ∀ k, w5.frozen? ⟨w.heap.size + 1, k, none⟩ = false := fun k => frozen_of_row _ _ _ _ _ hr5; have p6 : _ ∧ _ := (BX.out.below hB5).far5 (p := w.heap.size + 1) (Nat.ne_of_lt (Nat.lt_succ_self _)) (.slice C0 x.bytes.length k0) (.slice C1 x.host.length k1) (.slice C2 x.mail.length k2) (.slice C3 x.nums.length k3) (.slice C4 x.texts.length k4); have p5 : _ ∧ _ := BX.out.below hB5)
      | (go_at_call 193; refine (cloneI_any s.A3 _ s.c3 x.nums w3 (HX.out.below hB3 HS0.out).n HL.out.2.2.2.1).mono ?_; rintro e w4 ⟨v4, rfl, ho4, hb4⟩; obtain ⟨C3, k3, rfl, _⟩ := OwnE.form ho4; have hB4 := nx hB3 hb4; have p4 : _ ∧ _ := BX.out.below hB4)
      | (go_at_call 81; refine (cloneS_any s.A2 _ s.c2 x.mail w2 (HX.out.below hB2 HS0.out).m HL.out.2.2.1).mono ?_; rintro e w3 ⟨v3, rfl, ho3, hb3⟩; obtain ⟨C2, k2, rfl, _⟩ := OwnE.form ho3; have hB3 := nx hB2 hb3; have p3 : _ ∧ _ := BX.out.below hB3)
      | (go_at_call 81; refine (cloneS_any s.A1 _ s.c1 x.host w1' (HX.out.below hB1 HS0.out).h HL.out.2.1).mono ?_; rintro e w2 ⟨v2, rfl, ho2, hb2⟩; obtain ⟨C1, k1, rfl, _⟩ := OwnE.form ho2; have hB2 := nx hB1 hb2; have p2 : _ ∧ _ := BX.out.below hB2)
      | (go_at_call 152; refine (sclone_any s.A0 _ s.c0 x.bytes w0.drew (els_bytes (HX.out.below bl.drew HS0.out).b) (by have := HL.out.1; omega)).mono ?_; rintro e w1' ⟨v1, rfl, ho1, hb1⟩; obtain ⟨C0, k0, rfl, _⟩ := ho1.form; have hB1 : Below w0.heap.size w0 w1' := bl.drew.trans hb1; have p1 : _ ∧ _ := BX.out.below hB1)
      | fail)
  obtain ⟨wm, hwm⟩ : ∃ wm, wm = (((((w5.setCell ⟨w.heap.size + 1, 0, none⟩ (.slice C0 x.bytes.length k0)).setCell ⟨w.heap.size + 1, 1, none⟩ (.slice C1 x.host.length k1)).setCell ⟨w.heap.size + 1, 2, none⟩ (.slice C2 x.mail.length k2)).setCell ⟨w.heap.size + 1, 3, none⟩ (.slice C3 x.nums.length k3)).setCell ⟨w.heap.size + 1, 4, none⟩ (.slice C4 x.texts.length k4)) := ⟨_, rfl⟩
  have hrm : wm.heap[w.heap.size + 1]? = some (.cells #[.slice C0 x.bytes.length k0, .slice C1 x.host.length k1, .slice C2 x.mail.length k2, .slice C3 x.nums.length k3, .slice C4 x.texts.length k4] 46 (0, 0)) := by rw [hwm]; exact set5 hr5 _ _ _ _ _
  have hcm : Chg (fun z => z = w.heap.size + 1) w5 wm := by
    rw [hwm]
    have k : ∀ {u : World} (j : Nat) (v : Value), Chg (fun k => k = w.heap.size + 1) w5 u → Chg (fun k => k = w.heap.size + 1) w5 (u.setCell ⟨w.heap.size + 1, j, none⟩ v) := fun j v h => h.setCell (p := ⟨w.heap.size + 1, j, none⟩) (Or.inl rfl) v
    exact k 4 _ (k 3 _ (k 2 _ (k 1 _ (k 0 _ (Chg.refl _ w5)))))
  rw [← hwm]
  have z0 : wm.cell? ⟨w.heap.size + 1, 0, none⟩ = some (.slice C0 x.bytes.length k0) := (cell_of_row _ _ 0 _ _ _ hrm).trans rfl
  have z1 : wm.cell? ⟨w.heap.size + 1, 1, none⟩ = some (.slice C1 x.host.length k1) := (cell_of_row _ _ 1 _ _ _ hrm).trans rfl
  have z2 : wm.cell? ⟨w.heap.size + 1, 2, none⟩ = some (.slice C2 x.mail.length k2) := (cell_of_row _ _ 2 _ _ _ hrm).trans rfl
  have z3 : wm.cell? ⟨w.heap.size + 1, 3, none⟩ = some (.slice C3 x.nums.length k3) := (cell_of_row _ _ 3 _ _ _ hrm).trans rfl
  have z4 : wm.cell? ⟨w.heap.size + 1, 4, none⟩ = some (.slice C4 x.texts.length k4) := (cell_of_row _ _ 4 _ _ _ hrm).trans rfl
  have s0 := HZ0.out
  have s1 : w0.heap.size ≤ w1'.heap.size := hB1.size
  have s2 := hb2.size
  have s3 := hb3.size
  have s4 := hb4.size
  have s5 := hb5.size
  have sm := hcm.size
  have sd : w0.drew.heap.size = w0.heap.size := rfl
  have e1 := ownB_chg ((((ho1.below hb2).below hb3).below hb4).below hb5) hcm (fun k h1 _ e => by omega) |>.mono (base' := w.heap.size) (by omega)
  have e2 := OwnE.base_le (base' := w.heap.size) (ownE_chg (((ho2.below hb3).below hb4).below hb5) hcm (fun k h1 _ e => by omega)) (by omega)
  have e3 := OwnE.base_le (base' := w.heap.size) (ownE_chg ((ho3.below hb4).below hb5) hcm (fun k h1 _ e => by omega)) (by omega)
  have e4 := OwnE.base_le (base' := w.heap.size) (ownE_chg (ho4.below hb5) hcm (fun k h1 _ e => by omega)) (by omega)
  have e5 := OwnE.base_le (base' := w.heap.size) (ownE_chg ho5 hcm (fun k h1 _ e => by omega)) (by omega)
  have hbm : Below w.heap.size w wm := (nx HB0.out hB5).trans (hcm.below (fun z hz => by omega) (by omega))
  clear p0 p1 p2 p3 p4 p5 p6 g0 g1 g2 g3 g4
  go_wp2
  refine bodyPost_ret (v := dsV ⟨C0, C1, C2, C3, C4, k0, k1, k2, k3, k4⟩ x) ?_ rfl ⟨_, rfl, ⟨_, rfl, ⟨e1, e2, e3, e4, e5⟩⟩, hbm⟩
  simp [results, Try.results171, go_sem, z0, z1, z2, z3, z4]
  rfl
end Go.Proofs.Ytimkdpkhdbiniaa
