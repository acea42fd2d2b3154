/- Parts of a proof, joined: RMsBnd, AppE, RPut, RWMem, RWName, RWName2, RWName3, RPut5. -/
import Derived.Deep.RegionLaw
import Derived.Test.YtimkdpkhdbiniaaQ07
import Derived.Test.YtimkdpkhdbiniaaQ13
import Derived.Test.YtimkdpkhdbiniaaQ01
import Derived.Test.YtimkdpkhdbiniaaQ02
import Derived.Test.YtimkdpkhdbiniaaQ04
import Derived.Test.YtimkdpkhdbiniaaQ03
/- Messages: how much the reference writes of one. No program in it. -/
namespace Go.Proofs.Ytimkdpkhdbiniaa
open Go.RowKit
set_option maxRecDepth 100000

theorem RW.Fine.nums2 {y : RW} (h : y.Fine) (l : List Int) : (y.nums2 l).Fine := by
  unfold RW.nums2
  refine snoc_ind (P := fun l => (l.foldl RW.num2 y).Fine) h (fun l n ih => ?_) l
  rw [List.foldl_append]
  exact ih.raw _
theorem RW.Fine.qu {y : RW} (h : y.Fine) {q : Qu} (hf : FineQ q) : (y.qu q).Fine := ((RW.Fine.name hf.1 true h).raw _).raw _
theorem RW.Fine.qus {y : RW} (h : y.Fine) (l : List Qu) : (∀ q ∈ l, FineQ q) → (y.qus l).Fine := by
  unfold RW.qus
  refine snoc_ind (P := fun l => (∀ q ∈ l, FineQ q) → (l.foldl RW.qu y).Fine) (fun _ => h) (fun l n ih hf => ?_) l
  obtain ⟨h1, h2⟩ := allp_snoc hf
  rw [List.foldl_append]
  exact (ih h1).qu h2
theorem RW.Fine.rrs {y : RW} (h : y.Fine) (l : List RR) : (∀ q ∈ l, FineK q) → (y.rrs l).Fine := by
  unfold RW.rrs
  refine snoc_ind (P := fun l => (∀ q ∈ l, FineK q) → (l.foldl RW.rr y).Fine) (fun _ => h) (fun l n ih hf => ?_) l
  obtain ⟨h1, h2⟩ := allp_snoc hf
  rw [List.foldl_append]
  exact (ih h1).rr h2.2
theorem RW.nums2_rests (y : RW) (l : List Int) : (y.nums2 l).rests = y.rests := by
  unfold RW.nums2
  refine snoc_ind (P := fun l => (l.foldl RW.num2 y).rests = y.rests) rfl (fun l n ih => ?_) l
  rw [List.foldl_append]
  exact ih
theorem RW.qus_rests (y : RW) (l : List Qu) : (∀ q ∈ l, FineQ q) → (y.qus l).rests.length ≤ y.rests.length + 255 * l.length := by
  unfold RW.qus
  refine snoc_ind (P := fun l => (∀ q ∈ l, FineQ q) → (l.foldl RW.qu y).rests.length ≤ y.rests.length + 255 * l.length) (fun _ => Nat.le_refl _) (fun l n ih hf => ?_) l
  obtain ⟨h1, h2⟩ := allp_snoc hf
  rw [List.foldl_append]
  have h3 := ih h1
  have h4 := RW.name_rests (x := l.foldl RW.qu y) n.name true
  have h5 := sizeN_length n.name
  have h6 := h2.1.2
  show ((l.foldl RW.qu y).name n.name true).rests.length ≤ _
  rw [List.length_append, List.length_singleton]
  omega
theorem RW.rrs_rests (y : RW) (l : List RR) : (∀ q ∈ l, FineK q) → (y.rrs l).rests.length ≤ y.rests.length + 765 * l.length := by
  unfold RW.rrs
  refine snoc_ind (P := fun l => (∀ q ∈ l, FineK q) → (l.foldl RW.rr y).rests.length ≤ y.rests.length + 765 * l.length) (fun _ => Nat.le_refl _) (fun l n ih hf => ?_) l
  obtain ⟨h1, h2⟩ := allp_snoc hf
  rw [List.foldl_append]
  have h3 := ih h1
  have h4 := (l.foldl RW.rr y).rr_rests h2.2
  show ((l.foldl RW.rr y).rr n).rests.length ≤ _
  rw [List.length_append, List.length_singleton]
  omega
/-- Both writers behind some questions. -/
def quX (m : Ms) (k : Nat) : Wr := (Wr.nil.nums2 (headN m)).qus (m.qs.take k)
def quY (m : Ms) (k : Nat) : RW := (RW.nil.nums2 (headN m)).qus (m.qs.take k)
structure Both (x : Wr) (y : RW) (n : Nat) : Prop where
  al : Alike x y
  fine : y.Fine
  b : y.b.length ≤ n
  r : y.rests.length ≤ 600000
theorem quY_ok {m : Ms} (hf : FineM m) (k : Nat) : Both (quX m k) (quY m k) 140000 := by
  have h1 := (alike_nil.nums2 (headN m)).qus (m.qs.take k) (fineQ_take hf.qs k)
  have h2 := quW_bnd hf k
  have h3 := RW.qus_rests (RW.nil.nums2 (headN m)) (m.qs.take k) (fineQ_take hf.qs k)
  rw [RW.nums2_rests] at h3
  have h4 : (m.qs.take k).length ≤ m.qs.length := List.length_take_le' _ _
  have h5 := hf.tot
  unfold totM at h5
  have h6 : RW.nil.rests.length = 0 := rfl
  exact ⟨h1, (RW.fine_nil.nums2 _).qus _ (fineQ_take hf.qs k), by have e : (quX m k).b = (quY m k).b := h1.1; rw [← e]; exact h2.1, by show ((RW.nil.nums2 (headN m)).qus (m.qs.take k)).rests.length ≤ _; omega⟩
def allR (m : Ms) : List RR := m.an ++ m.au ++ m.ex
theorem allR_fine {m : Ms} (h : FineM m) : ∀ r ∈ allR m, FineK r := by
  intro r hr
  rcases List.mem_append.1 hr with hr | hr
  · rcases List.mem_append.1 hr with hr | hr
    · exact h.an r hr
    · exact h.au r hr
  · exact h.ex r hr
def rrX (m : Ms) (k : Nat) : Wr := (quX m m.qs.length).rrs ((allR m).take k)
def rrY (m : Ms) (k : Nat) : RW := (quY m m.qs.length).rrs ((allR m).take k)
/-- Not too large to be written. -/
def BigOk (m : Ms) : Prop := bytesM m + 16660 * totM m ≤ 8740000
theorem rrY_ok {m : Ms} (hf : FineM m) (hb : BigOk m) (k : Nat) : Both (rrX m k) (rrY m k) 8900000 := by
  have h0 := quY_ok hf m.qs.length
  have h1 := h0.al.rrs ((allR m).take k) (fineK_take (allR_fine hf) k)
  have h2 := rrs_bnd (quX m m.qs.length) ((allR m).take k) (fineK_take (allR_fine hf) k)
  have h3 := RW.rrs_rests (quY m m.qs.length) ((allR m).take k) (fineK_take (allR_fine hf) k)
  have h4 : ((allR m).take k).length ≤ (allR m).length := List.length_take_le' _ _
  have h5 := hf.tot
  unfold BigOk at hb
  unfold totM at h5 hb
  have h6 := bytesL_take (allR m) k
  have h7 : bytesL (allR m) = bytesM m := by unfold allR bytesM; rw [bytesL_append, bytesL_append]
  have h8 : (allR m).length = m.an.length + m.au.length + m.ex.length := by unfold allR; rw [List.length_append, List.length_append]
  have e0 : (quX m m.qs.length).b = (quY m m.qs.length).b := h0.al.1
  have h9 := h0.b
  rw [← e0] at h9
  have h10 := RW.qus_rests (RW.nil.nums2 (headN m)) (m.qs.take m.qs.length) (fineQ_take hf.qs _)
  rw [RW.nums2_rests] at h10
  have h11 : (m.qs.take m.qs.length).length ≤ m.qs.length := List.length_take_le' _ _
  have h12 : RW.nil.rests.length = 0 := rfl
  have h13 : (quY m m.qs.length).rests.length ≤ 255 * m.qs.length := by show ((RW.nil.nums2 (headN m)).qus (m.qs.take m.qs.length)).rests.length ≤ _; omega
  refine ⟨h1, h0.fine.rrs _ (fineK_take (allR_fine hf) k), ?_, ?_⟩
  · have e : (rrX m k).b = (rrY m k).b := h1.1
    rw [← e]
    show ((quX m m.qs.length).rrs ((allR m).take k)).b.length ≤ _
    omega
  · show ((quY m m.qs.length).rrs ((allR m).take k)).rests.length ≤ _
    omega
theorem quY_take {m : Ms} {k : Nat} {q : Qu} (h : m.qs[k]? = some q) : quY m (k + 1) = (quY m k).qu q := foldl_take _ _ h
theorem rrY_take {m : Ms} {k : Nat} {r : RR} (h : (allR m)[k]? = some r) : rrY m (k + 1) = (rrY m k).rr r := foldl_take _ _ h
theorem rrY_all (m : Ms) : (rrY m (allR m).length).opt m = msR m := by
  unfold rrY quY msR
  rw [List.take_length, List.take_length]
  rfl
theorem ms_bytes {m : Ms} (h : FineM m) : (msR m).b = (msW m).b := (ms_alike h).1.symm
theorem rraw_len (y : RW) (l : List UInt8) : (y.raw l).b.length = y.b.length + l.length := by simp [RW.raw]
end Go.Proofs.Ytimkdpkhdbiniaa

/- append(s, x...): s a row of the call's own, x whatever elements that read by the Enc. No program in it. -/
namespace Go.Proofs.Ytimkdpkhdbiniaa
open Go.RowKit

section
variable {α : Type} {E : Enc α} {w : World} {So Si : Nat → Prop}
/-- The cells of elements, one behind the other. -/
theorem els_cells {b off : Nat} {ys : List α} (h : ∀ i x, ys[i]? = some x → ∃ r, E.R Si w r x ∧ ∀ j u, r[j]? = some u → w.cell? ⟨b, off + (i * E.size + j), none⟩ = some u) :
    ∃ r : List Value, r.length = ys.length * E.size ∧ (∀ j u, r[j]? = some u → w.cell? ⟨b, off + j, none⟩ = some u) ∧ (∀ i x, ys[i]? = some x → E.R Si w ((r.drop (i * E.size)).take E.size) x) ∧ ∀ u ∈ r, u.oneCell' = true := by
  revert h
  refine snoc_ind (P := fun ys => (∀ i x, ys[i]? = some x → ∃ r, E.R Si w r x ∧ ∀ j u, r[j]? = some u → w.cell? ⟨b, off + (i * E.size + j), none⟩ = some u) → ∃ r : List Value, r.length = ys.length * E.size ∧ (∀ j u, r[j]? = some u → w.cell? ⟨b, off + j, none⟩ = some u) ∧ (∀ i x, ys[i]? = some x → E.R Si w ((r.drop (i * E.size)).take E.size) x) ∧ ∀ u ∈ r, u.oneCell' = true) (fun _ => ⟨[], by simp, fun j u h => by simp at h, fun i x h => by simp at h, fun u h => by simp at h⟩) (fun ys y ih h => ?_) ys
  obtain ⟨r, h1, h2, h3, h4⟩ := ih fun i x hx => h i x (by rw [List.getElem?_append_left (List.getElem?_eq_some_iff.1 hx).1]; exact hx)
  obtain ⟨s, hs, hc⟩ := h ys.length y (by rw [List.getElem?_append_right (Nat.le_refl _), Nat.sub_self]; rfl)
  have hsl := E.len hs
  refine ⟨r ++ s, by rw [List.length_append, List.length_append, List.length_singleton, h1, hsl, Nat.add_mul, Nat.one_mul], fun j u hu => ?_, fun i x hx => ?_, fun u hu => (List.mem_append.1 hu).elim (h4 u) (E.one hs u)⟩
  · by_cases hj : j < r.length
    · rw [List.getElem?_append_left hj] at hu
      exact h2 j u hu
    · rw [List.getElem?_append_right (by omega)] at hu
      have := hc _ u hu
      rw [← h1, show r.length + (j - r.length) = j by omega] at this
      exact this
  · by_cases hi : i < ys.length
    · rw [List.getElem?_append_left hi] at hx
      rw [chunk h1 hx rfl]
      exact h3 i x hx
    · rw [List.getElem?_append_right (by omega)] at hx
      have hi0 : i = ys.length := by
        have := (List.getElem?_eq_some_iff.1 hx).1
        simp at this
        omega
      subst hi0
      rw [Nat.sub_self] at hx
      injection hx with hx
      subst hx
      rw [← h1, List.drop_append_of_le_length (Nat.le_refl _), List.drop_length, List.nil_append, List.take_of_length_le (by omega)]
      exact hs
theorem els_rd {A : Option Addr} {n : Nat} {ys : List α} (h : Els E So Si w A n ys) : ∃ r : List Value, Rd w E.size A n r ∧ (∀ i x, ys[i]? = some x → E.R Si w ((r.drop (i * E.size)).take E.size) x) ∧ ∀ u ∈ r, u.oneCell' = true := by
  by_cases hn : 0 < n
  · obtain ⟨b, off, rfl, _, hx⟩ := h.2 hn
    obtain ⟨r, h1, h2, h3, h4⟩ := els_cells hx
    exact ⟨r, ⟨by rw [h1, h.1], fun _ => ⟨b, off, rfl, h2⟩⟩, h3, h4⟩
  · obtain rfl : n = 0 := by omega
    have : ys = [] := List.eq_nil_of_length_eq_zero h.1
    subst this
    exact ⟨[], Rd.nil _ _ _, fun i x h => by simp at h, fun u h => by simp at h⟩
theorem chunk_r {cells r : List Value} {n i : Nat} (hc : cells.length = n * E.size) :
    ((cells ++ r).drop ((n + i) * E.size)).take E.size = (r.drop (i * E.size)).take E.size := by
  rw [Nat.add_mul, ← hc, List.drop_append, List.drop_of_length_le (by omega), List.nil_append]
  congr 2
  omega
end
/-- append(s, x...), in a drawn region. -/
theorem step_appE {α : Type} {P : Program} {T e : TypeId} {E : Enc α} {bytes : Nat} {w : World} (ht : ElT P T e E bytes) {ops : Array Oper} {o : Oper} {a : Act} {K : Act → World → Prop} {Q : Exit → Act → World → Prop} {X : Prop} (hgd : Region.wanted o (yielded ops a.tmps) = true) (s x : Operand)
    (ho : o.op = .call { callee := .builtin .append, args := #[s, x], argTypes := #[T, T] })
    (base : Nat) (v : Value) (xs : List α) {S : Nat → Prop} (hs : a.eval s = v) (hown : OwnE E e S w base v xs) (A : Option Addr) (n c : Nat) (ys : List α) {So S' : Nat → Prop} (hr : Els E So S' w A n ys) (hS' : ∀ b, S' b → b < w.heap.size ∧ some b ≠ v.ownBlock)
    (hx : a.eval x = .slice A n c) (hb : (xs.length + n) * bytes ≤ 140737488355328) (hl : xs.length + n ≤ maxLen) (hbase : base ≤ w.heap.size)
    (h : ∀ v' w', OwnE E e (orS S S') w' base v' (xs ++ ys) → w.grownBy w' v.ownBlock → (v'.ownBlock = v.ownBlock ∨ v'.ownBlock = some w.heap.size) → K (a.put o.dst v') w') :
    if Region.wanted o (yielded ops a.tmps) = true then Oper.wp P o a w K Q else X := by
  rw [if_pos hgd]
  obtain ⟨hT, i, z, hi, hz, hsz, hby, hzc⟩ := ht
  have hlt := hown.lt
  obtain ⟨cells, hw, hread, hS⟩ := hown
  obtain ⟨r, hrd, hrr, hone⟩ := els_rd hr
  have hyl := hr.len
  refine wp_append_any (P := P) s x _ ho base e i z E.size bytes hT hi hz hsz hby hzc E.pos v xs.length _ hs hw A n c r hx hrd hone hl hb hbase fun v' w' h1 h2 h3 => h v' w' ?_ h2 h3
  have hbl : ∀ b, b < w.heap.size → some b ≠ v.ownBlock → w'.heap[b]? = w.heap[b]? := fun b hb1 hb2 => h2.block b hb1 hb2
  refine ⟨cells ++ r, by rw [List.length_append, hyl]; exact h1, fun j y' hy => ?_, fun b hb' => ?_⟩
  · by_cases hj : j < xs.length
    · rw [List.getElem?_append_left hj] at hy
      rw [chunk hw.1 hy rfl]
      exact E.mono (fun b hb' => .inl hb') (E.keep (fun b hb' => hbl b (hS b hb').1 (hS b hb').2) (hread j y' hy))
    · rw [List.getElem?_append_right (by omega)] at hy
      have hy2 := hy
      have he : j = xs.length + (j - xs.length) := by omega
      rw [he, chunk_r hw.1]
      exact E.mono (fun b hb' => .inr hb') (E.keep (fun b hb' => hbl b (hS' b hb').1 (hS' b hb').2) (hrr _ y' hy2))
  · have hb2 : b < w.heap.size ∧ some b ≠ v.ownBlock := hb'.elim (fun h => hS b h) (fun h => hS' b h)
    refine ⟨Nat.lt_of_lt_of_le hb2.1 h2.size, ?_⟩
    rcases h3 with h3 | h3
    · rw [h3]; exact hb2.2
    · rw [h3]
      intro hc
      injection hc with hc
      omega
/-- A row of no elements. -/
theorem ownE_lit0 {α : Type} {E : Enc α} {e : TypeId} {w : World} {S : Nat → Prop} {base : Nat} (hS : ∀ b, S b → b < w.heap.size) (hb : base ≤ w.heap.size) : OwnE E e S (w.alloc (.cells #[] e)) base (.slice (some ⟨w.heap.size, 0, none⟩) 0 0) [] :=
  ⟨[], World.ownsRow_lit (e := e) (size := E.size) w #[] 0 hb (by simp) (by simp), fun i x h => by simp at h, fun b h => ⟨by have := hS b h; simp; omega, fun he => by have h1 := hS b h; injection he with he; rw [he] at h1; exact Nat.lt_irrefl _ h1⟩⟩
end Go.Proofs.Ytimkdpkhdbiniaa

/- gazetteerref01.Put: a number behind bytes. -/
namespace Go.Proofs.Ytimkdpkhdbiniaa
open Go.RowKit

set_option maxHeartbeats 400000 in
theorem rput_any (A : Option Addr) (m c : Nat) (bs : List UInt8) (n size : Int) (w : World) (hb : RdB w A m bs) (hm : m ≤ 140737488355000) (hn : n ≤ 9223372036854775807) :
    Calls Try.prog 113 #[.slice A m c, .int .i64 n, .int .i64 size] w (RetP (fun v w' => OwnB w' w.heap.size v (putB bs n size)) w) := by
  have hlb := Lib.hid hb.len
  by_cases hf : fitsB n size = true
  · obtain ⟨f1, f2, f3, f4⟩ := fitsB_true hf
    have F4 := Lib.hid f4
    clear f4
    obtain ⟨z, rfl⟩ := Int.eq_ofNat_of_zero_le (Int.le_trans (by decide) f1)
    obtain ⟨q, rfl⟩ := Int.eq_ofNat_of_zero_le f3
    have hbl : Hid (putB bs q z = bs ++ be q z) := by unfold putB; rw [if_pos hf]; rfl
    have hmk := mkB z z (Nat.le_refl _) (by omega)
    go_enter Try.func113, Try.ntmps113
    go_wp2_with (first
      | ((with_reducible show wpList _ _ _ (⟨some 12, _, _, _, _, _⟩ :: _) _ _); refine wpL_cloneB rfl (.tmp 10) (.tmp 11) rfl rfl A m c bs rfl hb (by omega) ?_; intro v1 w1 hown1 hb1)
      | (go_at_call 90; refine (rfits_any _ _ _ hn).mono ?_; rintro e w' ⟨rfl, rfl⟩))
    obtain ⟨g, hg⟩ : ∃ g, g = w1.heap.size := ⟨_, rfl⟩
    have hmade := OwnB.made w1 z (by unfold maxLen; omega)
    have hbn : Below g w1 (w1.alloc (.cells (madeCells #[.int .u8 0] z) 5)) := by rw [hg]; exact (Below.refl _ _).alloc (Nat.le_refl _) _
    rw [← hg] at hmade ⊢
    have HG := Lib.hid hg
    clear hg
    go_loopw [1, 9] (fun nn i wr => ∃ j : Nat, ∃ s : List UInt8, i = .int .i64 ((j : Int) - 1) ∧ j ≤ z ∧ nn = .int .i64 ((q / 256 ^ (z - j) : Nat) : Int) ∧
        OwnB wr g (.slice (some ⟨g, 0, none⟩) z z) (List.replicate j 0 ++ s) ∧ be q z = be (q / 256 ^ (z - j)) j ++ s ∧ Below g w1 wr) (fun _ i _ => (intOf i + 1).toNat)
    case atStart => exact ⟨z, [], rfl, Nat.le_refl _, by simp, by simpa using hmade, by simp, hbn⟩
    case round =>
      obtain ⟨j, s, rfl, hj, rfl, hown, hbe, hbw⟩ := hrel
      have HBE := Lib.hid hbe
      clear hbe
      rcases j with _ | i
      · have hrd : RdB wr (some ⟨g, 0, none⟩) z s := by simpa using hown.rd.1
        have hbw1 : Below w1.heap.size w1 wr := by rw [← HG.out]; exact hbw
        have ho1 : OwnB wr w.heap.size v1 bs := hown1.below hbw1
        have hsz : w.heap.size ≤ wr.heap.size := Nat.le_trans hb1.size hbw1.size
        have hbr : Below w.heap.size w wr := hb1.trans (hbw1.mono hb1.size)
        go_wp2_with ((with_reducible show wpList _ _ _ (⟨some 36, _, _, _, _, _⟩ :: _) _ _); refine wpL_appB rfl (.tmp 34) (.tmp 35) rfl w.heap.size v1 bs rfl ho1 _ z z s rfl hrd ?hb hsz ?_; rotate_right; intro v2 w2 hown2 hg2 _)
        case hb => rw [hlb.out]; omega
        go_ret
        refine ⟨_, rfl, ?_, hbr.grown hg2 hsz fun k hk => (World.ownsRow.lt ho1 k hk).1⟩
        rw [hbl.out, HBE.out]
        exact hown2
      · obtain ⟨p, hp⟩ : ∃ p, p = q / 256 ^ (z - (i + 1)) := ⟨_, rfl⟩
        rw [← hp] at HBE ⊢
        have HP := Lib.hid hp
        clear hp
        have hp5 : p ≤ q := by rw [HP.out]; exact Nat.div_le_self _ _
        have hc := hown.cell (k := i) (by simp; omega)
        have hfz := hown.free i
        go_wp2
        go_roundw
        case rel =>
          refine ⟨i, UInt8.ofNat p :: s, rfl, by omega, ?_, ?_, ?_, hbw.setCell (Nat.le_refl _) _⟩
          · rw [HP.out]
            congr 1
            have e : z - i = z - (i + 1) + 1 := by omega
            rw [e, Nat.pow_succ, ← Nat.div_div_eq_div_mul]
            rfl
          · have h := hown.set i (UInt8.ofNat p)
            rw [set_last, ofNat_u8] at h
            exact h
          · have e : z - i = z - (i + 1) + 1 := by omega
            rw [HBE.out, e, Nat.pow_succ, ← Nat.div_div_eq_div_mul, ← HP.out, be]
            simp
        case measure => simp [intOf]
  · have hfe : fitsB n size = false := by simpa using hf
    have hbl : Hid (putB bs n size = bs) := by unfold putB; rw [if_neg hf]; rfl
    clear hf
    go_enter Try.func113, Try.ntmps113
    go_wp2_with (first
      | ((with_reducible show wpList _ _ _ (⟨some 12, _, _, _, _, _⟩ :: _) _ _); refine wpL_cloneB rfl (.tmp 10) (.tmp 11) rfl rfl A m c bs rfl hb (by omega) ?_; intro v1 w1 hown1 hb1)
      | (go_at_call 90; refine (rfits_any _ _ _ hn).mono ?_; rintro e w' ⟨rfl, rfl⟩))
    go_ret
    exact ⟨_, rfl, by rw [hbl.out]; exact hown1, hb1⟩
end Go.Proofs.Ytimkdpkhdbiniaa

/- The reference's writer in memory: Num, Raw. -/
namespace Go.Proofs.Ytimkdpkhdbiniaa
open Go.RowKit
set_option maxRecDepth 100000

/-- Where the rest of a name stands. -/
def encRest : Enc (Nat × List (List UInt8)) where
  size := 2
  R := fun S w r x => ∃ A c, r = [.int .i64 (x.1 : Int), .slice A x.2.length c] ∧ Els encS S S w A x.2.length x.2 ∧ x.2.length ≤ c ∧ c ≤ maxLen
  pos := by decide
  len := by rintro _ _ r x ⟨A, c, rfl, _⟩; rfl
  mono := by rintro S S' w r x h ⟨A, c, rfl, he, h1⟩; exact ⟨A, c, rfl, he.mono h h, h1⟩
  keep := by rintro S w w' r x h ⟨A, c, rfl, he, h1⟩; exact ⟨A, c, rfl, he.keep h h, h1⟩
  one := by
    rintro S w r x ⟨A, c, rfl, _⟩ u hu
    simp at hu
    rcases hu with rfl | rfl <;> rfl
theorem elRest : ElT Try.prog 101 151 encRest 32 := ElT.mk Try.underlying101 (.agg #[.int .i64 0, .slice none 0 0]) 2 (by kernel_rfl) rfl rfl

/-- The reference's writer at block g reads as x; what it leads to lies in blocks of F. -/
def RWtr (w : World) (B : Nat) (F : Nat → Prop) (g : Nat) (x : RW) : Prop :=
  ∃ bv rv S, w.heap[g]? = some (.cells #[bv, rv] 103 (0, 0)) ∧ OwnB w B bv x.b ∧ OwnE encRest 151 S w B rv x.rests ∧ (F g ∧ B ≤ g) ∧ (∀ k, bv.ownBlock = some k → F k ∧ k ≠ g) ∧
    (∀ k, rv.ownBlock = some k → F k ∧ k ≠ g ∧ bv.ownBlock ≠ some k) ∧ (∀ k, S k → F k ∧ k ≠ g ∧ bv.ownBlock ≠ some k) ∧ ∀ k, F k → B ≤ k ∧ k < w.heap.size

section
variable {w w' w2 : World} {B g : Nat} {F G : Nat → Prop} {x : RW}
theorem RWtr.F_lt (h : RWtr w B F g x) : ∀ k, F k → B ≤ k ∧ k < w.heap.size := by obtain ⟨_, _, _, _, _, _, _, _, _, _, h⟩ := h; exact h
theorem RWtr.chg (h : RWtr w B F g x) (hc : Chg G w w') (hd : ∀ k, F k → ¬ G k) : RWtr w' B F g x := by
  obtain ⟨bv, rv, S, hg, hb, hr, hgF, hbF, hrF, hSF, hF⟩ := h
  exact ⟨bv, rv, S, hc.heap hg (hd g hgF.1), hb.chgv hc (fun k hk => hd k (hbF k hk).1), hr.chg hc (fun k hk => hd k (hrF k hk).1) (fun k hk => hd k (hSF k hk).1), hgF, hbF, hrF, hSF, fun k hk => ⟨(hF k hk).1, Nat.lt_of_lt_of_le (hF k hk).2 hc.size⟩⟩
theorem RWtr.below (h : RWtr w B F g x) (hb : Below w.heap.size w w') : RWtr w' B F g x := h.chg (G := fun _ => False) (Chg.of_below hb) (fun _ _ h => h)
theorem RWtr.base_le {B' : Nat} (h : RWtr w B F g x) (hB : B' ≤ B) : RWtr w B' F g x := by
  obtain ⟨bv, rv, S, hg, hb, hr, hgF, hbF, hrF, hSF, hF⟩ := h
  exact ⟨bv, rv, S, hg, hb.mono hB, hr.base_le hB, ⟨hgF.1, by omega⟩, hbF, hrF, hSF, fun k hk => ⟨Nat.le_trans hB (hF k hk).1, (hF k hk).2⟩⟩
theorem RWtr.bw {w0 : World} (hb : Below w0.heap.size w0 w) (h : RWtr w B F g x) (hB : w0.heap.size ≤ B) (hc : Chg F w w') : Below w0.heap.size w0 w' :=
  hb.trans (hc.below (fun x hx => Nat.le_trans hB (h.F_lt x hx).1) hb.size)
end

/-- A call of the reference's writer: what it returns, and what the writer is then. -/
def RetR (w : World) (B : Nat) (F : Nat → Prop) (g : Nat) (y : RW) (v : Value) (e : Ending) (w' : World) : Prop :=
  e = .returned v ∧ ∃ F', RWtr w' B F' g y ∧ Chg F w w' ∧ ∀ z, F' z → F z ∨ w.heap.size ≤ z

/-- A new writer. -/
theorem RWtr.made (w : World) : RWtr (w.alloc (.cells #[.slice none 0 0, .slice none 0 0] 103)) w.heap.size (fun k => k = w.heap.size) w.heap.size RW.nil :=
  ⟨.slice none 0 0, .slice none 0 0, noS, heap_alloc_new w _, OwnB.nil _ _, OwnE.nil _ _ _ _, ⟨rfl, Nat.le_refl _⟩, (fun k hk => by cases hk), (fun k hk => by cases hk), fun k hk => hk.elim, fun k hk => by subst hk; simp⟩

/-- Its bytes are others, in a row of the call's own. -/
theorem RWtr.set_b {w w2 : World} {B g : Nat} {F : Nat → Prop} {x : RW} {v2 r : Value} {bs : List UInt8} (h : RWtr w B F g x) (hown : OwnB w2 w.heap.size v2 bs) (hb : Below w.heap.size w w2) : RetR w B F g { x with b := bs } r (.returned r) (w2.setCell ⟨g, 0, none⟩ v2) := by
  obtain ⟨bv, rv, S, hg, hbv, hr, hgF, hbF, hrF, hSF, hF⟩ := h
  have hgl := (hF g hgF.1).2
  have hgw := (hb.block g hgl).trans hg
  have hcg : Chg (fun k => k = g) w2 (w2.setCell ⟨g, 0, none⟩ v2) := (Chg.refl (fun k => k = g) w2).setCell (p := ⟨g, 0, none⟩) (Or.inl rfl) v2
  have hv2 : ∀ k, v2.ownBlock = some k → w.heap.size ≤ k ∧ k < w2.heap.size := fun k hk => World.ownsRow.lt hown k hk
  have hsz := hb.size
  refine ⟨rfl, fun k => F k ∨ (w.heap.size ≤ k ∧ k < w2.heap.size), ⟨v2, rv, S, (heap_setCell_same _ _ _ _ _ _ hgw).trans rfl, (hown.chgv hcg (fun k hk e => by have := (hv2 k hk).1; omega)).mono (Nat.le_trans hgF.2 (Nat.le_of_lt hgl)), (hr.below hb).chg hcg (fun k hk e => (hrF k hk).2.1 e) (fun k hk e => (hSF k hk).2.1 e), ⟨.inl hgF.1, hgF.2⟩,
    fun k hk => ⟨.inr (hv2 k hk), by have := (hv2 k hk).1; omega⟩, fun k hk => ⟨.inl (hrF k hk).1, (hrF k hk).2.1, fun e => by have := (hv2 k e).1; have := (hF k (hrF k hk).1).2; omega⟩,
    fun k hk => ⟨.inl (hSF k hk).1, (hSF k hk).2.1, fun e => by have := (hv2 k e).1; have := (hF k (hSF k hk).1).2; omega⟩, fun k hk => ?_⟩, (Chg.of_below hb).setCell (p := ⟨g, 0, none⟩) (Or.inl hgF.1) _, fun k hk => hk.imp id (·.1)⟩
  have hz : (w2.setCell ⟨g, 0, none⟩ v2).heap.size = w2.heap.size := by simp
  rw [hz]
  rcases hk with hk | hk
  · exact ⟨(hF k hk).1, by have := (hF k hk).2; omega⟩
  · exact ⟨by omega, hk.2⟩

theorem putB_append (bs : List UInt8) (n size : Int) : putB bs n size = bs ++ putB [] n size := by
  unfold putB
  split <;> simp

set_option maxHeartbeats 400000 in
theorem rwnum_any (w : World) (B g : Nat) (F : Nat → Prop) (x : RW) (n size : Int) (h : RWtr w B F g x) (hx : x.b.length ≤ 1000000000) (hn : n ≤ 9223372036854775807) :
    Calls Try.prog 63 #[.pointer (some ⟨g, 0, none⟩), .int .i64 n, .int .i64 size] w (RetR w B F g (x.raw (putB [] n size)) (.tuple #[])) := by
  have H := Lib.hid h
  obtain ⟨bv, rv, S, hg, hb, _, hgF, hbF, _⟩ := h
  obtain ⟨A, c, rfl, hr, hl, _⟩ := hb.form
  have c0 : w.cell? ⟨g, 0, none⟩ = some (.slice A x.b.length c) := (cell_of_row _ _ _ _ _ _ hg).trans rfl
  have HG := Lib.hid hg
  have hgl := (H.out.F_lt g hgF.1).2
  clear hg hb
  go_enter Try.func63, Try.ntmps63
  go_wp2_with (go_at_call 113; refine (rput_any _ _ _ x.b n size _ hr (by omega) hn).mono ?_; rintro e w2 ⟨v2, rfl, hown2, hb2⟩; obtain ⟨A2, c2, rfl, _⟩ := hown2.form; have hgw := (hb2.block g hgl).trans HG.out; have d0 := (cell_of_row _ _ 0 _ _ _ hgw).trans rfl; have f0 : ∀ k, w2.frozen? ⟨g, k, none⟩ = false := fun k => frozen_of_row _ _ _ _ _ hgw)
  go_end0
  rw [putB_append x.b] at hown2 ⊢
  exact H.out.set_b hown2 hb2

set_option maxHeartbeats 400000 in
theorem rwraw_any (w : World) (B g : Nat) (F : Nat → Prop) (x : RW) (A1 : Option Addr) (n1 c1 : Nat) (bs : List UInt8) (h : RWtr w B F g x) (hbs : RdB w A1 n1 bs) (hx : x.b.length + n1 ≤ 1000000000) :
    Calls Try.prog 94 #[.pointer (some ⟨g, 0, none⟩), .slice A1 n1 c1] w (RetR w B F g (x.raw bs) (.tuple #[])) := by
  have hlb := hbs.len
  subst hlb
  have H := Lib.hid h
  obtain ⟨bv, rv, S, hg, hb, _, hgF, hbF, _⟩ := h
  obtain ⟨A, c, rfl, hr, hl, _⟩ := hb.form
  have c0 : w.cell? ⟨g, 0, none⟩ = some (.slice A x.b.length c) := (cell_of_row _ _ _ _ _ _ hg).trans rfl
  have HG := Lib.hid hg
  have hgl := (H.out.F_lt g hgF.1).2
  clear hg hb
  go_enter Try.func94, Try.ntmps94
  go_wp2_with (first
    | ((with_reducible show wpList _ _ _ (⟨some 10, _, _, _, _, _⟩ :: _) _ _); refine wpL_cloneB rfl (.tmp 5) (.tmp 9) rfl rfl A _ c x.b rfl hr (by omega) ?_; intro v2 w2 hown2 hb2)
    | ((with_reducible show wpList _ _ _ (⟨some 12, _, _, _, _, _⟩ :: _) _ _); refine wpL_appB rfl (.tmp 10) (.tmp 11) rfl w.heap.size v2 x.b rfl hown2 A1 _ c1 bs rfl (hbs.below hb2) (by omega) hb2.size ?_; intro v3 w3 hown3 hg3 hv3; obtain ⟨A3, c3, rfl, _⟩ := hown3.form; have hb3 : Below w.heap.size w w3 := hb2.grown hg3 hb2.size (fun j hj => (World.ownsRow.lt hown2 j hj).1); have hgw := (hb3.block g hgl).trans HG.out; have d0 := (cell_of_row _ _ 0 _ _ _ hgw).trans rfl; have f0 : ∀ k, w3.frozen? ⟨g, k, none⟩ = false := fun k => frozen_of_row _ _ _ _ _ hgw)
    | fail)
  go_end0
  rw [List.length_append] at hown3
  exact H.out.set_b hown3 hb3
end Go.Proofs.Ytimkdpkhdbiniaa

/- The reference's writer: find. -/
namespace Go.Proofs.Ytimkdpkhdbiniaa
open Go.RowKit
set_option maxRecDepth 100000

/-- The place of a rest, or -1. -/
def placeR (o : Option Nat) : Int := match o with
  | some p => (p : Int)
  | none => -1

theorem rests_at {S Si : Nat → Prop} {w : World} {A : Option Addr} {n : Nat} {rs : List (Nat × List (List UInt8))} (h : Els encRest S Si w A n rs) {k : Nat} {x : Nat × List (List UInt8)} (hx : rs[k]? = some x) :
    ∃ b off A' cx, A = some ⟨b, off, none⟩ ∧ w.cell? ⟨b, off + k * 2, none⟩ = some (.int .i64 (x.1 : Int)) ∧ w.cell? ⟨b, off + k * 2 + 1, none⟩ = some (.slice A' x.2.length cx) ∧ Els encS Si Si w A' x.2.length x.2 ∧ x.2.length ≤ cx ∧ cx ≤ maxLen := by
  obtain ⟨b, off, rfl, _, hat⟩ := Els.flat h (by rw [← h.len]; exact Nat.lt_of_le_of_lt (Nat.zero_le k) (List.getElem?_eq_some_iff.1 hx).1)
  obtain ⟨r, ⟨A', cx, rfl, he, h1, h2⟩, hc⟩ := hat k x hx
  exact ⟨b, off, A', cx, rfl, by simpa [encRest] using hc 0 _ rfl, by have := hc 1 _ rfl; rw [← Nat.add_assoc] at this; simpa [encRest] using this, he, h1, h2⟩

theorem findR_take_succ {rs : List (Nat × List (List UInt8))} {k : Nat} {x : Nat × List (List UInt8)} {n : List (List UInt8)} (hx : rs[k]? = some x) (hn : findR (rs.take k) n = none) : findR (rs.take (k + 1)) n = if x.2 = n then some x.1 else none := by
  rw [List.take_add_one, hx, findR_append, hn, Option.none_or]
  rfl
theorem findR_take_some {rs : List (Nat × List (List UInt8))} {k : Nat} {n : List (List UInt8)} {p : Nat} (h : findR (rs.take k) n = some p) : findR rs n = some p := by
  rw [← List.take_append_drop k rs, findR_append, h, Option.some_or]

set_option maxHeartbeats 1000000 in
theorem rwfind_any (w : World) (B g : Nat) (F : Nat → Prop) (x : RW) (A : Option Addr) (n c : Nat) (ns : List (List UInt8)) {So Si : Nat → Prop} (h : RWtr w B F g x) (hns : Els encS So Si w A n ns) (hn : n ≤ maxLen) (hxs : ∀ r ∈ x.rests, r.2.length ≤ maxLen) (hxl : x.rests.length ≤ 1000000000000) (hp : ∀ r ∈ x.rests, r.1 < 16384) :
    Calls Try.prog 114 #[.pointer (some ⟨g, 0, none⟩), .slice A n c] w (RetN (.int .i64 (placeR (findR x.rests ns))) w) := by
  obtain ⟨bv, rv, S, hg, _, hr, _⟩ := h
  obtain ⟨A1, c1, rfl, hel, hl1, _⟩ := hr.form
  have c0 : w.cell? ⟨g, 1, none⟩ = some (.slice A1 x.rests.length c1) := (cell_of_row _ _ _ _ _ _ hg).trans rfl
  clear hg hr
  go_enter Try.func114, Try.ntmps114
  go_wp2
  go_loopw [5] (fun i wr => ∃ k m : Nat, i = .int .i64 k ∧ k ≤ x.rests.length ∧ wr = w.drewN m ∧ Hid (findR (x.rests.take k) ns = none)) (fun i _ => x.rests.length - (intOf i).toNat)
  case atStart => exact ⟨0, 0, rfl, Nat.zero_le _, rfl, rfl⟩
  case round =>
    obtain ⟨k, m, rfl, hk, rfl, HF⟩ := hrel
    by_cases hlt : k < x.rests.length
    · obtain ⟨y, hy⟩ : ∃ y, x.rests[k]? = some y := ⟨_, List.getElem?_eq_getElem hlt⟩
      obtain ⟨b, off, A', cx, rfl, h0, h1, he, h2, h3⟩ := rests_at hel hy
      have hym : y ∈ x.rests := List.mem_of_getElem? hy
      have hyl := hxs y hym
      have hyp := hp y hym
      have HN := Lib.hid (findR_take_succ hy HF.out)
      have HS := Lib.hid (fun p (h : findR (x.rests.take (k + 1)) ns = some p) => findR_take_some h)
      clear hy hym
      have he' : Els encS S S (w.drewN m) A' y.2.length y.2 := he.keep (fun _ _ => rfl) (fun _ _ => rfl)
      have hns' : Els encS So Si (w.drewN m) A n ns := hns.keep (fun _ _ => rfl) (fun _ _ => rfl)
      by_cases e : y.2 = ns
      · have HE := Lib.hid e
        have HN' := Lib.hid (HS.out y.1 (by rw [HN.out, if_pos e]))
        clear e
        go_wp2_with (go_at_call 28; refine (rexact_any _ _ _ _ _ _ y.2 ns (w.drewN m) he' hns' hyl hn).mono ?_; rw [decide_eq_true HE.out]; rintro e w2 ⟨rfl, m2, rfl⟩)
        go_ret
        exact ⟨by rw [HN'.out]; rfl, m + m2, rfl⟩
      · have HE := Lib.hid e
        have HN' := Lib.hid (by rw [HN.out, if_neg e] : findR (x.rests.take (k + 1)) ns = none)
        clear e
        go_wp2_with (go_at_call 28; refine (rexact_any _ _ _ _ _ _ y.2 ns (w.drewN m) he' hns' hyl hn).mono ?_; rw [decide_eq_false HE.out]; rintro e w2 ⟨rfl, m2, rfl⟩)
        go_roundw
        case rel => exact ⟨k + 1, m + m2, by go_num, by omega, rfl, HN'⟩
        case measure => simp [intOf]; omega
    · have hke : k = x.rests.length := by omega
      have HF' : Hid (findR x.rests ns = none) := by
        have := HF.out
        rw [hke, List.take_length] at this
        exact this
      subst hke
      go_wp2
      go_ret
      exact ⟨by rw [HF'.out]; rfl, m, rfl⟩
end Go.Proofs.Ytimkdpkhdbiniaa

/- The reference's writer: Name. -/
namespace Go.Proofs.Ytimkdpkhdbiniaa
open Go.RowKit
set_option maxRecDepth 100000

theorem step_cloneS {w : World} {So Si : Nat → Prop} {ops : Array Oper} {o : Oper} {a : Act} {K : Act → World → Prop} {Q : Exit → Act → World → Prop} {X : Prop} (hgd : Region.wanted o (yielded ops a.tmps) = true) (s x : Operand)
    (ho : o.op = .call { callee := .builtin .append, args := #[s, x], argTypes := #[23, 23] })
    {g : Nat} (hs : a.eval s = .slice (some ⟨g, 0, none⟩) 0 0) (A : Option Addr) (n c : Nat) (ns : List (List UInt8)) (hx : a.eval x = .slice A n c) (hr : Els encS So Si w A n ns) (hn : n ≤ 8796093022208)
    (h : ∀ v' w', OwnS w' w.heap.size v' ns → Below w.heap.size w w' → K (a.put o.dst v') w') (hgs : g = w.heap.size) : if Region.wanted o (yielded ops a.tmps) = true then Oper.wp Try.prog o a (w.alloc (.cells #[] 9)) K Q else X := by
  rw [if_pos hgd]
  subst hgs
  obtain ⟨hT, i, z, hi, hz, hsz, hby, hzc⟩ := elS
  have hl := hr.len
  subst hl
  have hone : ∀ u ∈ ns.map strV, u.oneCell' = true := fun u hu => by
    obtain ⟨y, _, rfl⟩ := List.mem_map.1 hu
    rfl
  have hown0 : (w.alloc (.cells #[] 9)).ownsRow w.heap.size 9 1 (.slice (some ⟨w.heap.size, 0, none⟩) 0 0) 0 [] := World.ownsRow_lit (e := 9) (size := 1) w #[] 0 (Nat.le_refl _) (by simp) rfl
  refine wp_append_any (P := Try.prog) s x _ ho w.heap.size 9 i z 1 16 hT hi hz hsz hby hzc (by decide) _ 0 [] hs hown0 A ns.length c (ns.map strV) hx ((strs_rd hr).below (bl.alloc (Nat.le_refl _) _)) hone (by unfold maxLen; omega) (by omega) (by simp) fun v' w' h1 h2 h3 => (h v' w' ?_ ?_)
  · rw [Nat.zero_add, List.nil_append] at h1
    refine ⟨ns.map strV, h1, fun j y hy => ?_, fun b hb => hb.elim⟩
    obtain ⟨_, _, _, _, _, hm⟩ := strs_at hr hy
    have hjl : j < ns.length := (List.getElem?_eq_some_iff.1 hy).1
    have e : List.take encS.size (List.drop (j * encS.size) (ns.map strV)) = [strV y] := by
      show List.take 1 (List.drop (j * 1) (ns.map strV)) = _
      rw [Nat.mul_one, List.drop_eq_getElem_cons (by rw [List.length_map]; exact hjl), List.take_succ_cons, List.take_zero, List.getElem_map]
      rw [List.getElem?_eq_getElem hjl] at hy
      injection hy with hy
      rw [hy]
    rw [e]
    exact ⟨rfl, hm⟩
  · exact (bl.alloc (Nat.le_refl _) _).grown h2 (by simp) (fun k hk => by simp [Value.ownBlock] at hk; omega)

/-- A row of rests has one more. -/
theorem RWtr.noted {w w4 w5 : World} {B g : Nat} {F S S' : Nat → Prop} {x : RW} {bv rv v5 : Value} {y : Nat × List (List UInt8)} (hg : w.heap[g]? = some (.cells #[bv, rv] 103 (0, 0))) (hbv : OwnB w B bv x.b) (hgF : F g ∧ B ≤ g) (hbF : ∀ k, bv.ownBlock = some k → F k ∧ k ≠ g)
    (hrF : ∀ k, rv.ownBlock = some k → F k ∧ k ≠ g ∧ bv.ownBlock ≠ some k) (hSF : ∀ k, S k → F k ∧ k ≠ g ∧ bv.ownBlock ≠ some k) (hF : ∀ k, F k → B ≤ k ∧ k < w.heap.size) (hb4 : Below w.heap.size w w4) (hown5 : OwnE encRest 151 (orS S S') w5 B v5 (x.rests ++ [y]))
    (hg5 : w4.grownBy w5 rv.ownBlock) (hv5 : v5.ownBlock = rv.ownBlock ∨ v5.ownBlock = some (w4.heap.size + 1)) (hS' : ∀ b, S' b → w.heap.size ≤ b ∧ b < w4.heap.size) :
    RWtr (w5.setCell ⟨g, 1, none⟩ v5) B (fun k => F k ∨ (w.heap.size ≤ k ∧ k < w5.heap.size)) g { x with rests := x.rests ++ [y] } ∧ Chg F w (w5.setCell ⟨g, 1, none⟩ v5) := by
  have hgl := (hF g hgF.1).2
  have hc5 : Chg (fun b => rv.ownBlock = some b) w w5 := (Chg.of_below hb4).grown hg5 (fun k hk => .inl hk)
  have hgw := hc5.heap hg (fun e => (hrF g e).2.1 rfl)
  have hcg : Chg (fun k => k = g) w5 (w5.setCell ⟨g, 1, none⟩ v5) := (Chg.refl (fun k => k = g) w5).setCell (p := ⟨g, 1, none⟩) (Or.inl rfl) v5
  have hz4 := hb4.size
  have hz5 := hg5.size
  have hv : ∀ k, v5.ownBlock = some k → (F k ∨ (w.heap.size ≤ k ∧ k < w5.heap.size)) ∧ k ≠ g ∧ bv.ownBlock ≠ some k := fun k hk => by
    have hl := (hown5.lt k hk).2
    rcases hv5 with e | e
    · rw [e] at hk
      exact ⟨.inl (hrF k hk).1, (hrF k hk).2⟩
    · rw [e] at hk
      injection hk with hk
      exact ⟨.inr ⟨by omega, hl⟩, by omega, fun e => by have := (hF k (hbF k e).1).2; omega⟩
  have hS : ∀ k, orS S S' k → (F k ∨ (w.heap.size ≤ k ∧ k < w5.heap.size)) ∧ k ≠ g ∧ bv.ownBlock ≠ some k := fun k hk => by
    rcases hk with hk | hk
    · exact ⟨.inl (hSF k hk).1, (hSF k hk).2⟩
    · have h1 := hS' k hk
      exact ⟨.inr ⟨h1.1, by omega⟩, by omega, fun e => by have := (hF k (hbF k e).1).2; omega⟩
  refine ⟨⟨bv, v5, orS S S', (heap_setCell_same _ _ _ _ _ _ hgw).trans rfl, (hbv.chgv hc5 (fun k hk e => (hrF k e).2.2 hk)).chgv hcg (fun k hk e => (hbF k hk).2 e), hown5.chg hcg (fun k hk e => (hv k hk).2.1 e) (fun k hk e => (hS k hk).2.1 e), ⟨.inl hgF.1, hgF.2⟩, fun k hk => ⟨.inl (hbF k hk).1, (hbF k hk).2⟩, hv, hS, fun k hk => ?_⟩, ?_⟩
  · have hz : (w5.setCell ⟨g, 1, none⟩ v5).heap.size = w5.heap.size := by simp
    rw [hz]
    rcases hk with hk | hk
    · exact ⟨(hF k hk).1, by have := (hF k hk).2; omega⟩
    · exact ⟨by omega, hk.2⟩
  · exact (hc5.mono (G := F) (fun k hk => .inl (hrF k hk).1)).setCell (p := ⟨g, 1, none⟩) (Or.inl hgF.1) _
end Go.Proofs.Ytimkdpkhdbiniaa

/- The reference's writer: Name's walk. -/
namespace Go.Proofs.Ytimkdpkhdbiniaa
open Go.RowKit

theorem findR_mem {rs : List (Nat × List (List UInt8))} {n : List (List UInt8)} {p : Nat} (h : findR rs n = some p) : ∃ r ∈ rs, r.1 = p := by
  induction rs with
  | nil => cases h
  | cons r rs ih =>
    simp only [findR] at h
    split at h
    · injection h with h
      exact ⟨r, List.mem_cons_self .., h⟩
    · obtain ⟨r', h1, h2⟩ := ih h
      exact ⟨r', List.mem_cons_of_mem _ h1, h2⟩
theorem rw_label (x : RW) (l : List UInt8) : (x.raw [UInt8.ofNat l.length]).raw l = x.label l := by simp [RW.raw, RW.label]
theorem rest_own {w : World} {base g n c p : Nat} {ns : List (List UInt8)} (h : OwnS w base (.slice (some ⟨g, 0, none⟩) n c) ns) (hn : ns.length = n) (hc : n ≤ c) (hm : c ≤ maxLen) : encRest.R (fun b => b = g) w [.int .i64 (p : Int), .slice (some ⟨g, 0, none⟩) n c] (p, ns) := by
  subst hn
  obtain ⟨A, c', e, he, _⟩ := OwnE.form h
  injection e with e1 e2 e3
  subst e1 e3
  exact ⟨_, _, rfl, he.mono (fun b hb => by simp [Value.ownBlock] at hb; exact hb.symm) (fun b hb => hb.elim), hc, hm⟩
theorem RWtr.noted_cells {w w4 w5 : World} {B g : Nat} {F : Nat → Prop} {bv rv : Value} (hg : w.heap[g]? = some (.cells #[bv, rv] 103 (0, 0))) (hgF : F g ∧ B ≤ g) (hrF : ∀ k, rv.ownBlock = some k → F k ∧ k ≠ g ∧ bv.ownBlock ≠ some k) (hF : ∀ k, F k → B ≤ k ∧ k < w.heap.size)
    (hb4 : Below w.heap.size w w4) (hg5 : w4.grownBy w5 rv.ownBlock) : w5.cell? ⟨g, 0, none⟩ = some bv ∧ w5.cell? ⟨g, 1, none⟩ = some rv ∧ ∀ k, w5.frozen? ⟨g, k, none⟩ = false := by
  have hgl := (hF g hgF.1).2
  have hc5 : Chg (fun b => rv.ownBlock = some b) w w5 := (Chg.of_below hb4).grown hg5 (fun k hk => .inl hk)
  have hgw := hc5.heap hg (fun e => (hrF g e).2.1 rfl)
  exact ⟨(cell_of_row _ _ _ _ _ _ hgw).trans rfl, (cell_of_row _ _ _ _ _ _ hgw).trans rfl, fun k => frozen_of_row _ _ _ _ _ hgw⟩

set_option maxRecDepth 100000 in
set_option maxHeartbeats 4000000 in
theorem rwname_any (w : World) (B g : Nat) (F : Nat → Prop) (x : RW) (A : Option Addr) (n c : Nat) (ns : List (List UInt8)) (short : Bool) {So Si : Nat → Prop} (h : RWtr w B F g x) (hns : Els encS So Si w A n ns) (hSo : ∀ b, So b → b < w.heap.size ∧ ¬ F b) (hs : SoundN ns) (hf : x.Fine) (hnc : n ≤ c) (hcm : c ≤ maxLen)
    (hxb : x.b.length ≤ 10000000) (hxr : x.rests.length ≤ 10000000) :
    Calls Try.prog 64 #[.pointer (some ⟨g, 0, none⟩), .slice A n c, .bool short] w (RetR w B F g (x.name ns short) (.tuple #[])) := by
  have hl := hns.len
  subst hl
  have H := Lib.hid h
  have hE : Els encS So noS w A ns.length ns := ⟨hns.1, fun hn => by
    obtain ⟨b, off, e, hb, hx⟩ := hns.2 hn
    exact ⟨b, off, e, hb, fun i y hy => hx i y hy⟩⟩
  have HFI0 := Lib.hid hf
  clear h hns hf
  have hcm' : c ≤ 9223372036854775807 := hcm
  clear hcm
  have HSo := Lib.hid hSo
  have hsz := hs.2
  have hsl := sizeN_length ns
  have HS := Lib.hid hs
  clear hs hSo
  go_enter Try.func64, Try.ntmps64
  go_wp2
  go_loopw [6] (fun iv wr => ∃ (k : Nat) (Fk : Nat → Prop) (xk : RW), iv = .int .i64 k ∧ k ≤ ns.length ∧ Hid (x.name ns short = xk.name (ns.drop k) short) ∧ Hid (RWtr wr B Fk g xk) ∧ Chg F w wr ∧ Hid (∀ z, Fk z → F z ∨ w.heap.size ≤ z) ∧ Hid xk.Fine ∧ xk.b.length + sizeN (ns.drop k) ≤ x.b.length + sizeN ns ∧ xk.rests.length ≤ x.rests.length + k) (fun iv _ => ns.length - (intOf iv).toNat)
  case atStart => exact ⟨0, F, x, rfl, Nat.zero_le _, rfl, H, Chg.refl _ _, fun z hz => .inl hz, HFI0, by simp, Nat.le_refl _⟩
  case round =>
    obtain ⟨k, Fk, xk, rfl, hk, HN, HW, hch, HF, HFI, hlb, hlr⟩ := hrel
    by_cases hlt : k < ns.length
    · obtain ⟨l, hx⟩ : ∃ l, ns[k]? = some l := ⟨_, List.getElem?_eq_getElem hlt⟩
      have hdr : ns.drop k = l :: ns.drop (k + 1) := by
        rw [List.drop_eq_getElem_cons hlt]
        rw [List.getElem?_eq_getElem hlt] at hx
        injection hx with hx
        rw [hx]
      obtain ⟨bN, offN, rfl, hsN, hcN, hll⟩ := strs_at hE hx
      have hEr : Els encS So noS wr (some ⟨bN, offN, none⟩) ns.length ns := hE.keep (fun b hb => hch.block b (HSo.out b hb).1 (HSo.out b hb).2) (fun b hb => hb.elim)
      have HCN := Lib.hid hcN
      have hcut := hEr.cut k c (Nat.le_of_lt hlt) hnc
      have hck : ¬ c = k := by omega
      rw [if_neg hck, Option.map_some, add_flat, show encS.size = 1 from rfl, Nat.mul_one] at hcut
      have hsd := (HS.out.drop k)
      have hlab := hsd.1
      have hsz2 := hsd.2
      have hl13 : 1 ≤ l.length ∧ l.length ≤ 63 := hlab l (by rw [hdr]; exact List.mem_cons_self ..)
      have HDR := Lib.hid hdr
      have hbs := bstr_size l
      have hl1 := hl13.1
      have hl2 := hl13.2
      clear hx hdr hsd hlab hl13 hcN
      have hcb := fun W : World => Lib.run_convert_string_bytes (P := Try.prog) W 9 22 5 (bstr l) Try.underlying9 Try.underlying22 Try.underlying5
      have hsn : sizeN (ns.drop k) = l.length + 1 + sizeN (ns.drop (k + 1)) := by rw [HDR.out]; rfl
      have hle2 : xk.b.length + (l.length + 1 + sizeN (ns.drop (k + 1))) ≤ x.b.length + sizeN ns := by omega
      have HFL : Hid (∀ r ∈ xk.rests, r.2.length ≤ maxLen) := fun r hr => by have h1 := (HFI.out r hr).2.2; have := sizeN_length r.2; unfold maxLen; omega
      have HFP : Hid (∀ r ∈ xk.rests, r.1 < 16384) := fun r hr => (HFI.out r hr).1
      clear hsn
      rcases hlk : findR xk.rests (ns.drop k) with _ | p
      · have HLK := Lib.hid hlk
        clear hlk
        · skip
          go_upto_if 33 with (first
            | (go_at_call 114; refine (rwfind_any wr B g Fk xk _ _ _ (ns.drop k) HW.out hcut (by unfold maxLen; omega) HFL.out (by omega) HFP.out).mono ?_; rw [HLK.out, show placeR none = -1 from rfl]; rintro e w2 ⟨rfl, m2, hw2⟩; have hb2 : Below wr.heap.size wr w2 := (by rw [hw2]; exact dN bl m2); clear hw2; have HW2 := Lib.hid (HW.out.below hb2); have hch2 := hch.nx hb2; obtain ⟨bv, rv, S, hgg, hbv, hrv, hgF2, hbF, hrF, hSF, hFl⟩ := HW2.out; obtain ⟨Ab, cb, rfl, _⟩ := hbv.form; obtain ⟨Ar, cr, rfl, _⟩ := hrv.form; have HG := Lib.hid hgg; have e0 : w2.cell? ⟨g, 0, none⟩ = some (.slice Ab xk.b.length cb) := (cell_of_row _ _ _ _ _ _ hgg).trans rfl; have e1 : w2.cell? ⟨g, 1, none⟩ = some (.slice Ar xk.rests.length cr) := (cell_of_row _ _ _ _ _ _ hgg).trans rfl; clear hgg)
            | fail)
          go_cut [] (fun wc => ∃ (F5 : Nat → Prop) (y : RW), Hid (RWtr wc B F5 g y) ∧ Hid (Chg F w wc) ∧ Hid (∀ z, F5 z → F z ∨ w.heap.size ≤ z) ∧ Hid y.Fine ∧ Hid (xk.name (ns.drop k) short = (y.label l).name (ns.drop (k + 1)) short) ∧ y.b.length ≤ xk.b.length ∧ y.rests.length ≤ xk.rests.length + 1)
          case first =>
            by_cases h16 : xk.b.length < 16384
            · go_upto_region 7 with (fail)
              have hcut2 : Els encS So noS w2.drew (some ⟨bN, offN + k, none⟩) (ns.length - k) (ns.drop k) := hcut.keep (fun b hb => hb2.block b (Nat.lt_of_lt_of_le (HSo.out b hb).1 hch.size)) (fun b hb => hb.elim)
              have hlen : (ns.drop k).length = ns.length - k := List.length_drop
              have hnoF : ∀ b, Fk b → b < w2.heap.size := fun b hb => (hFl b hb).2
              go_region_law
                (first
                  | (refine step_cloneS (w := w2.drew) (by rfl) (.tmp 44) (.tmp 47) (by rfl) (by rfl) _ _ _ (ns.drop k) (by rfl) hcut2 (by omega) ?_ (by rfl); intro v4 w4 hown4 hb4'; have hb4 : Below w2.heap.size w2 w4 := bl.drew.trans hb4'; have y0 := below_cell hb4 e0; have y1 := below_cell hb4 e1; have y2 := below_cell (bl.alloc (Nat.le_refl _) (.cells #[.int .i64 (xk.b.length : Int), v4] 151)) y1; obtain ⟨g4, c4, rfl, hg4a, hg4b, hl4, hm4, _⟩ := OwnE.flat hown4 (by omega); rw [hlen] at hown4 hl4 y2 ⊢; have hS3 : ∀ b, (fun b => b = g4) b → b < w4.heap.size ∧ some b ≠ (Value.slice Ar xk.rests.length cr).ownBlock := fun b hb => by subst hb; exact ⟨hg4b, fun e => Nat.lt_irrefl _ (Nat.lt_of_lt_of_le (hrv.lt _ e.symm).2 hg4a)⟩)
                  | (refine step_pushE elRest (by rfl) (.tmp 38) (.tmp 50) (by rfl) B (.slice Ar xk.rests.length cr) xk.rests (by rfl) (hrv.below hb4) [.int .i64 (xk.b.length : Int), .slice (some ⟨g4, 0, none⟩) (ns.length - k) c4] (xk.b.length, ns.drop k) (S' := fun b => b = g4) (rest_own hown4 hlen hl4 hm4) hS3 (by rfl) (by omega) (by unfold maxLen; omega) (Nat.le_trans (Nat.le_trans hgF2.2 (Nat.le_of_lt (hnoF g hgF2.1))) hb4.size) ?_ (by rfl); intro v5 w5 hown5 hg5 hv5; obtain ⟨A5, c5, rfl, _⟩ := hown5.form; have hcells := RWtr.noted_cells HG.out hgF2 hrF hFl hb4 hg5; have z0 := hcells.1; have z1 := hcells.2.1; have z2 := hcells.2.2)
                  | fail)
              all_goals
                have hnt := RWtr.noted HG.out hbv hgF2 hbF hrF hSF hFl hb4 hown5 hg5 hv5 (fun b hb => by subst hb; exact ⟨hg4a, hg4b⟩)
                rw [show ({ xk with rests := xk.rests ++ [(xk.b.length, ns.drop k)] } : RW) = xk.note (ns.drop k) from by unfold RW.note; rw [if_pos h16]] at hnt
                simp only [List.length_append, List.length_cons, List.length_nil, Nat.zero_add] at hnt
                obtain ⟨hnt1, hnt2⟩ := hnt
                have HNT := Lib.hid hnt1
                have hcn := hch2.trans hnt2 HF.out
                have hnb := xk.note_b (ns.drop k)
                have hnr := xk.note_rests (ns.drop k)
                have HNX : Hid (xk.name (ns.drop k) short = ((xk.note (ns.drop k)).label l).name (ns.drop (k + 1)) short) := by
                  show _ = _
                  have := HLK.out
                  rw [HDR.out] at this ⊢
                  rw [RW.name, this]
                clear hnt1 hnt2
                go_wp2
                go_meet
                case rel => exact ⟨_, xk.note (ns.drop k), HNT, hcn, fun z hz => hz.elim (HF.out z) (fun h => .inr (Nat.le_trans hch2.size h.1)), HFI.out.note (HS.out.drop k), HNX, Nat.le_of_eq (by rw [hnb]), hnr⟩
            · have HNX : Hid (xk.name (ns.drop k) short = (xk.label l).name (ns.drop (k + 1)) short) := by
                show _ = _
                have := HLK.out
                rw [HDR.out] at this ⊢
                rw [RW.name, this]
                unfold RW.note
                rw [if_neg h16]
              go_wp2
              go_meet
              case rel => exact ⟨Fk, xk, HW2, hch2, HF, HFI, HNX, Nat.le_refl _, Nat.le_succ _⟩
          case rest =>
            obtain ⟨F5, y, HNT, HC, HFQ, HFY, HNX, hnb, hnr⟩ := hcut
            have hcr5 := HC.out.cell HCN.out (HSo.out bN hsN).2
            go_wp2_with (first
              | (go_at_call 94; refine (rwraw_any _ B g F6 _ _ _ _ l (H6.out.below hb6) hr6 (by simp only [RW.raw, List.length_append, List.length_singleton]; omega)).mono ?_; rintro e w7 ⟨rfl, F7, h7, hc7, hF7⟩)
              | (go_at_call 63; refine (rwnum_any _ B g F5 y l.length 1 HNT.out (by omega) (by omega)).mono ?_; rintro e w6 ⟨rfl, F6, h6, hc6, hF6⟩; rw [put_len l hl2] at h6; have H6 := Lib.hid h6; have hr6 := (conv_rd w6 l).1; have hb6 := (conv_rd w6 l).2; have hcr6 := (HC.out.trans hc6 HFQ.out).cell HCN.out (HSo.out bN hsN).2; clear h6)
              | fail)
            go_roundw
            case rel =>
              have hq6 : ∀ z, F6 z → F z ∨ w.heap.size ≤ z := fun z hz => (hF6 z hz).elim (HFQ.out z) (fun h => .inr (Nat.le_trans HC.out.size h))
              have hq7 := (HC.out.trans hc6 HFQ.out).nx hb6
              exact ⟨k + 1, F7, (y.raw [UInt8.ofNat l.length]).raw l, by go_num, by omega, HN.out.trans (HNX.out.trans (by rw [rw_label])), h7, hq7.trans hc7 hq6, fun z hz => (hF7 z hz).elim (hq6 z) (fun h => .inr (Nat.le_trans hq7.size h)), (HFY.out.raw _).raw _, by simp only [RW.raw, List.length_append, List.length_singleton]; omega, by show y.rests.length ≤ _; omega⟩
            case measure => simp [intOf]; omega
      · have HLK := Lib.hid hlk
        have hp : p < 16384 := by obtain ⟨r, hr, e⟩ := findR_mem hlk; rw [← e]; exact HFP.out r hr
        clear hlk
        rcases short with _ | _
        · skip
          go_upto_if 33 with (first
            | (go_at_call 114; refine (rwfind_any wr B g Fk xk _ _ _ (ns.drop k) HW.out hcut (by unfold maxLen; omega) HFL.out (by omega) HFP.out).mono ?_; rw [HLK.out, show placeR (some p) = (p : Int) from rfl]; rintro e w2 ⟨rfl, m2, hw2⟩; have hb2 : Below wr.heap.size wr w2 := (by rw [hw2]; exact dN bl m2); clear hw2; have HW2 := Lib.hid (HW.out.below hb2); have hch2 := hch.nx hb2; obtain ⟨bv, rv, S, hgg, hbv, hrv, hgF2, hbF, hrF, hSF, hFl⟩ := HW2.out; obtain ⟨Ab, cb, rfl, _⟩ := hbv.form; obtain ⟨Ar, cr, rfl, _⟩ := hrv.form; have HG := Lib.hid hgg; have e0 : w2.cell? ⟨g, 0, none⟩ = some (.slice Ab xk.b.length cb) := (cell_of_row _ _ _ _ _ _ hgg).trans rfl; have e1 : w2.cell? ⟨g, 1, none⟩ = some (.slice Ar xk.rests.length cr) := (cell_of_row _ _ _ _ _ _ hgg).trans rfl; clear hgg)
            | fail)
          go_cut [] (fun wc => ∃ (F5 : Nat → Prop) (y : RW), Hid (RWtr wc B F5 g y) ∧ Hid (Chg F w wc) ∧ Hid (∀ z, F5 z → F z ∨ w.heap.size ≤ z) ∧ Hid y.Fine ∧ Hid (xk.name (ns.drop k) false = (y.label l).name (ns.drop (k + 1)) false) ∧ y.b.length ≤ xk.b.length ∧ y.rests.length ≤ xk.rests.length + 1)
          case first =>
            by_cases h16 : xk.b.length < 16384
            · go_upto_region 7 with (fail)
              have hcut2 : Els encS So noS w2.drew (some ⟨bN, offN + k, none⟩) (ns.length - k) (ns.drop k) := hcut.keep (fun b hb => hb2.block b (Nat.lt_of_lt_of_le (HSo.out b hb).1 hch.size)) (fun b hb => hb.elim)
              have hlen : (ns.drop k).length = ns.length - k := List.length_drop
              have hnoF : ∀ b, Fk b → b < w2.heap.size := fun b hb => (hFl b hb).2
              go_region_law
                (first
                  | (refine step_cloneS (w := w2.drew) (by rfl) (.tmp 44) (.tmp 47) (by rfl) (by rfl) _ _ _ (ns.drop k) (by rfl) hcut2 (by omega) ?_ (by rfl); intro v4 w4 hown4 hb4'; have hb4 : Below w2.heap.size w2 w4 := bl.drew.trans hb4'; have y0 := below_cell hb4 e0; have y1 := below_cell hb4 e1; have y2 := below_cell (bl.alloc (Nat.le_refl _) (.cells #[.int .i64 (xk.b.length : Int), v4] 151)) y1; obtain ⟨g4, c4, rfl, hg4a, hg4b, hl4, hm4, _⟩ := OwnE.flat hown4 (by omega); rw [hlen] at hown4 hl4 y2 ⊢; have hS3 : ∀ b, (fun b => b = g4) b → b < w4.heap.size ∧ some b ≠ (Value.slice Ar xk.rests.length cr).ownBlock := fun b hb => by subst hb; exact ⟨hg4b, fun e => Nat.lt_irrefl _ (Nat.lt_of_lt_of_le (hrv.lt _ e.symm).2 hg4a)⟩)
                  | (refine step_pushE elRest (by rfl) (.tmp 38) (.tmp 50) (by rfl) B (.slice Ar xk.rests.length cr) xk.rests (by rfl) (hrv.below hb4) [.int .i64 (xk.b.length : Int), .slice (some ⟨g4, 0, none⟩) (ns.length - k) c4] (xk.b.length, ns.drop k) (S' := fun b => b = g4) (rest_own hown4 hlen hl4 hm4) hS3 (by rfl) (by omega) (by unfold maxLen; omega) (Nat.le_trans (Nat.le_trans hgF2.2 (Nat.le_of_lt (hnoF g hgF2.1))) hb4.size) ?_ (by rfl); intro v5 w5 hown5 hg5 hv5; obtain ⟨A5, c5, rfl, _⟩ := hown5.form; have hcells := RWtr.noted_cells HG.out hgF2 hrF hFl hb4 hg5; have z0 := hcells.1; have z1 := hcells.2.1; have z2 := hcells.2.2)
                  | fail)
              all_goals
                have hnt := RWtr.noted HG.out hbv hgF2 hbF hrF hSF hFl hb4 hown5 hg5 hv5 (fun b hb => by subst hb; exact ⟨hg4a, hg4b⟩)
                rw [show ({ xk with rests := xk.rests ++ [(xk.b.length, ns.drop k)] } : RW) = xk.note (ns.drop k) from by unfold RW.note; rw [if_pos h16]] at hnt
                simp only [List.length_append, List.length_cons, List.length_nil, Nat.zero_add] at hnt
                obtain ⟨hnt1, hnt2⟩ := hnt
                have HNT := Lib.hid hnt1
                have hcn := hch2.trans hnt2 HF.out
                have hnb := xk.note_b (ns.drop k)
                have hnr := xk.note_rests (ns.drop k)
                have HNX : Hid (xk.name (ns.drop k) false = ((xk.note (ns.drop k)).label l).name (ns.drop (k + 1)) false) := by
                  show _ = _
                  have := HLK.out
                  rw [HDR.out] at this ⊢
                  rw [RW.name, this]
                  rfl
                clear hnt1 hnt2
                go_wp2
                go_meet
                case rel => exact ⟨_, xk.note (ns.drop k), HNT, hcn, fun z hz => hz.elim (HF.out z) (fun h => .inr (Nat.le_trans hch2.size h.1)), HFI.out.note (HS.out.drop k), HNX, Nat.le_of_eq (by rw [hnb]), hnr⟩
            · have HNX : Hid (xk.name (ns.drop k) false = (xk.label l).name (ns.drop (k + 1)) false) := by
                show _ = _
                have := HLK.out
                rw [HDR.out] at this ⊢
                rw [RW.name, this]
                unfold RW.note
                rw [if_neg h16]
                rfl
              go_wp2
              go_meet
              case rel => exact ⟨Fk, xk, HW2, hch2, HF, HFI, HNX, Nat.le_refl _, Nat.le_succ _⟩
          case rest =>
            obtain ⟨F5, y, HNT, HC, HFQ, HFY, HNX, hnb, hnr⟩ := hcut
            have hcr5 := HC.out.cell HCN.out (HSo.out bN hsN).2
            go_wp2_with (first
              | (go_at_call 94; refine (rwraw_any _ B g F6 _ _ _ _ l (H6.out.below hb6) hr6 (by simp only [RW.raw, List.length_append, List.length_singleton]; omega)).mono ?_; rintro e w7 ⟨rfl, F7, h7, hc7, hF7⟩)
              | (go_at_call 63; refine (rwnum_any _ B g F5 y l.length 1 HNT.out (by omega) (by omega)).mono ?_; rintro e w6 ⟨rfl, F6, h6, hc6, hF6⟩; rw [put_len l hl2] at h6; have H6 := Lib.hid h6; have hr6 := (conv_rd w6 l).1; have hb6 := (conv_rd w6 l).2; have hcr6 := (HC.out.trans hc6 HFQ.out).cell HCN.out (HSo.out bN hsN).2; clear h6)
              | fail)
            go_roundw
            case rel =>
              have hq6 : ∀ z, F6 z → F z ∨ w.heap.size ≤ z := fun z hz => (hF6 z hz).elim (HFQ.out z) (fun h => .inr (Nat.le_trans HC.out.size h))
              have hq7 := (HC.out.trans hc6 HFQ.out).nx hb6
              exact ⟨k + 1, F7, (y.raw [UInt8.ofNat l.length]).raw l, by go_num, by omega, HN.out.trans (HNX.out.trans (by rw [rw_label])), h7, hq7.trans hc7 hq6, fun z hz => (hF7 z hz).elim (hq6 z) (fun h => .inr (Nat.le_trans hq7.size h)), (HFY.out.raw _).raw _, by simp only [RW.raw, List.length_append, List.length_singleton]; omega, by show y.rests.length ≤ _; omega⟩
            case measure => simp [intOf]; omega
        · have HNX : Hid (xk.name (ns.drop k) true = xk.raw (ptrB p)) := by
            show _ = _
            have := HLK.out
            rw [HDR.out] at this ⊢
            rw [RW.name, this]
            rfl
          have HPP := Lib.hid (put_ptr p hp)
          go_wp2_with (first
            | (go_at_call 114; refine (rwfind_any wr B g Fk xk _ _ _ (ns.drop k) HW.out hcut (by unfold maxLen; omega) HFL.out (by omega) HFP.out).mono ?_; rw [HLK.out, show placeR (some p) = (p : Int) from rfl]; rintro e w2 ⟨rfl, m2, hw2⟩; have hb2 : Below wr.heap.size wr w2 := (by rw [hw2]; exact dN bl m2); clear hw2; have HW2 := Lib.hid (HW.out.below hb2); have hch2 := hch.nx hb2; obtain ⟨bv, rv, S, hgg, hbv, hrv, hgF2, hbF, hrF, hSF, hFl⟩ := HW2.out; obtain ⟨Ab, cb, rfl, _⟩ := hbv.form; obtain ⟨Ar, cr, rfl, _⟩ := hrv.form; have HG := Lib.hid hgg; have e0 : w2.cell? ⟨g, 0, none⟩ = some (.slice Ab xk.b.length cb) := (cell_of_row _ _ _ _ _ _ hgg).trans rfl; have e1 : w2.cell? ⟨g, 1, none⟩ = some (.slice Ar xk.rests.length cr) := (cell_of_row _ _ _ _ _ _ hgg).trans rfl; clear hgg)
            | (go_at_call 63; refine (rwnum_any _ B g Fk xk (49152 + (p : Int)) 2 HW2.out (by omega) (by omega)).mono ?_; rw [HPP.out]; rintro e w6 ⟨rfl, F6, h6, hc6, hF6⟩)
            | fail)
          go_end0
          exact ⟨rfl, F6, by rw [HN.out, HNX.out]; exact h6, hch2.trans hc6 HF.out, fun z hz => (hF6 z hz).elim (HF.out z) (fun h => .inr (Nat.le_trans hch2.size h))⟩
    · have hke : k = ns.length := by omega
      have HNX : Hid (xk.name (ns.drop k) short = xk.raw [0]) := by show _ = _; rw [hke, List.drop_length]; rfl
      clear hke
      go_wp2_with (first
        | (go_at_call 63; refine (rwnum_any _ B g Fk xk 0 1 HW.out (by omega) (by omega)).mono ?_; rw [put_zero]; rintro e w6 ⟨rfl, F6, h6, hc6, hF6⟩)
        | fail)
      go_end0
      exact ⟨rfl, F6, by rw [HN.out, HNX.out]; exact h6, hch.trans hc6 HF.out, fun z hz => (hF6 z hz).elim (HF.out z) (fun h => .inr (Nat.le_trans hch.size h))⟩
end Go.Proofs.Ytimkdpkhdbiniaa

/- The reference's PutData: where its walk stands. -/
namespace Go.Proofs.Ytimkdpkhdbiniaa
open Go.RowKit
set_option maxRecDepth 100000

structure RPutSt (w wr : World) (B g : Nat) (F Fr : Nat → Prop) (y : RW) (q : Nat) (S : Nat → Prop) (s : DS) (d : Da) : Prop where
  W : RWtr wr B Fr g y
  fine : y.Fine
  C : Chg F w wr
  N : ∀ k, Fr k → F k ∨ w.heap.size ≤ k
  Q : wr.heap[q]? = some (.cells (dCells s d) 46 (0, 0))
  D : DIn S wr s d
  qF : ¬ Fr q
  SF : ∀ b, S b → b < wr.heap.size ∧ ¬ Fr b
section
variable {w wr w' : World} {B g q : Nat} {F Fr F' S : Nat → Prop} {y y' : RW} {s : DS} {d : Da}
theorem RPutSt.step (h : RPutSt w wr B g F Fr y q S s d) (hw : RWtr w' B F' g y') (hf : y'.Fine) (hc : Chg Fr wr w') (hF : ∀ k, F' k → Fr k ∨ wr.heap.size ≤ k) : RPutSt w w' B g F F' y' q S s d where
  W := hw
  fine := hf
  C := h.C.trans hc h.N
  N := fun k hk => (hF k hk).elim (h.N k) (fun hl => .inr (Nat.le_trans h.C.size hl))
  Q := hc.heap h.Q h.qF
  D := h.D.chg hc h.SF
  qF := fun hq => (hF q hq).elim h.qF (fun hl => by have := (Array.getElem?_eq_some_iff.1 h.Q).1; omega)
  SF := fun b hb => ⟨Nat.lt_of_lt_of_le (h.SF b hb).1 hc.size, fun hq => (hF b hq).elim (h.SF b hb).2 (fun hl => by have := (h.SF b hb).1; omega)⟩
theorem RPutSt.below (h : RPutSt w wr B g F Fr y q S s d) (hb : Below wr.heap.size wr w') : RPutSt w w' B g F Fr y q S s d := h.step (h.W.below hb) h.fine (Chg.of_below hb) (fun _ hk => .inl hk)
theorem RPutSt.dc (h : RPutSt w wr B g F Fr y q S s d) (j : Nat) : wr.cell? ⟨q, j, none⟩ = (dCells s d)[j]? := cell_of_row _ _ _ _ _ _ h.Q
theorem RPutSt.done (h : RPutSt w wr B g F Fr y q S s d) {v : Value} {u : RW} (hz : y = u) : RetR w B F g u v (.returned v) wr := by subst hz; exact ⟨rfl, Fr, h.W, h.C, h.N⟩
end
theorem RW.Fine.texts {y : RW} (h : y.Fine) (ts : List (List UInt8)) : (y.texts ts).Fine := by
  refine snoc_ind (P := fun ts => (y.texts ts).Fine) h (fun ts t ih => ?_) ts
  rw [RW.texts_snoc]
  exact (ih.raw _).raw _
theorem RW.Fine.nums {y : RW} (h : y.Fine) (ns : List Int) (z : Int) : (y.nums ns z).Fine := by
  refine snoc_ind (P := fun ns => (y.nums ns z).Fine) h (fun ns n ih => ?_) ns
  rw [RW.nums_snoc]
  exact ih.raw _
theorem RW.name_le {y : RW} (n : List (List UInt8)) (short : Bool) : (y.name n short).b.length ≤ y.b.length + sizeN n + 1 := by
  induction n generalizing y with
  | nil => simp [RW.name, RW.raw, sizeN]
  | cons l n ih =>
    unfold RW.name
    have h1 := sizeN_length n
    split
    · split
      · simp [RW.raw, ptrB, sizeN]; omega
      · have := ih (y := (y.note (l :: n)).label l)
        simp only [RW.label, RW.raw, RW.note_b, List.length_append, List.length_cons, sizeN] at this ⊢
        omega
    · have := ih (y := (y.note (l :: n)).label l)
      simp only [RW.label, RW.raw, RW.note_b, List.length_append, List.length_cons, sizeN] at this ⊢
      omega
end Go.Proofs.Ytimkdpkhdbiniaa
