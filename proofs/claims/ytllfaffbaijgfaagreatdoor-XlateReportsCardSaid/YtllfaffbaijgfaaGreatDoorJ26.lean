/- item.Encode. The item of the name that is none. -/
import Derived.Test.YtllfaffbaijgfaaGreatDoorJ24
import Derived.Test.YtllfaffbaijgfaaGreatDoorJ25
import Derived.Test.YtllfaffbaijgfaaGreatDoorJ21
import Derived.Test.YtllfaffbaijgfaaGreatDoorJ18
set_option linter.unusedVariables false
set_option linter.unusedSimpArgs false
namespace Go.Proofs.YtllfaffbaijgfaaGreatDoor
open Go Go.RowKit Go.Shelf
attribute [local go_sem] Oper.semAt_some

def max2 (a b : Int) : Int := if b > a then b else a
def mx (x : Itv) : Int := max2 (max2 x.n x.s.length) x.l.length
theorem mx_small {x : Itv} (h0 : 0 ≤ x.n) (h1 : x.n < 24) (h2 : x.s.length < 24) (h3 : x.l.length < 24) : 0 ≤ mx x ∧ mx x < 24 := by
  unfold mx max2
  split <;> split <;> omega
theorem run_max3 {P : Program} (w : World) (ts : Array TypeId) (t : TypeId) (x y z : Int) :
    (Builtin.max_ ts t #[.int .i64 x, .int .i64 y, .int .i64 z]).run P w = .ok (.int .i64 (max2 (max2 x y) z)) w := by
  simp [Builtin.max_, Builtin.max2, max2]
attribute [local go_sem high] run_max3
def encI1 (p : Nat × Itv) : List UInt8 := headSmall p.2.kind (mx p.2) ++ p.2.s
def encI (x : Itv) : List UInt8 := (preT 1 x).flatMap encI1

/-- every number is one of a byte's head -/
structure ItSmall (x : Itv) : Prop where
  major : ∀ p ∈ preT 1 x, isMajor p.2.kind = true
  n0 : ∀ p ∈ preT 1 x, 0 ≤ p.2.n
  n : ∀ p ∈ preT 1 x, p.2.n < 24
  s : ∀ p ∈ preT 1 x, p.2.s.length < 24
  l : ∀ p ∈ preT 1 x, p.2.l.length < 24

theorem encI1_length {x : Itv} (h : ItSmall x) {p : Nat × Itv} (hp : p ∈ preT 1 x) : (encI1 p).length ≤ 24 := by
  have := h.s p hp
  simp [encI1, headSmall]
  omega
theorem take_flat {α : Type} (f : α → List UInt8) (l : List α) (i : Nat) (y : α) (h : l[i]? = some y) : (l.take (i + 1)).flatMap f = (l.take i).flatMap f ++ f y := by
  rw [List.take_add_one, h, List.flatMap_append]
  simp
theorem take_flat_len {x : Itv} (h : ItSmall x) (i : Nat) : (((preT 1 x).take i).flatMap encI1).length ≤ i * 24 := by
  induction i with
  | zero => simp
  | succ i ih =>
    cases hy : (preT 1 x)[i]? with
    | none => rw [List.take_add_one, hy]; simp only [Option.toList_none, List.append_nil]; omega
    | some y =>
      rw [take_flat _ _ _ _ hy, List.length_append]
      have := encI1_length h (List.mem_of_getElem? hy)
      omega

set_option maxRecDepth 100000 in
set_option maxHeartbeats 4000000 in
theorem itemEncode_calls (S : Nat → Addr) (x : Itv) (w : World) (hS : HeadAt S w) (hat : ItvAt (fun k => k < w.heap.size) w x) (hfit : ItFit x) (hsm : ItSmall x) (hT : ∀ p ∈ preT 1 x, p.2.kind = 3 → ∀ W, Calls Tryz.prog 326 #[.string (bs p.2.s)] W (Rt W (.bool (textR p.2.s))))
    (hright : rightI x = true) :
    Calls Tryz.prog 156 #[.agg (itC x)] w (Rt w (.tuple #[.string (bs (encI x)), .int .i64 0])) := by
  have hone := hat.oneCell
  have Hat := hide hat
  have Hfit := hide hfit
  have Hsm := hide hsm
  have HS := hide hS
  have HR := hide (fun W (hB : Below w.heap.size w W) => hright ▸ itemRight_calls x W ((hat.keep (Keep.of_below hB (fun k hk => hk))).more (fun k hk => Nat.lt_of_lt_of_le hk hB.size)) hfit hT)
  clear hat hfit hT hsm hS hright
  have hst := fun (a : Addr) (w : World) => run_store Tryz.prog w a x.v .plain hone
  refine (callsIn_wide (n := 0)).1 ?_
  refine callsIn_of_wp_marks Tryz.func156 rfl trivial ?_ rfl
  simp only [Tryz.ntmps156, List.size_toArray, List.length_cons, List.length_nil, Nat.reduceAdd, Nat.reduceSub, Array.replicate_succ, Array.replicate_zero, List.push_toArray, List.append_toArray, List.nil_append, List.cons_append]
  gi_wp2_with (first | (apply wpListIn_load_of (ty := 133); (case hgd => exact rfl); (case ho => exact rfl); (case hx => exact rfl); (case hr => apply load_row (n := 4); (case hheap => apply heapNew (u := w); (case hbel => ((repeat' (first | exact Below.refl _ _ | assumption | (refine Below.drew ?_) | (refine Below.alloc ?_ ?_ _) | (refine Below.setCell ?_ ?_ _) | (refine Below.step (W := ?hW) ?hq ?_ ?_; case hq => assumption))) <;> (first | (simp; done) | (simp; omega) | (simp at *; omega)))); (case hnew => exact rfl)); (case hu => exact Tryz.underlying133); (case hd => exact rfl); (case hi => kernel_rfl); (case hc => exact rfl))) | (apply wpIn_load_of (ty := 133); (case ho => exact rfl); (case hx => exact rfl); (case hr => apply load_row (n := 4); (case hheap => apply heapNew (u := w); (case hbel => ((repeat' (first | exact Below.refl _ _ | assumption | (refine Below.drew ?_) | (refine Below.alloc ?_ ?_ _) | (refine Below.setCell ?_ ?_ _) | (refine Below.step (W := ?hW) ?hq ?_ ?_; case hq => assumption))) <;> (first | (simp; done) | (simp; omega) | (simp at *; omega)))); (case hnew => exact rfl)); (case hu => exact Tryz.underlying133); (case hd => exact rfl); (case hi => kernel_rfl); (case hc => exact rfl))))
  refine ⟨trivial, rfl, (callsIn_wide.2 (HR.out _ (by ((repeat' (first | exact Below.refl _ _ | assumption | (refine Below.drew ?_) | (refine Below.alloc ?_ ?_ _) | (refine Below.setCell ?_ ?_ _) | (refine Below.step (W := ?hW) ?hq ?_ ?_; case hq => assumption))) <;> (first | (simp; done) | (simp; omega) | (simp at *; omega)))))).mono ?_⟩
  rintro e_ w0 ⟨rfl, hb0⟩
  have c0 : w0.heap[w.heap.size]? = some (.cells (itC x) 133 (0, 0)) := heapKept (World.alloc_heap_new w _) hb0
  have c0' : (w0.alloc (.cells #[.pointer none, .slice none 0 0] 297)).heap[w.heap.size]? = some (.cells (itC x) 133 (0, 0)) := heapKept c0 (by ((repeat' (first | exact Below.refl _ _ | assumption | (refine Below.drew ?_) | (refine Below.alloc ?_ ?_ _) | (refine Below.setCell ?_ ?_ _) | (refine Below.step (W := ?hW) ?hq ?_ ?_; case hq => assumption))) <;> (first | (simp; done) | (simp; omega) | (simp at *; omega))))
  gi_wp2_with (first | (apply wpListIn_load_of (ty := 133); (case hgd => exact rfl); (case ho => exact rfl); (case hx => exact rfl); (case hr => apply load_row (n := 4); (case hheap => exact c0'); (case hu => exact Tryz.underlying133); (case hd => exact rfl); (case hi => kernel_rfl); (case hc => exact rfl))) | (apply wpIn_load_of (ty := 133); (case ho => exact rfl); (case hx => exact rfl); (case hr => apply load_row (n := 4); (case hheap => exact c0'); (case hu => exact Tryz.underlying133); (case hd => exact rfl); (case hi => kernel_rfl); (case hc => exact rfl))))
  refine ⟨trivial, rfl, (callsIn_wide.2 (items_calls x _ hone)).mono ?_⟩
  rintro e_ w_ ⟨rfl, hw_⟩
  obtain ⟨W0, hW0⟩ : ∃ W0, (w0.alloc (.cells #[.pointer none, .slice none 0 0] 297)) = W0 := ⟨_, rfl⟩
  have hB0 : Below w.heap.size w w0 := ((Below.refl _ w).alloc (Nat.le_refl _) _).trans (hb0.mono (by simp))
  have hz0 : w.heap.size < w0.heap.size := by have := hb0.size; simp at this; omega
  have bld0 : Bld w0.heap.size w0.heap.size (fun k => k ≠ w0.heap.size) [] W0 := by rw [← hW0]; exact Bld.alloc _ _ w0 (Nat.le_refl _)
  have hB1 : Below w.heap.size w W0 := by rw [← hW0]; exact hB0.alloc hB0.size _
  have hz1 : w0.heap.size < W0.heap.size := by rw [← hW0]; simp
  simp only [hW0] at hw_ ⊢
  clear hW0 c0' c0 hb0
  have hB2 : Below W0.heap.size W0 w_ := by rw [hw_]; exact (Below.refl _ _).alloc (Nat.le_refl _) _
  have box : w_.heap[W0.heap.size]? = some (.cells (itC x) 133 (0, 0)) := by rw [hw_]; exact World.alloc_heap_new W0 _
  have hz2 : W0.heap.size < w_.heap.size := by rw [hw_]; simp
  have bld1 : Bld w0.heap.size w0.heap.size (fun k => (k < w.heap.size ∨ k = W0.heap.size) ∨ False) [] w_ := bld0.kept (fun k o hk _ _ => heapKept hk hB2) (fun h => h rfl) (fun k hk => .inl (by rcases hk with hk | hk; omega; exact hk.elim))
  have hBw := hB1.trans (hB2.mono hB1.size)
  clear hw_ bld0 hst
  have hlb : ∀ k, (k < w.heap.size ∨ k = W0.heap.size) → k < w_.heap.size := fun k hk => by omega
  have hAt_ : ItvAt (fun k => k < w.heap.size ∨ k = W0.heap.size) w_ x := (Hat.out.keep (Keep.of_below hBw (fun k hk => hk))).more (fun k hk => .inl hk)
  have Hit := hide (itemsIter x 1000000 W0.heap.size (fun k => k < w.heap.size ∨ k = W0.heap.size) w_ (by have := Hfit.out.cnt; omega) (by omega) box (.inr rfl) hAt_ hlb)
  have hlen : (preT 1 x).length ≤ 900000 := by rw [preT_length]; exact Hfit.out.cnt
  clear hAt_ box hone
  obtain ⟨L, hL⟩ : ∃ L : Nat → List UInt8, L = fun i => ((preT 1 x).take i).flatMap encI1 := ⟨_, rfl⟩
  have hL0 : L 0 = [] := by rw [hL]; simp
  rw [← hL0] at bld1
  have hLlen : ∀ i, (L i).length ≤ i * 24 := fun i => by rw [hL]; exact take_flat_len Hsm.out i
  have hLs : ∀ i y, (preT 1 x)[i]? = some y → L (i + 1) = L i ++ encI1 y := fun i y hy => by rw [hL]; exact take_flat _ _ _ _ hy
  have hLe : L (preT 1 x).length = encI x := by rw [hL]; simp [encI]
  have HL := hide (And.intro hLlen (And.intro hLs hLe))
  clear hLlen hLs hLe hL hL0
  gi_wp2
  refine wp_rangeO (gf := 297) (lb := #[.pointer (some ⟨W0.heap.size, 0, none⟩)]) rfl (enters_of Tryz.func297 (by kernel_rfl) rfl) Hit.out (fun _ => rfl) hlb
    (fun O i W => (∀ k, O k → w_.heap.size ≤ k) ∧ Bld w0.heap.size w0.heap.size (fun k => (k < w.heap.size ∨ k = W0.heap.size) ∨ O k) (L i) W ∧ Below w.heap.size w W)
    (fun O c W => False)
    (fun O O' i A B h hs => by
      obtain ⟨h1, h2, h5⟩ := h
      exact ⟨fun k hk => (hs.lt k hk).1, h2.kept (fun k o hk ho hM => hs.stp.cells _ _ hk ho (fun h => hM (.inr h))) (fun hM => by rcases hM with hM | hM; omega; have := h1 _ hM; omega) (fun k hk => by
        rcases hk with hk | hk
        · exact .inl (.inl hk)
        · exact (hs.new k hk).imp .inr id), hs.stp.below h5 (by omega) h5.size (fun k hk => by have := h1 k hk; omega)⟩)
    (fun O O' c A B h hs => h.elim)
    ⟨fun _ h => h.elim, bld1, hBw⟩ ?round ?done ?stop
  case stop => rintro O D c W hD h; exact h.elim
  case round =>
    rintro O l i ⟨dp, y⟩ W hl hy hO ⟨g1, g2, g3⟩ hrec
    have hyp : (dp, y) ∈ preT 1 x := List.mem_of_getElem? hy
    obtain ⟨ya, ycap, hyv, _, _⟩ := (preT_at Hat.out 1 _ hyp).slice
    simp only at hyv
    have hone2 : y.v.oneCell' = true := (preT_at Hat.out 1 _ hyp).oneCell
    have hst := fun (a : Addr) (w : World) => run_store Tryz.prog w a y.v .plain hone2
    have hW : w_.heap.size < W.heap.size := by obtain ⟨r, hr⟩ := hrec; have := (Array.getElem?_eq_some_iff.1 hr).1; omega
    have hBn : ∀ o, Below W.heap.size W (W.alloc o) := fun o => (Below.refl _ W).alloc (Nat.le_refl _) o
    have hil : i < 900000 := by have := (List.getElem?_eq_some_iff.1 hy).1; omega
    have hM : ∀ k, (k < w.heap.size ∨ k = W0.heap.size) ∨ O k → k ≠ w0.heap.size ∧ k < W.heap.size := fun k hk => by
      rcases hk with hk | hk
      · have := hlb k hk; omega
      · have := hO k hk; have := g1 k hk; omega
    obtain ⟨q, hq⟩ : ∃ q, q = max2 (max2 y.n y.s.length) y.l.length := ⟨_, rfl⟩
    have hq2 := mx_small (Hsm.out.n0 _ hyp) (Hsm.out.n _ hyp) (Hsm.out.s _ hyp) (Hsm.out.l _ hyp)
    unfold mx at hq2
    simp only at hq2
    rw [← hq] at hq2
    have Hq := hide (And.intro hq hq2)
    have HE := hide (fun W hB => headEncode_small S y.kind q W (HS.out.mono (w' := W) hB) (Hsm.out.major _ hyp) hq2.1 hq2.2)
    have Hlen := hide (And.intro (HL.out.1 i) (And.intro (HL.out.2.1 i _ hy) (Hsm.out.s _ hyp)))
    have Hy := hide hy
    have HG := hide (And.intro g1 (And.intro g2 g3))
    have HM := hide hM
    clear hy Hit hrec hyp hq hq2 g1 g2 g3 hM
    rw [hyv] at hst
    simp only [itEnc, itC, hyv]
    gi_wp2_with (apply wpListIn_store_new (ty := 133) (n := 4); (case hgd => exact rfl); (case ho => exact rfl); (case hd => exact rfl); (case hx => exact rfl); (case hw => exact rfl); (case hg => first | exact rfl | (simp; done)); (case hy => exact rfl); (case hi => kernel_rfl); (case hn0 => exact rfl); (case hn => exact rfl); (case h1 => first | exact rfl | assumption | (simp [Value.oneCell', *]; done) | (simp [*]; done)))
    refine ⟨(KeepsOthers.alloc _ _).from _, Keep.of_below (hBn _) (fun k hk => (HM.out k hk).2), fun W₂ hs hk hkr hsz hc hf => ?_⟩
    have b0 : W₂.cell? ⟨W.heap.size, 0, none⟩ = some (.int .i64 y.kind) := (hc _).trans (by simp)
    have b1 : W₂.cell? ⟨W.heap.size, 1, none⟩ = some (.int .i64 y.n) := (hc _).trans (by simp)
    have b2 : W₂.cell? ⟨W.heap.size, 2, none⟩ = some (.string (bs y.s)) := (hc _).trans (by simp)
    have b3 : W₂.cell? ⟨W.heap.size, 3, none⟩ = some (.slice ya y.l.length ycap) := (hc _).trans (by simp)
    have hBW2 : Below w.heap.size w W₂ := hs.below (HG.out.2.2.alloc HG.out.2.2.size _) (by omega) (Nat.le_trans HG.out.2.2.size (hBn _).size) (fun _ h => h.elim)
    have hszl : W.heap.size < W₂.heap.size := by rw [hsz]; simp
    have bl2 := (HG.out.2.1.kept (w' := W₂) (M' := fun k => (k < w.heap.size ∨ k = W0.heap.size) ∨ O k) (fun k o hk ho hM => hs.cells _ _ (heapKept hk (hBn _)) ho id) (fun h => (HM.out _ h).1 rfl) (fun k hk => .inl hk))
    have hsl : (bs y.s).size = y.s.length := by simp [bs, ByteArray.size]
    have H2 := hide (And.intro bl2 hBW2)
    clear hs hk hkr hsz hc hf bl2 hBW2 hst
    gi_wp2_with fail
    refine ⟨trivial, rfl, (CallsIn.inRound l (callsIn_wide.2 (Hq.out.1 ▸ HE.out _ H2.out.2))).mono ?_⟩
    rintro e_ A4 ⟨rfl, hb4⟩
    replace b2 := (hb4.cell (p := ⟨W.heap.size, 2, none⟩) hszl).trans b2
    clear b0 b1 b3
    have hs24 := Hlen.out.2.2
    have hsz1 : (bs (headSmall y.kind (max2 (max2 y.n y.s.length) y.l.length))).size = 1 := rfl
    have Hz1 := hide hsz1
    clear hsz1
    gi_wp2_with fail
    next hover => exfalso; have := Hz1.out; omega
    have hcat : bs (headSmall y.kind (max2 (max2 y.n y.s.length) y.l.length)) ++ bs y.s = bs (encI1 (dp, y)) := by
      rw [encI1]; apply ByteArray.ext; simp [bs, mx]
    rw [hcat]
    have bl4 := H2.out.1.kept (w' := A4) (M' := fun k => (k < w.heap.size ∨ k = W0.heap.size) ∨ O k) (fun k o hk _ _ => heapKept hk hb4) (fun h => (HM.out _ h).1 rfl) (fun k hk => .inl hk)
    have hB4 := H2.out.2.trans (hb4.mono H2.out.2.size)
    refine ⟨trivial, rfl, (CallsIn.inRound l (callsIn_wide.2 (writeString_calls _ _ _ _ (encI1 (dp, y)) A4 bl4 (fun k hk => by have := HM.out k hk; have := hb4.size; omega) (by have := Hlen.out.1; have := hs24; simp [encI1, headSmall]; omega) (by have := hb4.size; omega)))).mono ?_⟩
    rintro e_ A5 ⟨rfl, hbl5, hB5, hK5, hF5⟩
    have H5 := hide (And.intro hbl5 (And.intro hB5 (And.intro hK5 hF5)))
    clear bl4 hbl5 hB5 hK5 hF5 hcat
    gi_wp2_with fail
    obtain ⟨hbl5, hB5, hK5, hF5⟩ := H5.out
    refine ⟨(keepsFrom_of_below (B0 := w_.heap.size) hb4).trans ⟨hF5.size, fun k o _ h1 h2 => hF5.same k o (Nat.zero_le _) h1 h2⟩, (Keep.of_below hb4 (fun k hk => by have := HM.out k hk; omega)).trans hK5, HG.out.1, ?_, hB4.trans (hB5.mono (by omega))⟩
    rw [Hlen.out.2.1]
    exact hbl5
  case done =>
    rintro O D W hD ⟨h1, h2, h3⟩ hK
    rw [HL.out.2.2] at h2
    have hbm := h2.toF
    have Hbm := hide hbm
    have Hx := hide (And.intro hK (And.intro h2 h3))
    clear Hit hbm h2 h3 h1
    gi_wp2_with fail
    refine ⟨trivial, rfl, (callsIn_wide.2 (builderString_calls _ _ _ W Hbm.out (by have := (Array.getElem?_eq_some_iff.1 Hx.out.1).1; omega))).mono ?_⟩
    rintro e_ A6 ⟨rfl, _, hB6, hO6⟩
    have H6 := hide (And.intro hB6 hO6)
    clear hB6 hO6
    gi_wp2
    have kK : A6.heap[D]? = some (.deferred (some [])) := H6.out.2 D _ Hx.out.1 (by intro e; cases e; omega) (by intro _ _ e; cases e)
    refine ⟨by simp, .inl ⟨_, _, rfl, run_takeDeferred kK, ?_⟩⟩
    refine ⟨_, results_tmp2 (t := 2) (u := 3) rfl _ _ _, rfl, ?_⟩
    exact below_putObj (Hx.out.2.2.trans (H6.out.1.mono (by omega))) (by omega) _
end Go.Proofs.YtllfaffbaijgfaaGreatDoor

namespace Go.Proofs.YtllfaffbaijgfaaGreatDoor
open Go Go.RowKit Go.Shelf
attribute [local go_sem] Oper.semAt_some

theorem none2_calls (w : World) : Calls Tryz.prog 207 #[.agg #[.int .i64 noEid.scheme, .string (bs noEid.node), .string (bs noEid.service), .int .i64 noEid.a, .int .i64 noEid.b]] w (Rt w (.string (bs [110, 111, 110, 101]))) := by
  go_enter Tryz.func207, Tryz.ntmps207
  go_wp2_with (apply wpList_store_new (ty := 29) (n := 5); (case hgd => exact rfl); (case ho => exact rfl); (case hd => exact rfl); (case hx => exact rfl); (case hw => exact rfl); (case hg => first | exact rfl | (simp; done)); (case hy => exact rfl); (case hi => kernel_rfl); (case hn0 => exact rfl); (case hn => exact rfl); (case h1 => first | exact rfl | assumption | (simp [Value.oneCell', *]; done) | (simp [*]; done)))
  go_ret
  exact ⟨rfl, by ((repeat' (first | exact Below.refl _ _ | assumption | (refine Below.drew ?_) | (refine Below.alloc ?_ ?_ _) | (refine Below.setCell ?_ ?_ _) | (refine Below.step (W := ?hW) ?hq ?_ ?_; case hq => assumption))) <;> (first | (simp; done) | (simp; omega) | (simp at *; omega)))⟩
theorem halves0_calls (w : World) : Calls Tryz.prog 191 #[.agg #[.int .i64 noEid.scheme, .string (bs noEid.node), .string (bs noEid.service), .int .i64 noEid.a, .int .i64 noEid.b]] w (Rt w (.tuple #[.string (bs [100, 116, 110]), .string (bs [110, 111, 110, 101]), .int .i64 0])) :=
  halves_ok noEid w (by decide) (by decide) (by kernel_rfl) [100, 116, 110] [110, 111, 110, 101] _ _ _ schemeIs0 ⟨rfl, rfl⟩ (enters_of Tryz.func207 (by kernel_rfl) rfl) none2_calls

theorem itC_all (x : Itv) (hone : x.v.oneCell' = true) : (itC x).all (·.oneCell') = true := by simp [hone]; exact ⟨rfl, rfl, rfl⟩
abbrev zeroItem : Array Value := #[.int .i64 0, .int .i64 0, .string { data := #[] }, .slice none 0 0]
set_option maxRecDepth 100000 in
theorem eitherItem_calls (x : Itv) (w : World) (hone : x.v.oneCell' = true) : Calls Tryz.prog 199 #[.agg (itC x), .bool true] w (Rt w (.tuple #[.agg (itC x), .int .i64 0])) := by
  have hst := fun (a : Addr) (w : World) => run_store Tryz.prog w a x.v .plain hone
  have hall : (itC x).all (·.oneCell') = true := by simp [hone]; exact ⟨rfl, rfl, rfl⟩
  obtain ⟨w0, hw0⟩ : ∃ w0, w0 = ((w.alloc (.cells (itC x) 133)).alloc (.cells zeroItem 133)).alloc (.cells zeroItem 133) := ⟨_, rfl⟩
  have hB : Below w.heap.size w w0 := by rw [hw0]; ((repeat' (first | exact Below.refl _ _ | assumption | (refine Below.drew ?_) | (refine Below.alloc ?_ ?_ _) | (refine Below.setCell ?_ ?_ _) | (refine Below.step (W := ?hW) ?hq ?_ ?_; case hq => assumption))) <;> (first | (simp; done) | (simp; omega) | (simp at *; omega)))
  have hx : w0.heap[w.heap.size]? = some (.cells (itC x) 133 (0, 0)) := by rw [hw0]; exact heapNew (u := w) (by ((repeat' (first | exact Below.refl _ _ | assumption | (refine Below.drew ?_) | (refine Below.alloc ?_ ?_ _) | (refine Below.setCell ?_ ?_ _) | (refine Below.step (W := ?hW) ?hq ?_ ?_; case hq => assumption))) <;> (first | (simp; done) | (simp; omega) | (simp at *; omega)))) rfl
  have hr : w0.heap[w.heap.size + 1]? = some (.cells zeroItem 133 (0, 0)) := by rw [hw0]; exact heapNew (u := w.alloc _) (by ((repeat' (first | exact Below.refl _ _ | assumption | (refine Below.drew ?_) | (refine Below.alloc ?_ ?_ _) | (refine Below.setCell ?_ ?_ _) | (refine Below.step (W := ?hW) ?hq ?_ ?_; case hq => assumption))) <;> (first | (simp; done) | (simp; omega) | (simp at *; omega)))) (by simp)
  go_enter Tryz.func199, Tryz.ntmps199
  go_upto_region 2 with fail
  rw [← hw0]
  clear hw0
  go_wp2_with (first | (first | (apply wpList_load_of (ty := 133); (case hgd => exact rfl); (case ho => exact rfl); (case hx => exact rfl); (case hr => apply load_row (n := 4); (case hheap => exact hx); (case hu => exact Tryz.underlying133); (case hd => exact rfl); (case hi => kernel_rfl); (case hc => exact rfl))) | (apply wpList_load_w (ty := 133); (case hgd => exact rfl); (case ho => exact rfl); (case hx => exact rfl); (case hr => apply load_row (n := 4); (case hheap => exact hx); (case hu => exact Tryz.underlying133); (case hd => exact rfl); (case hi => kernel_rfl); (case hc => exact rfl)))) | (apply wpList_store_at (ty := 133) (n := 4); (case hgd => exact rfl); (case ho => exact rfl); (case hd => exact rfl); (case hx => exact rfl); (case hheap => exact hr); (case hy => exact rfl); (case hi => kernel_rfl); (case hn0 => exact rfl); (case hn => exact rfl); (case h1 => first | exact rfl | assumption | (simp [Value.oneCell', *]; done) | (simp [*]; done))))
  refine bodyPost_ret (results_ct rfl rfl rfl (load_row (n := 4) (hheap := setRow_heap _ _ _ _ _ _ hr) (hu := Tryz.underlying133) (hd := rfl) (hi := by kernel_rfl) (hc := rfl))) rfl ?_
  exact ⟨rfl, below_setRow hB (by omega) _⟩

def numI (n : Int) : Itv := .mk 0 n [] (.slice none 0 0) []
def itNone (v : Value) : Itv := .mk 4 0 [] v [numI 1, numI 0]
abbrev numC (n : Int) : Array Value := #[.int .i64 0, .int .i64 n, .string { data := #[] }, .slice none 0 0]

set_option maxRecDepth 100000 in
set_option maxHeartbeats 4000000 in
theorem item0_calls (w : World) : Calls Tryz.prog 129 #[.agg #[.int .i64 noEid.scheme, .string (bs noEid.node), .string (bs noEid.service), .int .i64 noEid.a, .int .i64 noEid.b]] w (fun e w' => ∃ v, e = .returned (.tuple #[.agg (itC (itNone v)), .int .i64 0]) ∧ Below w.heap.size w w' ∧ ItvAt (fun k => k < w'.heap.size) w' (itNone v)) := by
  have H1 := hide (fun W => halves0_calls W)
  obtain ⟨w0, hw0⟩ : ∃ w0, w0 = (w.alloc (.cells #[.int .i64 noEid.scheme, .string (bs noEid.node), .string (bs noEid.service), .int .i64 noEid.a, .int .i64 noEid.b] 29)).alloc (.cells zeroItem 133) := ⟨_, rfl⟩
  have hB : Below w.heap.size w w0 := by rw [hw0]; ((repeat' (first | exact Below.refl _ _ | assumption | (refine Below.drew ?_) | (refine Below.alloc ?_ ?_ _) | (refine Below.setCell ?_ ?_ _) | (refine Below.step (W := ?hW) ?hq ?_ ?_; case hq => assumption))) <;> (first | (simp; done) | (simp; omega) | (simp at *; omega)))
  have hx : w0.heap[w.heap.size]? = some (.cells #[.int .i64 noEid.scheme, .string (bs noEid.node), .string (bs noEid.service), .int .i64 noEid.a, .int .i64 noEid.b] 29 (0, 0)) := by rw [hw0]; exact heapNew (u := w) (by ((repeat' (first | exact Below.refl _ _ | assumption | (refine Below.drew ?_) | (refine Below.alloc ?_ ?_ _) | (refine Below.setCell ?_ ?_ _) | (refine Below.step (W := ?hW) ?hq ?_ ?_; case hq => assumption))) <;> (first | (simp; done) | (simp; omega) | (simp at *; omega)))) rfl
  have hr : w0.heap[w.heap.size + 1]? = some (.cells zeroItem 133 (0, 0)) := by rw [hw0]; exact heapNew (u := w.alloc _) (by ((repeat' (first | exact Below.refl _ _ | assumption | (refine Below.drew ?_) | (refine Below.alloc ?_ ?_ _) | (refine Below.setCell ?_ ?_ _) | (refine Below.step (W := ?hW) ?hq ?_ ?_; case hq => assumption))) <;> (first | (simp; done) | (simp; omega) | (simp at *; omega)))) (by simp)
  have hlt : w.heap.size + 1 < w0.heap.size := by rw [hw0]; simp
  go_enter Tryz.func129, Tryz.ntmps129
  go_upto_region 1 with (apply wpList_store_new (ty := 29) (n := 5); (case hgd => exact rfl); (case ho => exact rfl); (case hd => exact rfl); (case hx => exact rfl); (case hw => exact rfl); (case hg => first | exact rfl | (simp; done)); (case hy => exact rfl); (case hi => kernel_rfl); (case hn0 => exact rfl); (case hn => exact rfl); (case h1 => first | exact rfl | assumption | (simp [Value.oneCell', *]; done) | (simp [*]; done)))
  rw [← hw0]
  clear hw0
  go_wp2_with (first | (apply wpList_load_of (ty := 29); (case hgd => exact rfl); (case ho => exact rfl); (case hx => exact rfl); (case hr => apply load_row (n := 5); (case hheap => exact hx); (case hu => exact Tryz.underlying29); (case hd => exact rfl); (case hi => kernel_rfl); (case hc => exact rfl))) | (apply wpList_load_w (ty := 29); (case hgd => exact rfl); (case ho => exact rfl); (case hx => exact rfl); (case hr => apply load_row (n := 5); (case hheap => exact hx); (case hu => exact Tryz.underlying29); (case hd => exact rfl); (case hi => kernel_rfl); (case hc => exact rfl))))
  refine (H1.out _).mono ?_
  rintro _ w1 ⟨rfl, hb1⟩
  have hx1 := heapKept hx hb1
  have hr1 := heapKept hr hb1
  have k0 : w1.cell? ⟨w.heap.size, 0, none⟩ = some (.int .i64 0) := cellsOf hx1 0
  clear hx hr
  go_wp2_with fail
  refine (eid7Number_calls 1 w1).mono ?_
  rintro _ w2 ⟨rfl, hb2⟩
  go_wp2_with fail
  refine (eid7Number_calls 0 w2).mono ?_
  rintro _ w3 ⟨rfl, hb3⟩
  have hr3 := heapKept (heapKept hr1 hb2) hb3
  clear k0 hx1 hr1
  go_wp2_with fail
  obtain ⟨W4, hW4⟩ : ∃ W4, W4 = w3.alloc (.cells #[.int .i64 0, .int .i64 1, .string { data := #[] }, .slice none 0 0, .int .i64 0, .int .i64 0, .string { data := #[] }, .slice none 0 0] 133) := ⟨_, rfl⟩
  rw [← hW4]
  have hB4 : Below w3.heap.size w3 W4 := by rw [hW4]; exact (Below.refl _ _).alloc (Nat.le_refl _) _
  have hrow : W4.heap[w3.heap.size]? = some (.cells #[.int .i64 0, .int .i64 1, .string { data := #[] }, .slice none 0 0, .int .i64 0, .int .i64 0, .string { data := #[] }, .slice none 0 0] 133 (0, 0)) := by rw [hW4]; exact World.alloc_heap_new w3 _
  have hz4 : w3.heap.size < W4.heap.size := by rw [hW4]; simp
  clear hW4
  obtain ⟨b, hb⟩ : ∃ b, b = w3.heap.size := ⟨_, rfl⟩
  rw [← hb] at hrow hz4 ⊢
  have Hb := hide hb
  clear hb
  refine (eid7List_calls _ 2 2 W4).mono ?_
  rintro _ w5 ⟨rfl, hb5⟩
  go_wp2_with fail
  refine (show Calls _ _ _ _ _ from eitherItem_calls (itNone (.slice (some ⟨b, 0, none⟩) 2 2)) w5 rfl).mono ?_
  rintro _ w6 ⟨rfl, hb6⟩
  have hr6 := heapKept (heapKept (heapKept hr3 hB4) hb5) hb6
  have hall := itC_all (itNone (.slice (some ⟨b, 0, none⟩) 2 2)) rfl
  clear hr3
  go_wp2_with (apply wpList_store_at (ty := 133) (n := 4); (case hgd => exact rfl); (case ho => exact rfl); (case hd => exact rfl); (case hx => exact rfl); (case hheap => exact hr6); (case hy => exact rfl); (case hi => kernel_rfl); (case hn0 => exact rfl); (case hn => exact rfl); (case h1 => first | exact rfl | assumption | (simp [Value.oneCell', *]; done) | (simp [*]; done)))
  refine bodyPost_ret (results_ct rfl rfl rfl (load_row (n := 4) (hheap := setRow_heap _ _ _ _ _ _ hr6) (hu := Tryz.underlying133) (hd := rfl) (hi := by kernel_rfl) (hc := rfl))) rfl ?_
  have hBb : Below w0.heap.size w0 w6 := (((((hb1.trans (hb2.mono hb1.size)).trans (hb3.mono (by have := hb1.size; have := hb2.size; omega))).trans (hB4.mono (by have := hb1.size; have := hb2.size; have := hb3.size; omega))).trans (hb5.mono (by have := hb1.size; have := hb2.size; have := hb3.size; have := hB4.size; omega)))).trans (hb6.mono (by have := hb1.size; have := hb2.size; have := hb3.size; have := hB4.size; have := hb5.size; omega))
  have hrow6 := heapKept (heapKept hrow hb5) hb6
  have hne : b ≠ w.heap.size + 1 := by have := Hb.out; have := hb1.size; have := hb2.size; have := hb3.size; omega
  have hrow7 := (setRow_other w6 (w.heap.size + 1) b (itC (itNone (.slice (some ⟨b, 0, none⟩) 2 2))) hne).trans hrow6
  refine ⟨.slice (some ⟨b, 0, none⟩) 2 2, rfl, below_setRow (hB.trans (hBb.mono (by omega))) (by omega) _, ?_⟩
  have hnum : ∀ n : Int, ItvAt (fun k => k < (w6.setRow (w.heap.size + 1) (itC (itNone (.slice (some ⟨b, 0, none⟩) 2 2)))).heap.size) (w6.setRow (w.heap.size + 1) (itC (itNone (.slice (some ⟨b, 0, none⟩) 2 2)))) (numI n) := fun n => .mk 0 n [] none 0 [] (fun h => absurd h (Nat.lt_irrefl _)) (fun x hx => by cases hx)
  refine ItvAt.mk 4 0 [] (some ⟨b, 0, none⟩) 2 [numI 1, numI 0] (fun _ => ⟨b, 0, rfl, by have := hb5.size; have := hb6.size; simp; omega, fun i x hx => ?_⟩) (fun x hx => ?_)
  · rcases i with _ | _ | i
    · cases hx
      exact ⟨cellsOf hrow7 0, cellsOf hrow7 1, cellsOf hrow7 2, cellsOf hrow7 3⟩
    · cases hx
      exact ⟨cellsOf hrow7 4, cellsOf hrow7 5, cellsOf hrow7 6, cellsOf hrow7 7⟩
    · cases hx
  · rcases List.mem_cons.1 hx with rfl | hx
    · exact hnum 1
    · rcases List.mem_cons.1 hx with rfl | hx
      · exact hnum 0
      · cases hx
end Go.Proofs.YtllfaffbaijgfaaGreatDoor
