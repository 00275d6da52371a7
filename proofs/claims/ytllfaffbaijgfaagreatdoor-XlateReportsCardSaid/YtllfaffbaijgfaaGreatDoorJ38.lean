/- seven.areBlocks: all blocks together. -/
import Derived.Test.YtllfaffbaijgfaaGreatDoorJ11
import Derived.Test.YtllfaffbaijgfaaGreatDoorJ13
set_option linter.unusedVariables false
set_option linter.unusedSimpArgs false
namespace Go.Proofs.YtllfaffbaijgfaaGreatDoor
open Go Go.RowKit Go.Shelf
attribute [local go_sem] Oper.semAt_some

def cntOf (key : Block → Int) (l : List Block) (i : Nat) (k : Int) : Int := (((l.take i).countP fun b => key b == k : Nat) : Int)
theorem cntOf_zero (key : Block → Int) (l : List Block) : cntOf key l 0 = fun _ => 0 := by funext k; simp [cntOf]
theorem cntOf_succ {key : Block → Int} {l : List Block} {i : Nat} {x : Block} (h : l[i]? = some x) : (fun k => if k = key x then cntOf key l i (key x) + 1 else cntOf key l i k) = cntOf key l (i + 1) := by
  funext k
  unfold cntOf
  rw [List.take_add_one, h]
  by_cases e : k = key x
  · subst e; simp
  · have : ¬ key x = k := fun h => e h.symm
    simp [e, this]
theorem cntOf_le (key : Block → Int) (l : List Block) (i : Nat) (k : Int) : 0 ≤ cntOf key l i k ∧ cntOf key l i k ≤ l.length := by
  unfold cntOf
  have h1 := List.countP_le_length (p := fun b => key b == k) (l := l.take i)
  have h2 : (l.take i).length ≤ l.length := by simp; omega
  omega

theorem zero_int (W : World) : (zeroValue 3).run Tryz.prog W = .ok (.int .i64 0) W := by kernel_rfl

theorem isTwice_calls (n : Int) (K r : Nat) (o : Obj) (f : Int → Int) (w : World) (hc : w.cell? ⟨K, 0, none⟩ = some (.map (some r))) (ho : w.heap[r]? = some o) (h : Cnt f o) :
    Calls Tryz.prog 147 #[.int .i64 n, .pointer (some ⟨K, 0, none⟩)] w (Pu w (.bool (decide (1 < f n)))) := by
  have hl := Cnt.lookup (P := Tryz.prog) Tryz.underlying189 Tryz.underlying3 zero_int ho h n
  clear h ho
  go_enter Tryz.func147, Tryz.ntmps147
  go_wp2
  go_ret
  exact ⟨rfl, rfl⟩

def round7 (l : List Block) (i : Nat) (x : Block) : Bool := block7 x (decide (i + 1 = l.length)) && decide (cntOf (·.num) l (i + 1) x.num ≤ 1)
def rounds7 (l : List Block) : Bool := (l.mapIdx fun i x => round7 l i x).all id
def blocks7 (l : List Block) : Bool := rounds7 l && decide (1 ≤ l.length) && decide (l.length ≤ 8) && !([6, 7, 10, 192].any fun k => decide (1 < cntOf (·.type) l l.length k))
theorem rounds7_false {l : List Block} {i : Nat} {x : Block} (h : l[i]? = some x) (hb : round7 l i x = false) : rounds7 l = false := by
  unfold rounds7
  rw [List.all_eq_false]
  exact ⟨false, List.mem_of_getElem? (i := i) (by simp [List.getElem?_mapIdx, h, hb]), by simp⟩
theorem rounds7_true {l : List Block} (h : ∀ i x, l[i]? = some x → round7 l i x = true) : rounds7 l = true := by
  unfold rounds7
  rw [List.all_eq_true]
  intro b hb
  obtain ⟨i, hi⟩ := List.mem_iff_getElem?.1 hb
  simp only [List.getElem?_mapIdx, Option.map_eq_some_iff] at hi
  obtain ⟨x, hx, rfl⟩ := hi
  exact h i x hx

theorem keepsFrom_putObj {B0 r : Nat} {W : World} {o : Obj} (h : r < B0) : KeepsFrom B0 W (W.putObj r o) := ⟨by simp, fun k _ hk he _ => (World.putObj_heap_other (by omega)).trans he⟩
theorem keep_putObj {R : Nat → Prop} {r : Nat} {W : World} {o : Obj} (h : ¬ R r) : Keep R W (W.putObj r o) := ⟨by simp, fun k hk => World.putObj_heap_other (fun e => h (e ▸ hk))⟩

set_option maxRecDepth 100000 in
theorem areBlocks_calls (x : Seven) (rv : Nat → Value) (a : Option Addr) (cap : Nat) (w : World) (hl : Laid w) (h : Lies w x.blocks rv a) (hfit : ∀ z ∈ x.blocks, blockFit z) :
    Calls Tryz.prog 88 #[.agg #[.int .i64 x.flags, .int .i64 x.sum, .int .i64 x.dest.scheme, .string (bs x.dest.node), .string (bs x.dest.service), .int .i64 x.dest.a, .int .i64 x.dest.b, .int .i64 x.source.scheme, .string (bs x.source.node), .string (bs x.source.service), .int .i64 x.source.a, .int .i64 x.source.b, .int .i64 x.report.scheme, .string (bs x.report.node), .string (bs x.report.service), .int .i64 x.report.a, .int .i64 x.report.b, .int .i64 x.time, .int .i64 x.seq, .int .i64 x.life, .int .i64 x.off, .int .i64 x.total, .slice a x.blocks.length cap]] w (Rt w (.bool (blocks7 x.blocks))) := by
  have H := hide h
  have Hl := hide hl
  have Hfit := hide hfit
  clear h hl hfit
  obtain ⟨n, hn⟩ : ∃ n, n = x.blocks.length := ⟨_, rfl⟩
  rw [← hn]
  have hlen : n ≤ 9000000000000000000 := by rw [hn]; exact H.out.len
  have Hn := hide hn
  clear hn
  refine (callsIn_wide (n := 0)).1 ?_
  refine callsIn_of_wp_marks Tryz.func88 rfl trivial ?_ rfl
  simp only [Tryz.ntmps88, List.size_toArray, List.length_cons, List.length_nil, Nat.reduceAdd, Nat.reduceSub, Array.replicate_succ, Array.replicate_zero, List.push_toArray, List.append_toArray, List.nil_append, List.cons_append]
  have hmm := @run_makeMap Tryz.prog
  gi_wp2_with (first | (apply wpListIn_load_of (ty := 35); (case hgd => exact rfl); (case ho => exact rfl); (case hx => exact rfl); (case hr => apply load_row (n := 23); (case hheap => apply heapNew (u := w); (case hbel => ((repeat' (first | exact Below.refl _ _ | assumption | (refine Below.drew ?_) | (refine Below.alloc ?_ ?_ _) | (refine Below.setCell ?_ ?_ _) | (refine Below.step (W := ?hW) ?hq ?_ ?_; case hq => assumption))) <;> (first | (simp; done) | (simp; omega) | (simp at *; omega)))); (case hnew => exact rfl)); (case hu => exact Tryz.underlying35); (case hd => exact rfl); (case hi => kernel_rfl); (case hc => exact rfl))) | (apply wpIn_load_of (ty := 35); (case ho => exact rfl); (case hx => exact rfl); (case hr => apply load_row (n := 23); (case hheap => apply heapNew (u := w); (case hbel => ((repeat' (first | exact Below.refl _ _ | assumption | (refine Below.drew ?_) | (refine Below.alloc ?_ ?_ _) | (refine Below.setCell ?_ ?_ _) | (refine Below.step (W := ?hW) ?hq ?_ ?_; case hq => assumption))) <;> (first | (simp; done) | (simp; omega) | (simp at *; omega)))); (case hnew => exact rfl)); (case hu => exact Tryz.underlying35); (case hd => exact rfl); (case hi => kernel_rfl); (case hc => exact rfl))))
  refine ⟨trivial, rfl, ?_⟩
  refine (callsIn_wide.2 (sevBlocks_calls x (.slice a n cap) _ rfl)).mono ?_
  rintro e_ w_ ⟨rfl, hw_⟩
  obtain ⟨W0, hW0⟩ : ∃ W0, ((((((w.alloc (.cells #[.int .i64 x.flags, .int .i64 x.sum, .int .i64 x.dest.scheme, .string (bs x.dest.node), .string (bs x.dest.service), .int .i64 x.dest.a, .int .i64 x.dest.b, .int .i64 x.source.scheme, .string (bs x.source.node), .string (bs x.source.service), .int .i64 x.source.a, .int .i64 x.source.b, .int .i64 x.report.scheme, .string (bs x.report.node), .string (bs x.report.service), .int .i64 x.report.a, .int .i64 x.report.b, .int .i64 x.time, .int .i64 x.seq, .int .i64 x.life, .int .i64 x.off, .int .i64 x.total, .slice a n cap] 35)).alloc (.cells #[.bool false] 4)).alloc (.map #[] 0)).alloc (.map #[] 0)).alloc (.cells #[.map (some (w.heap.size + 1 + 1))] 189)).alloc (.cells #[.map (some (w.heap.size + 1 + 1 + 1))] 189)) = W0 := ⟨_, rfl⟩
  rw [hW0] at hw_ ⊢
  have hB0 : Below w.heap.size w W0 := by rw [← hW0]; ((repeat' (first | exact Below.refl _ _ | assumption | (refine Below.drew ?_) | (refine Below.alloc ?_ ?_ _) | (refine Below.setCell ?_ ?_ _) | (refine Below.step (W := ?hW) ?hq ?_ ?_; case hq => assumption))) <;> (first | (simp; done) | (simp; omega) | (simp at *; omega)))
  have hz0 : W0.heap.size = w.heap.size + 6 := by rw [← hW0]; simp
  have g0 : ∀ i, W0.cell? ⟨w.heap.size, i, none⟩ = (#[.int .i64 x.flags, .int .i64 x.sum, .int .i64 x.dest.scheme, .string (bs x.dest.node), .string (bs x.dest.service), .int .i64 x.dest.a, .int .i64 x.dest.b, .int .i64 x.source.scheme, .string (bs x.source.node), .string (bs x.source.service), .int .i64 x.source.a, .int .i64 x.source.b, .int .i64 x.report.scheme, .string (bs x.report.node), .string (bs x.report.service), .int .i64 x.report.a, .int .i64 x.report.b, .int .i64 x.time, .int .i64 x.seq, .int .i64 x.life, .int .i64 x.off, .int .i64 x.total, .slice a n cap] : Array Value)[i]? := fun i => by rw [← hW0]; exact cellOf (u := w) (t := 35) (by ((repeat' (first | exact Below.refl _ _ | assumption | (refine Below.drew ?_) | (refine Below.alloc ?_ ?_ _) | (refine Below.setCell ?_ ?_ _) | (refine Below.step (W := ?hW) ?hq ?_ ?_; case hq => assumption))) <;> (first | (simp; done) | (simp; omega) | (simp at *; omega)))) rfl
  have g1 : W0.cell? ⟨w.heap.size + 1, 0, none⟩ = some (.bool false) := by rw [← hW0]; exact cellOf (i := 0) (u := w.alloc (.cells #[.int .i64 x.flags, .int .i64 x.sum, .int .i64 x.dest.scheme, .string (bs x.dest.node), .string (bs x.dest.service), .int .i64 x.dest.a, .int .i64 x.dest.b, .int .i64 x.source.scheme, .string (bs x.source.node), .string (bs x.source.service), .int .i64 x.source.a, .int .i64 x.source.b, .int .i64 x.report.scheme, .string (bs x.report.node), .string (bs x.report.service), .int .i64 x.report.a, .int .i64 x.report.b, .int .i64 x.time, .int .i64 x.seq, .int .i64 x.life, .int .i64 x.off, .int .i64 x.total, .slice a n cap] 35)) (c := #[.bool false]) (t := 4) (by ((repeat' (first | exact Below.refl _ _ | assumption | (refine Below.drew ?_) | (refine Below.alloc ?_ ?_ _) | (refine Below.setCell ?_ ?_ _) | (refine Below.step (W := ?hW) ?hq ?_ ?_; case hq => assumption))) <;> (first | (simp; done) | (simp; omega) | (simp at *; omega)))) (by simp)
  have g1f : W0.frozen? ⟨w.heap.size + 1, 0, none⟩ = false := by
    have : W0.heap[w.heap.size + 1]? = some (.cells #[.bool false] 4 (0, 0)) := by rw [← hW0]; exact heapNew (u := w.alloc (.cells #[.int .i64 x.flags, .int .i64 x.sum, .int .i64 x.dest.scheme, .string (bs x.dest.node), .string (bs x.dest.service), .int .i64 x.dest.a, .int .i64 x.dest.b, .int .i64 x.source.scheme, .string (bs x.source.node), .string (bs x.source.service), .int .i64 x.source.a, .int .i64 x.source.b, .int .i64 x.report.scheme, .string (bs x.report.node), .string (bs x.report.service), .int .i64 x.report.a, .int .i64 x.report.b, .int .i64 x.time, .int .i64 x.seq, .int .i64 x.life, .int .i64 x.off, .int .i64 x.total, .slice a n cap] 35)) (by ((repeat' (first | exact Below.refl _ _ | assumption | (refine Below.drew ?_) | (refine Below.alloc ?_ ?_ _) | (refine Below.setCell ?_ ?_ _) | (refine Below.step (W := ?hW) ?hq ?_ ?_; case hq => assumption))) <;> (first | (simp; done) | (simp; omega) | (simp at *; omega)))) (by simp)
    simp [World.frozen?, this]
  have g2 : W0.heap[w.heap.size + 1 + 1]? = some (.map #[] 0) := by rw [← hW0]; exact heapNew (u := (w.alloc (.cells #[.int .i64 x.flags, .int .i64 x.sum, .int .i64 x.dest.scheme, .string (bs x.dest.node), .string (bs x.dest.service), .int .i64 x.dest.a, .int .i64 x.dest.b, .int .i64 x.source.scheme, .string (bs x.source.node), .string (bs x.source.service), .int .i64 x.source.a, .int .i64 x.source.b, .int .i64 x.report.scheme, .string (bs x.report.node), .string (bs x.report.service), .int .i64 x.report.a, .int .i64 x.report.b, .int .i64 x.time, .int .i64 x.seq, .int .i64 x.life, .int .i64 x.off, .int .i64 x.total, .slice a n cap] 35)).alloc (.cells #[.bool false] 4)) (by ((repeat' (first | exact Below.refl _ _ | assumption | (refine Below.drew ?_) | (refine Below.alloc ?_ ?_ _) | (refine Below.setCell ?_ ?_ _) | (refine Below.step (W := ?hW) ?hq ?_ ?_; case hq => assumption))) <;> (first | (simp; done) | (simp; omega) | (simp at *; omega)))) (by simp)
  have g3 : W0.heap[w.heap.size + 1 + 1 + 1]? = some (.map #[] 0) := by rw [← hW0]; exact heapNew (u := ((w.alloc (.cells #[.int .i64 x.flags, .int .i64 x.sum, .int .i64 x.dest.scheme, .string (bs x.dest.node), .string (bs x.dest.service), .int .i64 x.dest.a, .int .i64 x.dest.b, .int .i64 x.source.scheme, .string (bs x.source.node), .string (bs x.source.service), .int .i64 x.source.a, .int .i64 x.source.b, .int .i64 x.report.scheme, .string (bs x.report.node), .string (bs x.report.service), .int .i64 x.report.a, .int .i64 x.report.b, .int .i64 x.time, .int .i64 x.seq, .int .i64 x.life, .int .i64 x.off, .int .i64 x.total, .slice a n cap] 35)).alloc (.cells #[.bool false] 4)).alloc (.map #[] 0)) (by ((repeat' (first | exact Below.refl _ _ | assumption | (refine Below.drew ?_) | (refine Below.alloc ?_ ?_ _) | (refine Below.setCell ?_ ?_ _) | (refine Below.step (W := ?hW) ?hq ?_ ?_; case hq => assumption))) <;> (first | (simp; done) | (simp; omega) | (simp at *; omega)))) (by simp)
  have g4 : W0.cell? ⟨w.heap.size + 1 + 1 + 1 + 1, 0, none⟩ = some (.map (some (w.heap.size + 1 + 1))) := by rw [← hW0]; exact cellOf (i := 0) (u := (((w.alloc (.cells #[.int .i64 x.flags, .int .i64 x.sum, .int .i64 x.dest.scheme, .string (bs x.dest.node), .string (bs x.dest.service), .int .i64 x.dest.a, .int .i64 x.dest.b, .int .i64 x.source.scheme, .string (bs x.source.node), .string (bs x.source.service), .int .i64 x.source.a, .int .i64 x.source.b, .int .i64 x.report.scheme, .string (bs x.report.node), .string (bs x.report.service), .int .i64 x.report.a, .int .i64 x.report.b, .int .i64 x.time, .int .i64 x.seq, .int .i64 x.life, .int .i64 x.off, .int .i64 x.total, .slice a n cap] 35)).alloc (.cells #[.bool false] 4)).alloc (.map #[] 0)).alloc (.map #[] 0)) (c := #[.map (some (w.heap.size + 1 + 1))]) (t := 189) (by ((repeat' (first | exact Below.refl _ _ | assumption | (refine Below.drew ?_) | (refine Below.alloc ?_ ?_ _) | (refine Below.setCell ?_ ?_ _) | (refine Below.step (W := ?hW) ?hq ?_ ?_; case hq => assumption))) <;> (first | (simp; done) | (simp; omega) | (simp at *; omega)))) (by simp)
  have g5 : W0.cell? ⟨w.heap.size + 1 + 1 + 1 + 1 + 1, 0, none⟩ = some (.map (some (w.heap.size + 1 + 1 + 1))) := by rw [← hW0]; exact cellOf (i := 0) (u := ((((w.alloc (.cells #[.int .i64 x.flags, .int .i64 x.sum, .int .i64 x.dest.scheme, .string (bs x.dest.node), .string (bs x.dest.service), .int .i64 x.dest.a, .int .i64 x.dest.b, .int .i64 x.source.scheme, .string (bs x.source.node), .string (bs x.source.service), .int .i64 x.source.a, .int .i64 x.source.b, .int .i64 x.report.scheme, .string (bs x.report.node), .string (bs x.report.service), .int .i64 x.report.a, .int .i64 x.report.b, .int .i64 x.time, .int .i64 x.seq, .int .i64 x.life, .int .i64 x.off, .int .i64 x.total, .slice a n cap] 35)).alloc (.cells #[.bool false] 4)).alloc (.map #[] 0)).alloc (.map #[] 0)).alloc (.cells #[.map (some (w.heap.size + 1 + 1))] 189)) (c := #[.map (some (w.heap.size + 1 + 1 + 1))]) (t := 189) (by ((repeat' (first | exact Below.refl _ _ | assumption | (refine Below.drew ?_) | (refine Below.alloc ?_ ?_ _) | (refine Below.setCell ?_ ?_ _) | (refine Below.step (W := ?hW) ?hq ?_ ?_; case hq => assumption))) <;> (first | (simp; done) | (simp; omega) | (simp at *; omega)))) (by simp)
  clear hW0 hmm
  have hB1 : Below W0.heap.size W0 w_ := by rw [hw_]; ((repeat' (first | exact Below.refl _ _ | assumption | (refine Below.drew ?_) | (refine Below.alloc ?_ ?_ _) | (refine Below.setCell ?_ ?_ _) | (refine Below.step (W := ?hW) ?hq ?_ ?_; case hq => assumption))) <;> (first | (simp; done) | (simp; omega) | (simp at *; omega)))
  have hz1 : w_.heap.size = w.heap.size + 7 := by rw [hw_]; simp [hz0]
  have hbox : w_.cell? ⟨W0.heap.size, 22, none⟩ = some (.slice a n cap) := by rw [hw_]; simp
  have old : ∀ b o, b < w.heap.size + 6 → w_.cell? ⟨b, o, none⟩ = W0.cell? ⟨b, o, none⟩ := fun b o h => hB1.cell (p := ⟨b, o, none⟩) (by rw [hz0]; exact h)
  have j0 : w_.cell? ⟨w.heap.size, 22, none⟩ = some (.slice a n cap) := (old _ _ (by omega)).trans (g0 22)
  have j1 := (old _ 0 (by omega)).trans g1
  have j1f := (hB1.frozen (p := ⟨w.heap.size + 1, 0, none⟩) (show w.heap.size + 1 < W0.heap.size by omega)).trans g1f
  have j2 := (hB1.block _ (by omega)).trans g2
  have j3 := (hB1.block _ (by omega)).trans g3
  have j4 := (old _ 0 (by omega)).trans g4
  have j5 := (old _ 0 (by omega)).trans g5
  have hBw : Below w.heap.size w w_ := hB0.trans (hB1.mono (by omega))
  clear hw_ g0 g1 g1f g2 g3 g4 g5 old
  have HL := hide (H.out.mono hBw)
  rw [hz0] at hbox
  have hlb : ∀ k, k < w.heap.size ∨ k = w.heap.size + 6 → k < w_.heap.size := fun k hk => by omega
  have hbase : ∀ b o, a = some ⟨b, o, none⟩ → 0 < x.blocks.length → b < w.heap.size := fun b o e hn => by
    obtain ⟨b', o', e', h⟩ := H.out.there hn
    rw [e'] at e; cases e; exact h.1
  have hit : Iter Tryz.prog 112 #[.pointer (some ⟨w.heap.size + 6, 0, none⟩)] blkEnc (blkItems x.blocks rv) (fun k => k < w.heap.size ∨ k = w.heap.size + 6) (fun _ => False) w_ :=
    sevIter x.blocks rv a cap (w.heap.size + 6) _ w_ HL.out.len (by rw [← Hn.out]; exact hbox) (.inr rfl)
      (fun hn => by obtain ⟨b, o, e, h⟩ := HL.out.there hn; exact ⟨b, o, e, .inl (hbase b o e hn), h⟩)
      (fun i y hy => (HL.out.refs i y hy).oneCell) hlb
  have Hit := hide hit
  clear hit hbase hbox
  gi_wp2
  refine wp_range (gf := 112) (lb := #[.pointer (some ⟨w.heap.size + 6, 0, none⟩)]) rfl (enters_of Tryz.func112 (by kernel_rfl) rfl) Hit.out (fun _ => rfl) hlb (fun _ h => h.elim)
    (fun i W => (∀ j z, j < i → x.blocks[j]? = some z → round7 x.blocks j z = true) ∧ (∃ s, W.cell? ⟨w.heap.size + 1, 0, none⟩ = some (.bool s)) ∧ W.frozen? ⟨w.heap.size + 1, 0, none⟩ = false ∧
      (W.cell? ⟨w.heap.size, 22, none⟩ = some (.slice a n cap) ∧ W.cell? ⟨w.heap.size + 1 + 1 + 1 + 1, 0, none⟩ = some (.map (some (w.heap.size + 1 + 1))) ∧ W.cell? ⟨w.heap.size + 1 + 1 + 1 + 1 + 1, 0, none⟩ = some (.map (some (w.heap.size + 1 + 1 + 1)))) ∧
      (∃ o1 o2, W.heap[w.heap.size + 1 + 1]? = some o1 ∧ Cnt (cntOf (·.num) x.blocks i) o1 ∧ W.heap[w.heap.size + 1 + 1 + 1]? = some o2 ∧ Cnt (cntOf (·.type) x.blocks i) o2) ∧ Below w.heap.size w W)
    (fun c W => c = .ret ∧ W.cell? ⟨w.heap.size + 1, 0, none⟩ = some (.bool false) ∧ (∃ j z, x.blocks[j]? = some z ∧ round7 x.blocks j z = false) ∧ Below w.heap.size w W)
    (fun i A B h hs => by
      obtain ⟨h1, ⟨s, h2⟩, h3, ⟨h4, h5, h6⟩, ⟨o1, o2, h7, h8, h9, h10⟩, h11⟩ := h
      exact ⟨h1, ⟨s, hs.cell h2 id⟩, (hs.frozen h2 id).trans h3, ⟨hs.cell h4 id, hs.cell h5 id, hs.cell h6 id⟩,
        ⟨o1, o2, (hs.low _ (Array.getElem?_eq_some_iff.1 h7).1 (by omega) id).trans h7, h8, (hs.low _ (Array.getElem?_eq_some_iff.1 h9).1 (by omega) id).trans h9, h10⟩, hs.below h11 (by omega) h11.size (fun _ h => h.elim)⟩)
    (fun c A B h hs => ⟨h.1, hs.cell h.2.1 id, h.2.2.1, hs.below h.2.2.2 (by omega) h.2.2.2.size (fun _ h => h.elim)⟩)
    ⟨fun j z h => absurd h (Nat.not_lt_zero _), ⟨_, j1⟩, j1f, ⟨j0, j4, j5⟩, ⟨_, _, j2, by rw [cntOf_zero]; exact Cnt.empty, j3, by rw [cntOf_zero]; exact Cnt.empty⟩, hBw⟩ ?round ?done ?stop
  case round =>
    intro l i y W hl hy hi hrec
    obtain ⟨z, hz, rfl⟩ := blkItems_at hy
    have hone := (HL.out.refs i z hz).oneCell
    have hst := fun (a : Addr) (w : World) => run_store Tryz.prog w a (rv i) .plain hone
    obtain ⟨hin, ⟨s, hcr⟩, hfr, ⟨e0, e1, e2⟩, ⟨o1, o2, ho1, hc1, ho2, hc2⟩, hBW⟩ := hi
    have hW : w_.heap.size < W.heap.size := by obtain ⟨r, hr⟩ := hrec; have := (Array.getElem?_eq_some_iff.1 hr).1; omega
    have hBn : ∀ o, Below W.heap.size W (W.alloc o) := fun o => (Below.refl _ W).alloc (Nat.le_refl _) o
    obtain ⟨q, hq⟩ : ∃ q, q = decide (i + 1 = x.blocks.length) := ⟨_, rfl⟩
    rw [← hq]
    have Hq := hide hq
    have Hz := hide hz
    have Hin := hide hin
    clear hq hz hy Hit hrec hin j0 j1 j1f j2 j3 j4 j5
    simp only [blkEnc]
    gi_wp2
    refine ⟨(KeepsOthers.alloc _ _).from _, Keep.of_below (hBn _) (fun k hk => by have := hlb k hk; omega), fun W₂ hs hk hkr hsz hc hf => ?_⟩
    have up : ∀ b o v, b < W.heap.size → W.cell? ⟨b, o, none⟩ = some v → W₂.cell? ⟨b, o, none⟩ = some v := fun b o v hb h => (hc _).trans (((hBn _).cell (p := ⟨b, o, none⟩) hb).trans h)
    have b0 : W₂.cell? ⟨W.heap.size, 0, none⟩ = some (.int .i64 z.type) := (hc _).trans (by simp)
    have b1 : W₂.cell? ⟨W.heap.size, 1, none⟩ = some (.int .i64 z.num) := (hc _).trans (by simp)
    have b2 : W₂.cell? ⟨W.heap.size, 2, none⟩ = some (.int .i64 z.flags) := (hc _).trans (by simp)
    have b3 : W₂.cell? ⟨W.heap.size, 3, none⟩ = some (.int .i64 z.sum) := (hc _).trans (by simp)
    have b4 : W₂.cell? ⟨W.heap.size, 4, none⟩ = some (rv i) := (hc _).trans (by simp)
    have b5 : W₂.cell? ⟨W.heap.size, 5, none⟩ = some (.string (bs z.data)) := (hc _).trans (by simp)
    replace hcr := up _ _ _ (by omega) hcr
    replace e0 := up _ _ _ (by omega) e0
    replace e1 := up _ _ _ (by omega) e1
    replace e2 := up _ _ _ (by omega) e2
    replace hfr : W₂.frozen? ⟨w.heap.size + 1, 0, none⟩ = false := (hf _).trans (((hBn _).frozen (p := ⟨w.heap.size + 1, 0, none⟩) (show w.heap.size + 1 < W.heap.size by omega)).trans hfr)
    replace ho1 := (hs.low _ (by simp; omega) (by omega) id).trans (((hBn (.cells #[.int .i64 z.type, .int .i64 z.num, .int .i64 z.flags, .int .i64 z.sum, rv i, .string (bs z.data)] 57)).block _ (by omega)).trans ho1)
    replace ho2 := (hs.low _ (by simp; omega) (by omega) id).trans (((hBn (.cells #[.int .i64 z.type, .int .i64 z.num, .int .i64 z.flags, .int .i64 z.sum, rv i, .string (bs z.data)] 57)).block _ (by omega)).trans ho2)
    have hBW2 : Below w.heap.size w W₂ := hs.below (hBW.alloc hBW.size _) (by omega) (Nat.le_trans hBW.size (hBn _).size) (fun _ h => h.elim)
    rw [World.size_alloc] at hsz
    clear hs hk hkr hc hf up hst
    have hn1 := hc1.notCells
    have hn2 := hc2.notCells
    have bd1 := cntOf_le (·.num) x.blocks i z.num
    have bd2 := cntOf_le (·.type) x.blocks i z.type
    rw [← Hn.out] at bd1 bd2
    obtain ⟨o1', hu1, hc1'⟩ := Cnt.update (P := Tryz.prog) Tryz.underlying189 Tryz.underlying3 ho1 hc1 z.num (cntOf (·.num) x.blocks i z.num + 1)
    have hl1 := Cnt.lookup (P := Tryz.prog) Tryz.underlying189 Tryz.underlying3 zero_int ho1 hc1 z.num
    rw [cntOf_succ (key := (·.num)) Hz.out] at hc1'
    have ho2' : (W₂.putObj (w.heap.size + 1 + 1) o1').heap[w.heap.size + 1 + 1 + 1]? = some o2 := (World.putObj_heap_other (by omega)).trans ho2
    obtain ⟨o2', hu2, hc2'⟩ := Cnt.update (P := Tryz.prog) Tryz.underlying189 Tryz.underlying3 ho2' hc2 z.type (cntOf (·.type) x.blocks i z.type + 1)
    have hl2 := Cnt.lookup (P := Tryz.prog) Tryz.underlying189 Tryz.underlying3 zero_int ho2' hc2 z.type
    rw [cntOf_succ (key := (·.type)) Hz.out] at hc2'
    have q1 : ∀ p, (W₂.putObj (w.heap.size + 1 + 1) o1').cell? p = W₂.cell? p := cell_putObj ho1 hn1 hc1'.notCells
    have q2 : ∀ p, ((W₂.putObj (w.heap.size + 1 + 1) o1').putObj (w.heap.size + 1 + 1 + 1) o2').cell? p = W₂.cell? p := fun p => (cell_putObj ho2' hn2 hc2'.notCells p).trans (q1 p)
    have r1 : ∀ p, ((W₂.putObj (w.heap.size + 1 + 1) o1').putObj (w.heap.size + 1 + 1 + 1) o2').frozen? p = W₂.frozen? p := fun p => (frozen_putObj ho2' hn2 hc2'.notCells p).trans (frozen_putObj ho1 hn1 hc1'.notCells p)
    obtain ⟨d1, hd1⟩ : ∃ d, d = cntOf (·.num) x.blocks i z.num := ⟨_, rfl⟩
    obtain ⟨d2, hd2⟩ : ∃ d, d = cntOf (·.type) x.blocks i z.type := ⟨_, rfl⟩
    rw [← hd1] at hu1 hl1 bd1
    rw [← hd2] at hu2 hl2 bd2
    have w1e : wrap64 (d1 + 1) = d1 + 1 := by unfold wrap64; omega
    have w2e : wrap64 (d2 + 1) = d2 + 1 := by unfold wrap64; omega
    have c19 : (W₂.putObj (w.heap.size + 1 + 1) o1').cell? ⟨w.heap.size + 1 + 1 + 1 + 1 + 1, 0, none⟩ = some (.map (some (w.heap.size + 1 + 1 + 1))) := (q1 _).trans e2
    have c20 : (W₂.putObj (w.heap.size + 1 + 1) o1').cell? ⟨W.heap.size, 0, none⟩ = some (.int .i64 z.type) := (q1 _).trans b0
    obtain ⟨W4, hW4⟩ : ∃ W4, (W₂.putObj (w.heap.size + 1 + 1) o1').putObj (w.heap.size + 1 + 1 + 1) o2' = W4 := ⟨_, rfl⟩
    have hz4 : W4.heap.size = W₂.heap.size := by rw [← hW4]; simp
    have hm1 : W4.heap[w.heap.size + 1 + 1]? = some o1' := by rw [← hW4]; exact (World.putObj_heap_other (by omega)).trans (World.putObj_heap_same (by omega))
    have hm2 : W4.heap[w.heap.size + 1 + 1 + 1]? = some o2' := by rw [← hW4]; exact World.putObj_heap_same (by simp; omega)
    have hBW4 : Below w.heap.size w W4 := by rw [← hW4]; exact below_putObj (below_putObj hBW2 (by omega) _) (by omega) _
    have hkf4 : KeepsFrom w_.heap.size W₂ W4 := by rw [← hW4]; exact (keepsFrom_putObj (by omega)).trans (keepsFrom_putObj (by omega))
    have hkp4 : Keep (fun k => k < w.heap.size ∨ k = w.heap.size + 6) W₂ W4 := by rw [← hW4]; exact (keep_putObj (by omega)).trans (keep_putObj (by omega))
    have up4 : ∀ p, W4.cell? p = W₂.cell? p := fun p => by rw [← hW4]; exact q2 p
    have uf4 : ∀ p, W4.frozen? p = W₂.frozen? p := fun p => by rw [← hW4]; exact r1 p
    have a0 := (up4 _).trans b0
    have a1 := (up4 _).trans b1
    have a2 := (up4 _).trans b2
    have a3 := (up4 _).trans b3
    have a4 := (up4 _).trans b4
    have a5 := (up4 _).trans b5
    have Hup := hide up4
    have Huf := hide uf4
    have Hc1 := hide hc1'
    have Hc2 := hide hc2'
    have Hcnt := hide (And.intro hd1 hd2)
    clear q1 q2 r1 hc1 hc2 hc1' hc2' up4 uf4 hd1 hd2 ho1 ho2 ho2' hn1 hn2
    gi_wp2_with fail
    refine ⟨trivial, rfl, (CallsIn.inRound l (callsIn_wide.2 (sevIsBlock_calls z q (rv i) W4 (Hl.out.mono hBW4) ((H.out.refs i z Hz.out).mono hBW4) (Hfit.out z (List.mem_of_getElem? Hz.out))))).mono ?_⟩
    rintro e_ w1 ⟨rfl, hb⟩
    have kup : ∀ b o v, W₂.cell? ⟨b, o, none⟩ = some v → w1.cell? ⟨b, o, none⟩ = some v := fun b o v h => by
      have h4 := (Hup.out ⟨b, o, none⟩).trans h
      exact (hb.cell (p := ⟨b, o, none⟩) (cell_lt h4)).trans h4
    have fr1 : w1.frozen? ⟨w.heap.size + 1, 0, none⟩ = false := (hb.frozen (p := ⟨w.heap.size + 1, 0, none⟩) (show w.heap.size + 1 < W4.heap.size by omega)).trans ((Huf.out _).trans hfr)
    have t0 := kup _ _ _ hcr
    have t1 := kup _ _ _ e0
    have t2 := kup _ _ _ e1
    have t3 := kup _ _ _ e2
    have t4 := kup _ _ _ b1
    have om1 : w1.heap[w.heap.size + 1 + 1]? = some o1' := heapKept hm1 hb
    have om2 : w1.heap[w.heap.size + 1 + 1 + 1]? = some o2' := heapKept hm2 hb
    have lk := Cnt.lookup (P := Tryz.prog) Tryz.underlying189 Tryz.underlying3 zero_int om1 Hc1.out z.num
    have hBW5 : Below w.heap.size w w1 := hBW4.trans (hb.mono hBW4.size)
    have hkf5 : KeepsFrom w_.heap.size W₂ w1 := hkf4.trans (keepsFrom_of_below hb)
    have hkp5 : Keep (fun k => k < w.heap.size ∨ k = w.heap.size + 6) W₂ w1 := hkp4.trans (keep_of_below hb (fun k hk => by have := hlb k hk; omega))
    clear kup hb hm1 hm2 hBW4 hkf4 hkp4 a0 a1 a2 a3 a4 a5 b0 b1 b2 b3 b4 b5 hcr hfr e0 e1 e2 hu1 hu2 hl1 hl2 c19 c20 Hup Huf w1e w2e hW4
    obtain ⟨d, hd⟩ : ∃ d, d = cntOf (·.num) x.blocks (i + 1) z.num := ⟨_, rfl⟩
    rw [← hd] at lk
    have Hd := hide hd
    obtain ⟨u, hu⟩ : ∃ u, u = block7 z q := ⟨_, rfl⟩
    rw [← hu]
    have Hu := hide hu
    clear hd hu
    cases u
    · gi_wp2
      refine ⟨hkf5.trans ((KeepsOthers.setCell _ _ _).from _), rfl, World.cell?_setCell_same' _ _ _ (by rw [t0]; rfl), ⟨i, z, Hz.out, ?_⟩, hBW5.setCell (p := ⟨w.heap.size + 1, 0, none⟩) (Nat.le_succ _) _⟩
      rw [round7, ← Hq.out, ← Hu.out]; rfl
    · by_cases h1 : 1 < d
      · gi_wp2
        refine ⟨hkf5.trans ((KeepsOthers.setCell _ _ _).from _), rfl, World.cell?_setCell_same' _ _ _ (by rw [t0]; rfl), ⟨i, z, Hz.out, ?_⟩, hBW5.setCell (p := ⟨w.heap.size + 1, 0, none⟩) (Nat.le_succ _) _⟩
        rw [round7, ← Hq.out, ← Hu.out, ← Hd.out]
        simpa using h1
      · gi_wp2
        refine ⟨hkf5, hkp5, fun j y hj hy => ?_, ⟨s, t0⟩, fr1, ⟨t1, t2, t3⟩, ⟨o1', o2', om1, Hc1.out, om2, Hc2.out⟩, hBW5⟩
        rcases Nat.lt_succ_iff_lt_or_eq.1 hj with hj | rfl
        · exact Hin.out j y hj hy
        · rw [Hz.out] at hy; cases hy
          rw [round7, ← Hq.out, ← Hu.out, ← Hd.out]
          simpa using h1
  case done =>
    rintro D W hD ⟨hin, ⟨s, hcr⟩, hfr, ⟨e0, e1, e2⟩, ⟨o1, o2, ho1, hc1, ho2, hc2⟩, hBW⟩ hK
    rw [blkItems_length] at hin hc1 hc2
    have hrr := rounds7_true fun i z hz => hin i z (List.getElem?_eq_some_iff.1 hz).1 hz
    have hnc2 := hc2.notCells
    have Ho := hide (And.intro ho2 hc2)
    clear Hit hin hc1 hc2 ho1 ho2
    by_cases hsz : 1 ≤ n ∧ n ≤ 8
    · obtain ⟨h1, h8⟩ := hsz
      gi_wp2_with fail
      have hBA : Below W.heap.size W (W.alloc (.cells #[.int .i64 6, .int .i64 7, .int .i64 10, .int .i64 192] 3)) := (Below.refl _ W).alloc (Nat.le_refl _) _
      obtain ⟨WA, hWA⟩ : ∃ WA, W.alloc (.cells #[.int .i64 6, .int .i64 7, .int .i64 10, .int .i64 192] 3) = WA := ⟨_, rfl⟩
      have hcl : ∀ i, WA.cell? ⟨W.heap.size, i, none⟩ = (#[.int .i64 6, .int .i64 7, .int .i64 10, .int .i64 192] : Array Value)[i]? := fun i => by rw [← hWA]; simp
      have hzA : WA.heap.size = W.heap.size + 1 := by rw [← hWA]; simp
      rw [hWA] at hBA ⊢
      clear hWA
      have hv : IntsV WA [6, 7, 10, 192] (.slice (some ⟨W.heap.size, 0, none⟩) 4 4) := Sl.mk (n := 4) ⟨by omega, fun i e he => by
        match i, he with
        | 0, he => cases he; exact hcl 0
        | 1, he => cases he; exact hcl 1
        | 2, he => cases he; exact hcl 2
        | 3, he => cases he; exact hcl 3
        | _ + 4, he => simp at he⟩
      have hk2 : WA.cell? ⟨w.heap.size + 1 + 1 + 1 + 1 + 1, 0, none⟩ = some (.map (some (w.heap.size + 1 + 1 + 1))) := (hBA.cell (p := ⟨w.heap.size + 1 + 1 + 1 + 1 + 1, 0, none⟩) (cell_lt e2)).trans e2
      have hm2 : WA.heap[w.heap.size + 1 + 1 + 1]? = some o2 := heapKept Ho.out.1 hBA
      refine ⟨trivial, rfl, (callsIn_wide.2 (containsInt_calls [6, 7, 10, 192] 147 #[.pointer (some ⟨w.heap.size + 1 + 1 + 1 + 1 + 1, 0, none⟩)] (fun k => decide (1 < cntOf (·.type) x.blocks x.blocks.length k)) _ WA (by simp) hv
        (enters_of Tryz.func147 (by kernel_rfl) rfl) (fun k hk WB hWB => Pu.rt (isTwice_calls k _ _ o2 _ WB ((hWB.cell (p := ⟨w.heap.size + 1 + 1 + 1 + 1 + 1, 0, none⟩) (cell_lt hk2)).trans hk2) (heapKept hm2 hWB) Ho.out.2)))).mono ?_⟩
      rintro e_ w1 ⟨rfl, hb⟩
      have hB9 : Below W.heap.size W w1 := hBA.trans (hb.mono hBA.size)
      have t0 := (hB9.cell (p := ⟨w.heap.size + 1, 0, none⟩) (cell_lt hcr)).trans hcr
      have f0 := (hB9.frozen (p := ⟨w.heap.size + 1, 0, none⟩) (cell_lt hcr)).trans hfr
      have hK1 := heapKept hK hB9
      obtain ⟨u, hu⟩ : ∃ u, u = [6, 7, 10, 192].any (fun k => decide (1 < cntOf (·.type) x.blocks x.blocks.length k)) := ⟨_, rfl⟩
      rw [← hu]
      have Hu := hide hu
      clear hu hb hcl hv hk2 hm2 hzA hBA hcr hfr e0 e1 e2
      gi_wp2_with fail
      refine ⟨by simp, .inl ⟨_, _, rfl, run_takeDeferred ((KeepsOthers.setCell _ _ _).same D _ hK1 rfl), ?_⟩⟩
      have hK' := (KeepsOthers.setCell w1 ⟨w.heap.size + 1, 0, none⟩ (.bool (!u))).same D _ hK1 rfl
      refine ⟨_, results_cell1 rfl rfl (load_plain Tryz.underlying4 rfl (v := .bool (!u)) ?_), ?_, ?_⟩
      · rw [cell_putObj hK' rfl rfl]
        exact World.cell?_setCell_same' _ _ _ (by rw [t0]; rfl)
      · rw [blocks7, hrr, ← Hu.out, ← Hn.out]
        simp [h1, h8]
      · exact below_putObj ((hBW.trans (hB9.mono hBW.size)).setCell (p := ⟨w.heap.size + 1, 0, none⟩) (Nat.le_succ _) _) (by omega) _
    · have hbad : (decide (1 ≤ n) && decide (n ≤ 8)) = false := by simpa using fun h => by omega
      have hfin : blocks7 x.blocks = false := by
        rw [blocks7, ← Hn.out, Bool.and_assoc (rounds7 x.blocks), hbad]
        simp
      rw [hfin]
      gi_wp2_with (refine ⟨trivial, ?_⟩)
      all_goals refine ⟨by simp, .inl ⟨_, _, rfl, run_takeDeferred ((KeepsOthers.setCell _ _ _).same D _ hK rfl), ?_⟩⟩
      all_goals have hK' := (KeepsOthers.setCell W ⟨w.heap.size + 1, 0, none⟩ (.bool false)).same D _ hK rfl
      all_goals refine ⟨_, results_cell1 rfl rfl (load_plain Tryz.underlying4 rfl (v := .bool false) ?_), rfl, below_putObj (hBW.setCell (p := ⟨w.heap.size + 1, 0, none⟩) (Nat.le_succ _) _) (by omega) _⟩
      all_goals rw [cell_putObj hK' rfl rfl]
      all_goals exact World.cell?_setCell_same' _ _ _ (by rw [hcr]; rfl)
  case stop =>
    rintro D c W hD ⟨rfl, hcr, ⟨j, z, hz, hb⟩, hBW⟩ hK
    clear Hit
    gi_wp2
    refine ⟨by simp, .inl ⟨_, _, rfl, run_takeDeferred hK, ?_⟩⟩
    refine ⟨_, results_cell1 rfl rfl (load_plain Tryz.underlying4 rfl (v := .bool false) ?_), ?_, ?_⟩
    · rw [cell_putObj hK rfl rfl]
      exact hcr
    · rw [blocks7, rounds7_false hz hb]; rfl
    · exact below_putObj hBW (by omega) _
end Go.Proofs.YtllfaffbaijgfaaGreatDoor
