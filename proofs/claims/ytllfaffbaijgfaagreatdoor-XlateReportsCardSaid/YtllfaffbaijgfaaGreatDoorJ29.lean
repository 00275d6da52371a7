/- ext.Down of blocks that hold no class: all of them. xlate's either, where there is an error. A part of a struct, read out of the block that holds it, or stored there. No program text. -/
import Derived.Test.YtllfaffbaijgfaaGreatDoorJ28
import Derived.Test.YtllfaffbaijgfaaGreatDoorJ19
import Derived.Laws.CopyRow
set_option linter.unusedVariables false
set_option linter.unusedSimpArgs false
namespace Go.Proofs.YtllfaffbaijgfaaGreatDoor
open Go Go.RowKit Go.Shelf

theorem dStep_grows (s : WS) (last : Bool) (b : Block) : (dStep s last b).2.num ≤ s.num + 1 ∧ (dStep s last b).2.out.length ≤ s.out.length + 1 := by
  unfold dStep downStep nextWS
  split
  · split
    · split
      · constructor <;> simp <;> omega
      · constructor <;> simp <;> omega
    · constructor <;> simp <;> omega
  · constructor <;> simp <;> omega

theorem WalkSn.kept {base P : Nat} {c : Class} {s : WS} {N : Nat} {A B : World} (h : WalkSn base P c s A) (hP : P < N) (hlow : ∀ k : Nat, k < N → B.heap[k]? = A.heap[k]?)
    (hc : ∀ (k : Nat) (c : Array Value) (m : Nat × Nat), A.heap[k]? = some (.cells c 57 m) → B.heap[k]? = some (.cells c 57 m)) (hs : A.heap.size ≤ B.heap.size) : WalkSn base P c s B := by
  obtain ⟨⟨v, h1, h2⟩, h5, h6, h8⟩ := h
  exact ⟨⟨v, (hlow P hP).trans h1, row_kept hc h2⟩, Nat.le_trans h5 hs, h6, h8⟩

theorem allDown_calls (S : Nat → Addr) (base P : Nat) (c : Class) (s0 : WS) (l : List Block) (rv : Nat → Value) (a : Option Addr) (cap K : Nat) (w0 w : World) (hS : Sents S w0) (hp : PairsAt w0) (hbase : w0.heap.size = base) (hB : Keep (fun k => k < base) w0 w)
    (h : WalkSn base P c s0 w) (hK : s0.num ≤ K ∧ s0.out.length ≤ K) (hKl : K + l.length ≤ 1000000)
    (hat : 0 < l.length → ∃ b o, a = some ⟨b, o, none⟩ ∧ b < base ∧ BlocksAt w l rv b o) (hrv : ∀ i x, l[i]? = some x → ∃ a' cap', rv i = .slice a' x.refs.length cap') (hrl : ∀ x ∈ l, x.refs.length ≤ 1000000) (hx : ∀ i x, l[i]? = some x → i + 1 ≠ l.length → x.type ≠ 192) (hP : P < w.heap.size) :
    Calls Tryz.prog 170 #[.slice a l.length cap, .func (.func 181) #[] #[.pointer (some ⟨P, 0, none⟩)]] w
      (fun e w' => e = .returned (.int .i64 (walkF dStep s0 (blkItems l rv)).1) ∧ WalkSn base P c (walkF dStep s0 (blkItems l rv)).2 w' ∧ WStep base P P w w') := by
  refine (walk_calls dStep (fun i s W => WalkSn base P c s W ∧ s.num ≤ K + i ∧ s.out.length ≤ K + i ∧ Keep (fun k => k < base) w0 W) base P P l rv a cap 181 #[] #[.pointer (some ⟨P, 0, none⟩)] s0 w (by omega) hat
    (fun i x hx => by obtain ⟨a', cap', e⟩ := hrv i x hx; rw [e]; rfl) h.low hP hP (enters_of Tryz.func181 (by kernel_rfl) rfl) ⟨h, by have := hK.1; omega, hK.2, hB⟩ ?h1 ?h2).mono ?h3
  case h1 =>
    rintro i s A B hA ⟨k1, k2, k3, k4⟩ hlow hc hs
    exact ⟨k1.kept hP hlow hc hs, k2, k3, k4.trans ⟨hs, fun k hk => hlow k (by have := h.low; omega)⟩⟩
  case h2 =>
    rintro i x s W hxi ⟨k1, k2, k3, k4⟩ hW
    have hi := (List.getElem?_eq_some_iff.1 hxi).1
    obtain ⟨a', cap', e⟩ := hrv i x hxi
    rw [e]
    subst hbase
    refine (down1_calls S w0.heap.size P c s (decide (i + 1 = l.length)) x a' cap' w0 W hS hp rfl k4 k1 (by omega) (by omega) (hrl x (List.mem_of_getElem? hxi)) (fun hd => hx i x hxi (by simpa using hd))).mono ?_
    rintro e' w' ⟨h1, h2, h3⟩
    have := dStep_grows s (decide (i + 1 = l.length)) x
    exact ⟨h1, ⟨h2, by have := this.1; omega, by have := this.2; omega, k4.trans ⟨h3.size, fun k hk => h3.low k hk⟩⟩, h3⟩
  case h3 =>
    rintro e w' ⟨h1, ⟨i, h2⟩, h3⟩
    exact ⟨h1, h2.1, h3⟩

theorem results_tct {P : Program} {w : World} {fn : Func} {o p q : Tmp} {ty : TypeId} {tmps : Array Value} {a : Addr} {t u v : Value} (h : fn.results = #[.tmp o, .cell p ty, .tmp q]) (ho : tmps.getD o undef = t) (hp : tmps.getD p undef = .pointer (some a)) (hq : tmps.getD q undef = v)
    (hl : (loadVar ty a).run P w = .ok u w) : (results fn tmps).run P w = .ok (.tuple #[t, u, v]) w := by
  simp only [results, h]
  have ha : (asAddr (tmps.getD p undef)).run P w = .ok a w := by rw [hp]; rfl
  rw [Array.getD_eq_getD_getElem?] at ha hq ho
  simp [Sem.run_bind, Result.andThen, hl, ha, hq, ho]

def VDownE (P : Nat) (u : Value) (e : Eid) : Nat → Value → (Nat → Value) → World → Prop
  | 0, v, _, W => v = .pointer (some ⟨P, 1, none⟩)
  | 1, v, _, W => v = u
  | 2, v, _, W => v = .pointer (some ⟨P, 2, none⟩)
  | 3, v, _, W => v = .agg #[.int .i64 0, .bool false, .int .i64 e.scheme, .string (bs e.node), .string (bs e.service), .int .i64 e.a, .int .i64 e.b]
  | 4, v, _, W => v = u
  | _, _, _, _ => True


set_option maxRecDepth 100000 in
set_option maxHeartbeats 40000000 in
theorem extDown0_calls (S : Nat → Addr) (l : List Block) (rv : Nat → Value) (a : Option Addr) (cap : Nat) (w : World) (hS : Sents S w) (hp : PairsAt w) (hl1 : 1 ≤ l.length) (hl2 : l.length ≤ 8)
    (hat : ∃ b o, a = some ⟨b, o, none⟩ ∧ BlocksAt w l rv b o ∧ b < w.heap.size) (hrv : ∀ i x, l[i]? = some x → ∃ a' cap', rv i = .slice a' x.refs.length cap') (hrl : ∀ x ∈ l, x.refs.length ≤ 1000000) (hx : ∀ i x, l[i]? = some x → i + 1 ≠ l.length → x.type ≠ 192)
    (hok : (walkF dStep noWS (blkItems l rv)).1 = 0) :
    Calls Tryz.prog 114 #[.slice a l.length cap] w (fun e w' => ∃ v, e = .returned (.tuple #[v, .agg #[.int .i64 noClass.priority, .bool noClass.custody, .int .i64 noClass.custodian.scheme, .string (bs noClass.custodian.node), .string (bs noClass.custodian.service), .int .i64 noClass.custodian.a, .int .i64 noClass.custodian.b], .int .i64 0]) ∧ Below w.heap.size w w' ∧
      w'.ownsRow w.heap.size 57 6 v (walkF dStep noWS (blkItems l rv)).2.out.length (blocksFlat (walkF dStep noWS (blkItems l rv)).2.out)) := by
  have HU := hide (fun P w' => allDown_calls S w.heap.size P noClass noWS l rv a cap 0 w w' hS hp rfl)
  have Hat := hide hat
  have Hrv := hide hrv
  have Hrl := hide hrl
  have Hx := hide hx
  obtain ⟨n, hn⟩ : ∃ n, n = l.length := ⟨_, rfl⟩
  obtain ⟨z, hz⟩ : ∃ z, z = walkF dStep noWS (blkItems l rv) := ⟨_, rfl⟩
  rw [← hn] at hl1 hl2 ⊢
  simp only [← hz] at hok ⊢
  simp only [← hn, ← hz, hok] at HU
  have Hn := hide hn
  have Hz := hide hz
  clear hS hp hat hrv hrl hn hz hok hx
  go_enter Tryz.func114, Tryz.ntmps114
  go_upto_region 4 with fail
  refine wp_named fun w1 hw1 => ?_
  have hB1 : Below w.heap.size w w1 := by rw [hw1]; ((repeat' (first | exact Below.refl _ _ | assumption | (refine Below.drew ?_) | (refine Below.alloc ?_ ?_ _) | (refine Below.setCell ?_ ?_ _) | (refine Below.step (W := ?hW) ?hq ?_ ?_; case hq => assumption))) <;> (first | (simp; done) | (simp; omega) | (simp at *; omega)))
  have hr : w1.heap[w.heap.size]? = some (.cells zeroClass 70 (0, 0)) := by rw [hw1]; exact heapNew (u := w) (by ((repeat' (first | exact Below.refl _ _ | assumption | (refine Below.drew ?_) | (refine Below.alloc ?_ ?_ _) | (refine Below.setCell ?_ ?_ _) | (refine Below.step (W := ?hW) ?hq ?_ ?_; case hq => assumption))) <;> (first | (simp; done) | (simp; omega) | (simp at *; omega)))) rfl
  have hP : WalkAt w1 (w.heap.size + 1) (.map none) (.slice none 0 0) noClass 0 := by rw [hw1]; exact heapNew (u := w.alloc _) (by ((repeat' (first | exact Below.refl _ _ | assumption | (refine Below.drew ?_) | (refine Below.alloc ?_ ?_ _) | (refine Below.setCell ?_ ?_ _) | (refine Below.step (W := ?hW) ?hq ?_ ?_; case hq => assumption))) <;> (first | (simp; done) | (simp; omega) | (simp at *; omega)))) (by simp)
  have hlt : w.heap.size + 1 < w1.heap.size := (Array.getElem?_eq_some_iff.1 hP).1
  clear hw1
  obtain ⟨P, hPe⟩ : ∃ P, P = w.heap.size + 1 := ⟨_, rfl⟩
  obtain ⟨A, hA⟩ : ∃ A, A = w.heap.size := ⟨_, rfl⟩
  rw [← hPe] at hP ⊢
  rw [← hA] at hr ⊢
  obtain ⟨q1, q2, q3, q4⟩ : w.heap.size ≤ P ∧ P < w1.heap.size ∧ w.heap.size ≤ A ∧ ¬ A = P := by omega
  clear hPe hA hlt
  have hst : WalkSn w.heap.size P noClass noWS w1 := ⟨⟨_, hP, World.ownsRow_nil _ _ _ _⟩, hB1.size, q1, Int.le_refl _⟩
  obtain ⟨b, o, ha, hbt, hbl⟩ := Hat.out
  have hcall := hide (HU.out P w1 (Keep.of_below hB1 (fun k hk => hk)) hst ⟨Int.le_refl _, Nat.le_refl _⟩ (by omega) (fun _ => ⟨b, o, ha, hbl, hbt.mono hB1 hbl⟩) Hrv.out Hrl.out (by rw [Hn.out]; exact Hx.out) q2)
  clear hst hbt ha hP HU
  go_wp2_with fail
  refine (show Calls _ _ _ _ _ from hcall.out).mono ?_
  rintro _ w2 ⟨rfl, ⟨⟨v, hP2, hrow2⟩, _, _, _⟩, hs2⟩
  have hr2 : w2.heap[A]? = some (.cells zeroClass 70 (0, 0)) := hs2.far A _ hr q4 q4 (by intro _ _ e; cases e)
  have hB2 := hs2.below hB1
  clear hcall hs2 hr
  go_upto_region 6 with (apply wpList_store_new (ty := 70) (n := 7); (case hgd => exact rfl); (case ho => exact rfl); (case hd => exact rfl); (case hx => exact rfl); (case hw => exact rfl); (case hg => first | exact rfl | (simp; done)); (case hy => exact rfl); (case hi => kernel_rfl); (case hn0 => exact rfl); (case hn => exact rfl); (case h1 => first | exact rfl | assumption | (simp [Value.oneCell', *]; done) | (simp [*]; done)))
  refine wp_named fun w5 hw5 => ?_
  have hb5 : Below w2.heap.size w2 w5 := by rw [hw5]; ((repeat' (first | exact Below.refl _ _ | assumption | (refine Below.drew ?_) | (refine Below.alloc ?_ ?_ _) | (refine Below.setCell ?_ ?_ _) | (refine Below.step (W := ?hW) ?hq ?_ ?_; case hq => assumption))) <;> (first | (simp; done) | (simp; omega) | (simp at *; omega)))
  have hP5 := heapKept hP2 hb5
  have hr5 := heapKept hr2 hb5
  have hrow5 := row_kept (fun g c m hg => heapKept hg hb5) hrow2
  have hB5 := hB2.trans (hb5.mono hB2.size)
  clear hw5 hP2 hr2 hrow2
  have HB5 := hide (And.intro hrow5 hB5)
  obtain ⟨e, he⟩ : ∃ e, e = noClass.custodian := ⟨_, rfl⟩
  have He := hide he
  rw [← he] at hP5
  clear hrow5 hB5 hb5 he
  have p1 := cellsOf hP5 1
  simp only [List.getElem?_toArray, List.getElem?_cons_succ, List.getElem?_cons_zero] at p1
  have p2 := cellsOf hP5 2
  simp only [List.getElem?_toArray, List.getElem?_cons_succ, List.getElem?_cons_zero] at p2
  have p3 := cellsOf hP5 3
  simp only [List.getElem?_toArray, List.getElem?_cons_succ, List.getElem?_cons_zero] at p3
  have p4 := cellsOf hP5 4
  simp only [List.getElem?_toArray, List.getElem?_cons_succ, List.getElem?_cons_zero] at p4
  have p5 := cellsOf hP5 5
  simp only [List.getElem?_toArray, List.getElem?_cons_succ, List.getElem?_cons_zero] at p5
  have p6 := cellsOf hP5 6
  simp only [List.getElem?_toArray, List.getElem?_cons_succ, List.getElem?_cons_zero] at p6
  have p7 := cellsOf hP5 7
  simp only [List.getElem?_toArray, List.getElem?_cons_succ, List.getElem?_cons_zero] at p7
  have p8 := cellsOf hP5 8
  simp only [List.getElem?_toArray, List.getElem?_cons_succ, List.getElem?_cons_zero] at p8
  replace p2 : w5.cell? ⟨P, 2, none⟩ = some (.int .i64 0) := p2
  replace p3 : w5.cell? ⟨P, 3, none⟩ = some (.bool false) := p3
  obtain ⟨u, hu⟩ : ∃ u, u = v := ⟨_, rfl⟩
  rw [← hu] at p1 HB5
  clear hu hP5
  go_wp2_with fail
  refine wp_region_pred 5 (fun W => Below w5.heap.size w5 W) (fun W W' => Below W.heap.size W W') (VDownE P u e) (by kernel_rfl) (by kernel_rfl) (Below.refl _ _).drew
    (fun W W' h hg => h.trans (hg.mono h.size)) ?hV_11 (fun W => Below.refl _ _) ?how_11 ?hfin_11
  case hV_11 =>
    intro i_ v_ g_ W W' hg h
    match i_, h with
    | 0, h => exact h
    | 1, h => exact h
    | 2, h => exact h
    | 3, h => exact h
    | 4, h => exact h
    | _ + 5, _ => trivial
  case how_11 =>
    intro i_ hi_
    match i_, hi_ with
    | 0, _ =>
      refine owes_plain rfl rfl fun ac_ W hC hold hdep => ?_
      have hs5 := hold 5 (by kernel_rfl)
      clear hdep hold
      go_simp
      exact ⟨_, rfl, Below.refl _ _, rfl⟩
    | 1, _ =>
      refine owes_plain rfl rfl fun ac_ W hC hold hdep => ?_
      obtain ⟨_, (hd0 : _ = (.pointer (some ⟨P, 1, none⟩) : Value))⟩ := hdep 0 25 (by kernel_rfl)
      have p1 := (hC.cell (cellLt p1)).trans p1
      clear hdep hold
      go_simp
      exact ⟨_, rfl, Below.refl _ _, rfl⟩
    | 2, _ =>
      refine owes_plain rfl rfl fun ac_ W hC hold hdep => ?_
      have hs5 := hold 5 (by kernel_rfl)
      clear hdep hold
      go_simp
      exact ⟨_, rfl, Below.refl _ _, rfl⟩
    | 3, _ =>
      refine owes_plain rfl rfl fun ac_ W hC hold hdep => ?_
      obtain ⟨_, (hd2 : _ = (.pointer (some ⟨P, 2, none⟩) : Value))⟩ := hdep 2 27 (by kernel_rfl)
      have p2 := (hC.cell (cellLt p2)).trans p2
      have p3 := (hC.cell (cellLt p3)).trans p3
      have p4 := (hC.cell (cellLt p4)).trans p4
      have p5 := (hC.cell (cellLt p5)).trans p5
      have p6 := (hC.cell (cellLt p6)).trans p6
      have p7 := (hC.cell (cellLt p7)).trans p7
      have p8 := (hC.cell (cellLt p8)).trans p8
      clear hdep hold
      go_simp
      exact ⟨_, rfl, Below.refl _ _, rfl⟩
    | 4, _ =>
      refine owes_plain rfl rfl fun ac_ W hC hold hdep => ?_
      obtain ⟨_, (hd1 : _ = (u : Value))⟩ := hdep 1 26 (by kernel_rfl)
      clear hdep hold
      go_simp
      exact ⟨_, rfl, Below.refl _ _, rfl⟩
    | k + 5, hk => exact absurd hk (by omega)
  case' hfin_11 =>
    intro fv W hC hold hval
    have v3 : (fv 28) = (.agg #[.int .i64 0, .bool false, .int .i64 e.scheme, .string (bs e.node), .string (bs e.service), .int .i64 e.a, .int .i64 e.b] : Value) := hval 3 _ (by omega) rfl
    have v4 : (fv 2) = (u : Value) := hval 4 _ (by omega) rfl
    have s0 := hold 0 (by kernel_rfl)
    simp only [Array.getD_eq_getD_getElem?, List.getElem?_toArray, List.getElem?_cons_succ, List.getElem?_cons_zero, Option.getD_some] at s0
    have s1 := hold 1 (by kernel_rfl)
    simp only [Array.getD_eq_getD_getElem?, List.getElem?_toArray, List.getElem?_cons_succ, List.getElem?_cons_zero, Option.getD_some] at s1
    have s3 := hold 3 (by kernel_rfl)
    simp only [Array.getD_eq_getD_getElem?, List.getElem?_toArray, List.getElem?_cons_succ, List.getElem?_cons_zero, Option.getD_some] at s3
    have s4 := hold 4 (by kernel_rfl)
    simp only [Array.getD_eq_getD_getElem?, List.getElem?_toArray, List.getElem?_cons_succ, List.getElem?_cons_zero, Option.getD_some] at s4
    have s5 := hold 5 (by kernel_rfl)
    simp only [Array.getD_eq_getD_getElem?, List.getElem?_toArray, List.getElem?_cons_succ, List.getElem?_cons_zero, Option.getD_some] at s5
    clear hval hold
    simp only [List.drop_succ_cons, List.drop_zero, List.size_toArray, List.length_cons, List.length_nil, Nat.reduceAdd]
    simp only [List.range, List.range.loop]
    simp only [List.map_cons, List.map_nil]
    simp only [s0, s1, s3, s4, s5]
  simp only [v3, v4]
  have hrW := heapKept hr5 hC
  rw [He.out] at *
  go_wp2_with (apply wpList_store_at (ty := 70) (n := 7); (case hgd => exact rfl); (case ho => exact rfl); (case hd => exact rfl); (case hx => exact rfl); (case hheap => exact hrW); (case hy => exact rfl); (case hi => kernel_rfl); (case hn0 => exact rfl); (case hn => exact rfl); (case h1 => first | exact rfl | assumption | (simp [Value.oneCell', *]; done) | (simp [*]; done)))
  refine bodyPost_ret (results_tct rfl rfl rfl rfl (load_row (n := 7) (hheap := setRow_heap _ _ _ _ _ _ hrW) (hu := Tryz.underlying70) (hd := rfl) (hi := by kernel_rfl) (hc := rfl))) rfl ?_
  refine ⟨u, rfl, below_setRow (HB5.out.2.trans (hC.mono HB5.out.2.size)) q3 _, row_kept (fun g c m hg => ?_) HB5.out.1⟩
  refine (setRow_other W A g _ ?_).trans (heapKept hg hC)
  rintro rfl
  rw [hr5] at hg; cases hg
end Go.Proofs.YtllfaffbaijgfaaGreatDoor

namespace Go.Proofs.YtllfaffbaijgfaaGreatDoor
open Go Go.RowKit Go.Shelf

theorem evalT {a : Act} {t : Tmp} {v : Value} (h : (a.tmps[t]?).getD undef = v) : a.eval (.tmp t) = v := by
  show a.tmps.getD t undef = v
  rw [Array.getD_eq_getD_getElem?]; exact h
theorem below_setRow_self {w : World} {g : Nat} {c : Array Value} {t : TypeId} (h : w.heap[g]? = some (.cells c t (0, 0))) : Below w.heap.size w (w.setRow g c) :=
  ⟨rfl, rfl, rfl, by simp, fun k hk => by
    by_cases e : k = g
    · subst e; exact (setRow_heap _ _ _ _ _ _ h).trans h.symm
    · exact setRow_other _ _ _ _ e⟩

abbrev zeroEid : Array Value := #[.int .i64 0, .string { data := #[] }, .string { data := #[] }, .int .i64 0, .int .i64 0]
abbrev zeroSeven : Array Value := #[.int .i64 0, .int .i64 0, .int .i64 0, .string { data := #[] }, .string { data := #[] }, .int .i64 0, .int .i64 0, .int .i64 0, .string { data := #[] }, .string { data := #[] }, .int .i64 0, .int .i64 0, .int .i64 0, .string { data := #[] }, .string { data := #[] }, .int .i64 0, .int .i64 0, .int .i64 0, .int .i64 0, .int .i64 0, .int .i64 0, .int .i64 0, .slice none 0 0]
abbrev zeroSix : Array Value := #[.int .i64 0, .int .i64 0, .string { data := #[] }, .string { data := #[] }, .int .i64 0, .int .i64 0, .int .i64 0, .string { data := #[] }, .string { data := #[] }, .int .i64 0, .int .i64 0, .int .i64 0, .string { data := #[] }, .string { data := #[] }, .int .i64 0, .int .i64 0, .int .i64 0, .string { data := #[] }, .string { data := #[] }, .int .i64 0, .int .i64 0, .int .i64 0, .int .i64 0, .int .i64 0, .int .i64 0, .int .i64 0, .slice none 0 0]

def VEitSix (A N X : Nat) (e : Int) : Nat → Value → (Nat → Value) → World → Prop
  | 0, v, _, W => v = .agg zeroSix
  | 1, v, _, W => v = .pointer (some ⟨X, 0, none⟩)
  | 2, v, _, W => v = .int .i64 e
  | 3, v, _, W => True
  | _, _, _, _ => True


set_option maxRecDepth 100000 in
set_option maxHeartbeats 40000000 in
theorem eitherSix_err (x : Array Value) (e : Int) (w : World) (hE : ErrAt w) :
    Calls Tryz.prog 52 #[.agg x, .iface 139 (.agg #[.int .i64 e])] w (Rt w (.tuple #[.agg zeroSix, .int .i64 e])) := by
  have HE := hide (fun W (hb : Below w.heap.size w W) => (hb.cell (p := ⟨7, 0, none⟩) (cellLt hE)).trans hE)
  clear hE
  go_enter Tryz.func52, Tryz.ntmps52
  go_upto_region 3 with fail
  refine wp_named fun w1 hw1 => ?_
  have hB1 : Below w.heap.size w w1 := by rw [hw1]; ((repeat' (first | exact Below.refl _ _ | assumption | (refine Below.drew ?_) | (refine Below.alloc ?_ ?_ _) | (refine Below.setCell ?_ ?_ _) | (refine Below.step (W := ?hW) ?hq ?_ ?_; case hq => assumption))) <;> (first | (simp; done) | (simp; omega) | (simp at *; omega)))
  have ha : w1.heap[w.heap.size + 1]? = some (.cells zeroSix 32 (0, 0)) := by rw [hw1]; exact heapNew (u := w.alloc _) (by ((repeat' (first | exact Below.refl _ _ | assumption | (refine Below.drew ?_) | (refine Below.alloc ?_ ?_ _) | (refine Below.setCell ?_ ?_ _) | (refine Below.step (W := ?hW) ?hq ?_ ?_; case hq => assumption))) <;> (first | (simp; done) | (simp; omega) | (simp at *; omega)))) (by simp)
  have hn : w1.heap[w.heap.size + 1 + 1]? = some (.cells zeroSix 32 (0, 0)) := by rw [hw1]; exact heapNew (u := (w.alloc _).alloc _) (by ((repeat' (first | exact Below.refl _ _ | assumption | (refine Below.drew ?_) | (refine Below.alloc ?_ ?_ _) | (refine Below.setCell ?_ ?_ _) | (refine Below.step (W := ?hW) ?hq ?_ ?_; case hq => assumption))) <;> (first | (simp; done) | (simp; omega) | (simp at *; omega)))) (by simp)
  have hX : w1.heap[w.heap.size + 1 + 1 + 1]? = some (.cells #[.int .i64 0] 139 (0, 0)) := by rw [hw1]; exact heapNew (u := ((w.alloc _).alloc _).alloc _) (by ((repeat' (first | exact Below.refl _ _ | assumption | (refine Below.drew ?_) | (refine Below.alloc ?_ ?_ _) | (refine Below.setCell ?_ ?_ _) | (refine Below.step (W := ?hW) ?hq ?_ ?_; case hq => assumption))) <;> (first | (simp; done) | (simp; omega) | (simp at *; omega)))) (by simp)
  clear hw1
  obtain ⟨X, hXe⟩ : ∃ X, X = w.heap.size + 1 + 1 + 1 := ⟨_, rfl⟩
  rw [← hXe] at hX ⊢
  obtain ⟨N, hNe⟩ : ∃ N, N = w.heap.size + 1 + 1 := ⟨_, rfl⟩
  rw [← hNe] at hn ⊢
  obtain ⟨A, hAe⟩ : ∃ A, A = w.heap.size + 1 := ⟨_, rfl⟩
  rw [← hAe] at ha ⊢
  obtain ⟨q1, q2, q3, q4⟩ : w.heap.size ≤ A ∧ w.heap.size ≤ X ∧ A ≠ X ∧ N ≠ X := by omega
  clear hXe hNe hAe
  go_wp2_with fail
  refine (show Calls _ _ _ _ _ from as_hit e X (.int .i64 0) w1 (HE.out w1 hB1) hX).mono ?_
  rintro _ w2 ⟨rfl, W, hbW, rfl⟩
  have ha2 : (W.setCell ⟨X, 0, none⟩ (.int .i64 e)).heap[A]? = some (.cells zeroSix 32 (0, 0)) := (heap_setCell_ne q3).trans (heapKept ha hbW)
  have hn2 : (W.setCell ⟨X, 0, none⟩ (.int .i64 e)).heap[N]? = some (.cells zeroSix 32 (0, 0)) := (heap_setCell_ne q4).trans (heapKept hn hbW)
  have hX2 : (W.setCell ⟨X, 0, none⟩ (.int .i64 e)).heap[X]? = some (.cells #[.int .i64 e] 139 (0, 0)) := heap_setCell_same (i := 0) (heapKept hX hbW)
  have hB2 : Below w.heap.size w (W.setCell ⟨X, 0, none⟩ (.int .i64 e)) := (hB1.trans (hbW.mono hB1.size)).setCell (p := ⟨X, 0, none⟩) q2 _
  obtain ⟨w3, hw3⟩ : ∃ w3, w3 = W.setCell ⟨X, 0, none⟩ (.int .i64 e) := ⟨_, rfl⟩
  rw [← hw3] at ha2 hn2 hX2 hB2 ⊢
  clear hw3 hbW ha hn hX q3 q4
  have k0 := cellsOf hX2 0
  simp only [List.getElem?_toArray, List.getElem?_cons_zero] at k0
  have Hn := hide hn2
  have Hr := hide ha2
  clear hX2 hn2 ha2
  go_wp2_with fail
  refine wp_region_pred 4 (fun W => Below w3.heap.size w3 W) (fun W W' => Below W.heap.size W W') (VEitSix A N X e) (by kernel_rfl) (by kernel_rfl) (Below.refl _ _).drew
    (fun W W' h hg => h.trans (hg.mono h.size)) ?hV_12 (fun W => Below.refl _ _) ?how_12 ?hfin_12
  case hV_12 =>
    intro i_ v_ g_ W W' hg h
    match i_, h with
    | 0, h => exact h
    | 1, h => exact h
    | 2, h => exact h
    | 3, h => exact h
    | _ + 4, _ => trivial
  case how_12 =>
    intro i_ hi_
    match i_, hi_ with
    | 0, _ =>
      refine owes_plain rfl rfl fun ac_ W hC hold hdep => ?_
      have hs6 := hold 6 (by kernel_rfl)
      exact wp_load_of (p := ⟨N, 0, none⟩) rfl (evalT hs6) (load_row (n := zeroSix.size) (hheap := heapKept Hn.out hC) (hu := Tryz.underlying32) (hd := rfl) (hi := by kernel_rfl) (hc := rfl)) ⟨_, rfl, Below.refl _ _, rfl⟩
    | 1, _ =>
      refine owes_plain rfl rfl fun ac_ W hC hold hdep => ?_
      have hs7 := hold 7 (by kernel_rfl)
      clear hdep hold
      go_simp
      exact ⟨_, rfl, Below.refl _ _, rfl⟩
    | 2, _ =>
      refine owes_plain rfl rfl fun ac_ W hC hold hdep => ?_
      obtain ⟨_, (hd1 : _ = (.pointer (some ⟨X, 0, none⟩) : Value))⟩ := hdep 1 12 (by kernel_rfl)
      have k0 := (hC.cell (cellLt k0)).trans k0
      clear hdep hold
      go_simp
      exact ⟨_, rfl, Below.refl _ _, rfl⟩
    | 3, _ =>
      refine owes_plain rfl rfl fun ac_ W hC hold hdep => ?_
      have hs4 := hold 4 (by kernel_rfl)
      obtain ⟨_, (hd0 : _ = (.agg zeroSix : Value))⟩ := hdep 0 11 (by kernel_rfl)
      exact wp_store_row _ _ _ rfl A zeroSix (evalT hs4) (evalT hd0) _ zeroSix (heapKept Hr.out hC) (by kernel_rfl) rfl (by kernel_rfl) ⟨undef, rfl, below_setRow_self (heapKept Hr.out hC), trivial⟩
    | k + 4, hk => exact absurd hk (by omega)
  case' hfin_12 =>
    intro fv W hC hold hval
    have v2 : (fv 13) = (.int .i64 e : Value) := hval 2 _ (by omega) rfl
    have s4 := hold 4 (by kernel_rfl)
    simp only [Array.getD_eq_getD_getElem?, List.getElem?_toArray, List.getElem?_cons_succ, List.getElem?_cons_zero, Option.getD_some] at s4
    have s5 := hold 5 (by kernel_rfl)
    simp only [Array.getD_eq_getD_getElem?, List.getElem?_toArray, List.getElem?_cons_succ, List.getElem?_cons_zero, Option.getD_some] at s5
    have s6 := hold 6 (by kernel_rfl)
    simp only [Array.getD_eq_getD_getElem?, List.getElem?_toArray, List.getElem?_cons_succ, List.getElem?_cons_zero, Option.getD_some] at s6
    have s7 := hold 7 (by kernel_rfl)
    simp only [Array.getD_eq_getD_getElem?, List.getElem?_toArray, List.getElem?_cons_succ, List.getElem?_cons_zero, Option.getD_some] at s7
    clear hval hold
    simp only [List.drop_succ_cons, List.drop_zero, List.size_toArray, List.length_cons, List.length_nil, Nat.reduceAdd]
    simp only [List.range, List.range.loop]
    simp only [List.map_cons, List.map_nil]
    simp only [s4, s5, s6, s7]
  simp only [v2]
  have hrW := heapKept Hr.out hC
  go_wp2_with fail
  refine bodyPost_ret (results_ct rfl rfl rfl (load_row (n := zeroSix.size) (hheap := hrW) (hu := Tryz.underlying32) (hd := rfl) (hi := by kernel_rfl) (hc := rfl))) rfl ?_
  exact ⟨rfl, hB2.trans (hC.mono hB2.size)⟩
def VEitSeven (A N X : Nat) (e : Int) : Nat → Value → (Nat → Value) → World → Prop
  | 0, v, _, W => v = .agg zeroSeven
  | 1, v, _, W => v = .pointer (some ⟨X, 0, none⟩)
  | 2, v, _, W => v = .int .i64 e
  | 3, v, _, W => True
  | _, _, _, _ => True


set_option maxRecDepth 100000 in
set_option maxHeartbeats 40000000 in
theorem eitherSeven_err (x : Array Value) (e : Int) (w : World) (hE : ErrAt w) :
    Calls Tryz.prog 42 #[.agg x, .iface 139 (.agg #[.int .i64 e])] w (Rt w (.tuple #[.agg zeroSeven, .int .i64 e])) := by
  have HE := hide (fun W (hb : Below w.heap.size w W) => (hb.cell (p := ⟨7, 0, none⟩) (cellLt hE)).trans hE)
  clear hE
  go_enter Tryz.func42, Tryz.ntmps42
  go_upto_region 3 with fail
  refine wp_named fun w1 hw1 => ?_
  have hB1 : Below w.heap.size w w1 := by rw [hw1]; ((repeat' (first | exact Below.refl _ _ | assumption | (refine Below.drew ?_) | (refine Below.alloc ?_ ?_ _) | (refine Below.setCell ?_ ?_ _) | (refine Below.step (W := ?hW) ?hq ?_ ?_; case hq => assumption))) <;> (first | (simp; done) | (simp; omega) | (simp at *; omega)))
  have ha : w1.heap[w.heap.size + 1]? = some (.cells zeroSeven 35 (0, 0)) := by rw [hw1]; exact heapNew (u := w.alloc _) (by ((repeat' (first | exact Below.refl _ _ | assumption | (refine Below.drew ?_) | (refine Below.alloc ?_ ?_ _) | (refine Below.setCell ?_ ?_ _) | (refine Below.step (W := ?hW) ?hq ?_ ?_; case hq => assumption))) <;> (first | (simp; done) | (simp; omega) | (simp at *; omega)))) (by simp)
  have hn : w1.heap[w.heap.size + 1 + 1]? = some (.cells zeroSeven 35 (0, 0)) := by rw [hw1]; exact heapNew (u := (w.alloc _).alloc _) (by ((repeat' (first | exact Below.refl _ _ | assumption | (refine Below.drew ?_) | (refine Below.alloc ?_ ?_ _) | (refine Below.setCell ?_ ?_ _) | (refine Below.step (W := ?hW) ?hq ?_ ?_; case hq => assumption))) <;> (first | (simp; done) | (simp; omega) | (simp at *; omega)))) (by simp)
  have hX : w1.heap[w.heap.size + 1 + 1 + 1]? = some (.cells #[.int .i64 0] 139 (0, 0)) := by rw [hw1]; exact heapNew (u := ((w.alloc _).alloc _).alloc _) (by ((repeat' (first | exact Below.refl _ _ | assumption | (refine Below.drew ?_) | (refine Below.alloc ?_ ?_ _) | (refine Below.setCell ?_ ?_ _) | (refine Below.step (W := ?hW) ?hq ?_ ?_; case hq => assumption))) <;> (first | (simp; done) | (simp; omega) | (simp at *; omega)))) (by simp)
  clear hw1
  obtain ⟨X, hXe⟩ : ∃ X, X = w.heap.size + 1 + 1 + 1 := ⟨_, rfl⟩
  rw [← hXe] at hX ⊢
  obtain ⟨N, hNe⟩ : ∃ N, N = w.heap.size + 1 + 1 := ⟨_, rfl⟩
  rw [← hNe] at hn ⊢
  obtain ⟨A, hAe⟩ : ∃ A, A = w.heap.size + 1 := ⟨_, rfl⟩
  rw [← hAe] at ha ⊢
  obtain ⟨q1, q2, q3, q4⟩ : w.heap.size ≤ A ∧ w.heap.size ≤ X ∧ A ≠ X ∧ N ≠ X := by omega
  clear hXe hNe hAe
  go_wp2_with fail
  refine (show Calls _ _ _ _ _ from as_hit e X (.int .i64 0) w1 (HE.out w1 hB1) hX).mono ?_
  rintro _ w2 ⟨rfl, W, hbW, rfl⟩
  have ha2 : (W.setCell ⟨X, 0, none⟩ (.int .i64 e)).heap[A]? = some (.cells zeroSeven 35 (0, 0)) := (heap_setCell_ne q3).trans (heapKept ha hbW)
  have hn2 : (W.setCell ⟨X, 0, none⟩ (.int .i64 e)).heap[N]? = some (.cells zeroSeven 35 (0, 0)) := (heap_setCell_ne q4).trans (heapKept hn hbW)
  have hX2 : (W.setCell ⟨X, 0, none⟩ (.int .i64 e)).heap[X]? = some (.cells #[.int .i64 e] 139 (0, 0)) := heap_setCell_same (i := 0) (heapKept hX hbW)
  have hB2 : Below w.heap.size w (W.setCell ⟨X, 0, none⟩ (.int .i64 e)) := (hB1.trans (hbW.mono hB1.size)).setCell (p := ⟨X, 0, none⟩) q2 _
  obtain ⟨w3, hw3⟩ : ∃ w3, w3 = W.setCell ⟨X, 0, none⟩ (.int .i64 e) := ⟨_, rfl⟩
  rw [← hw3] at ha2 hn2 hX2 hB2 ⊢
  clear hw3 hbW ha hn hX q3 q4
  have k0 := cellsOf hX2 0
  simp only [List.getElem?_toArray, List.getElem?_cons_zero] at k0
  have Hn := hide hn2
  have Hr := hide ha2
  clear hX2 hn2 ha2
  go_wp2_with fail
  refine wp_region_pred 4 (fun W => Below w3.heap.size w3 W) (fun W W' => Below W.heap.size W W') (VEitSeven A N X e) (by kernel_rfl) (by kernel_rfl) (Below.refl _ _).drew
    (fun W W' h hg => h.trans (hg.mono h.size)) ?hV_12 (fun W => Below.refl _ _) ?how_12 ?hfin_12
  case hV_12 =>
    intro i_ v_ g_ W W' hg h
    match i_, h with
    | 0, h => exact h
    | 1, h => exact h
    | 2, h => exact h
    | 3, h => exact h
    | _ + 4, _ => trivial
  case how_12 =>
    intro i_ hi_
    match i_, hi_ with
    | 0, _ =>
      refine owes_plain rfl rfl fun ac_ W hC hold hdep => ?_
      have hs6 := hold 6 (by kernel_rfl)
      exact wp_load_of (p := ⟨N, 0, none⟩) rfl (evalT hs6) (load_row (n := zeroSeven.size) (hheap := heapKept Hn.out hC) (hu := Tryz.underlying35) (hd := rfl) (hi := by kernel_rfl) (hc := rfl)) ⟨_, rfl, Below.refl _ _, rfl⟩
    | 1, _ =>
      refine owes_plain rfl rfl fun ac_ W hC hold hdep => ?_
      have hs7 := hold 7 (by kernel_rfl)
      clear hdep hold
      go_simp
      exact ⟨_, rfl, Below.refl _ _, rfl⟩
    | 2, _ =>
      refine owes_plain rfl rfl fun ac_ W hC hold hdep => ?_
      obtain ⟨_, (hd1 : _ = (.pointer (some ⟨X, 0, none⟩) : Value))⟩ := hdep 1 12 (by kernel_rfl)
      have k0 := (hC.cell (cellLt k0)).trans k0
      clear hdep hold
      go_simp
      exact ⟨_, rfl, Below.refl _ _, rfl⟩
    | 3, _ =>
      refine owes_plain rfl rfl fun ac_ W hC hold hdep => ?_
      have hs4 := hold 4 (by kernel_rfl)
      obtain ⟨_, (hd0 : _ = (.agg zeroSeven : Value))⟩ := hdep 0 11 (by kernel_rfl)
      exact wp_store_row _ _ _ rfl A zeroSeven (evalT hs4) (evalT hd0) _ zeroSeven (heapKept Hr.out hC) (by kernel_rfl) rfl (by kernel_rfl) ⟨undef, rfl, below_setRow_self (heapKept Hr.out hC), trivial⟩
    | k + 4, hk => exact absurd hk (by omega)
  case' hfin_12 =>
    intro fv W hC hold hval
    have v2 : (fv 13) = (.int .i64 e : Value) := hval 2 _ (by omega) rfl
    have s4 := hold 4 (by kernel_rfl)
    simp only [Array.getD_eq_getD_getElem?, List.getElem?_toArray, List.getElem?_cons_succ, List.getElem?_cons_zero, Option.getD_some] at s4
    have s5 := hold 5 (by kernel_rfl)
    simp only [Array.getD_eq_getD_getElem?, List.getElem?_toArray, List.getElem?_cons_succ, List.getElem?_cons_zero, Option.getD_some] at s5
    have s6 := hold 6 (by kernel_rfl)
    simp only [Array.getD_eq_getD_getElem?, List.getElem?_toArray, List.getElem?_cons_succ, List.getElem?_cons_zero, Option.getD_some] at s6
    have s7 := hold 7 (by kernel_rfl)
    simp only [Array.getD_eq_getD_getElem?, List.getElem?_toArray, List.getElem?_cons_succ, List.getElem?_cons_zero, Option.getD_some] at s7
    clear hval hold
    simp only [List.drop_succ_cons, List.drop_zero, List.size_toArray, List.length_cons, List.length_nil, Nat.reduceAdd]
    simp only [List.range, List.range.loop]
    simp only [List.map_cons, List.map_nil]
    simp only [s4, s5, s6, s7]
  simp only [v2]
  have hrW := heapKept Hr.out hC
  go_wp2_with fail
  refine bodyPost_ret (results_ct rfl rfl rfl (load_row (n := zeroSeven.size) (hheap := hrW) (hu := Tryz.underlying35) (hd := rfl) (hi := by kernel_rfl) (hc := rfl))) rfl ?_
  exact ⟨rfl, hB2.trans (hC.mono hB2.size)⟩
end Go.Proofs.YtllfaffbaijgfaaGreatDoor

namespace Go.Proofs.YtllfaffbaijgfaaGreatDoor
open Go Go.RowKit Go.Shelf

theorem load_mid {P : Program} {W : World} {b n off : Nat} {t t' : TypeId} {C c : Array Value} {r : List Value} {m : Nat × Nat} {d : TypeDesc} (hheap : W.heap[b]? = some (.cells C t' m)) (hu : P.underlying t = some d) (hd : d.isRow = true) (hi : (P.info? t).map (·.size) = some n) (hc : c.size = n)
    (hs : C.toList.drop off = c.toList ++ r) : (loadVar t ⟨b, off, none⟩).run P W = .ok (.agg c) W := by
  have := run_loadVar_mid (P := P) W b off t c.toList d (fun j v hv => by
    have h2 : (C.toList.drop off)[j]? = some v := by
      rw [hs, List.getElem?_append_left (List.getElem?_eq_some_iff.1 hv).1]; exact hv
    rw [List.getElem?_drop] at h2
    have h3 : C[off + j]? = some v := by simpa using h2
    simp [World.cell?, hheap, h3]) hu hd (by simp [hc, hi])
  simpa using this

abbrev midRow (C c : Array Value) (off : Nat) : Array Value := (C.toList.take off ++ c.toList ++ C.toList.drop (off + c.toList.length)).toArray
theorem run_storeVar_midrow {P : Program} (w : World) (g off : Nat) (t ty : TypeId) (C c : Array Value) (hg : w.heap[g]? = some (.cells C t (0, 0))) (hi : (P.info? ty).map (·.size) = some c.size) (hfit : off + c.size ≤ C.size) (h1 : c.all (·.oneCell') = true) :
    (storeVar ty ⟨g, off, none⟩ (.agg c)).run P w = .ok () (w.setRow g (midRow C c off)) := by
  have := run_storeCells_at (P := P) g off t c.toList 0 C w hg (by simpa using hfit) (fun v hv => (Array.all_eq_true_iff_forall_mem.1 h1) v (by simpa using hv))
  cases hq : P.info? ty with
  | none => simp [hq] at hi
  | some i =>
    have hs : c.size = i.size := by simp [hq] at hi; omega
    simp only [Nat.add_zero] at this
    simp [storeVar, sizeOf, typeInfo, hq, Value.cells, hs, this, midRow]
theorem wpList_store_midrow {P : Program} {ops : Array Oper} {rest : List Oper} {op : Oper} {a : Act} {w : World} {Q : Exit → Act → World → Prop} {ty t : TypeId} {x y : Operand} {g n off : Nat} {C c : Array Value} (hgd : op.guard = none) (ho : op.op = .store ty x y) (hd : op.dst = none)
    (hx : a.eval x = .pointer (some ⟨g, off, none⟩)) (hheap : w.heap[g]? = some (.cells C t (0, 0))) (hy : a.eval y = .agg c) (hi : (P.info? ty).map (·.size) = some n) (hn : c.size = n) (hfit : off + c.size ≤ C.size) (h1 : c.all (·.oneCell') = true)
    (hgo : wpList P ops Q rest a (w.setRow g (midRow C c off))) : wpList P ops Q (op :: rest) a w :=
  wpList_plain hgd fun K hK => by
    unfold Oper.wp execOp
    simp only [ho, hx, hy, Instr.storeAt, Instr.sureAddr, Sem.run_bind, Sem.run_pure, Result.andThen_ok, run_storeVar_midrow w g off t ty C c hheap (by rw [hi, hn]) hfit h1]
    have := hK _ _ hgo
    rw [Oper.upon_skip, hd]
    exact this
end Go.Proofs.YtllfaffbaijgfaaGreatDoor
