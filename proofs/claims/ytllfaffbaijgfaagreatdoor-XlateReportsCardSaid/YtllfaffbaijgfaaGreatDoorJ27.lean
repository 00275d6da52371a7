/- ext.Data of a class whose custodian is none. ext.Up of blocks without a class. -/
import Derived.Test.YtllfaffbaijgfaaGreatDoorJ26
import Derived.Test.YtllfaffbaijgfaaGreatDoorJ18
set_option linter.unusedVariables false
set_option linter.unusedSimpArgs false
namespace Go.Proofs.YtllfaffbaijgfaaGreatDoor
open Go Go.RowKit Go.Shelf
attribute [local go_sem] Oper.semAt_some

def boolN (k : Bool) : Int := if k = true then 1 else 0
def dataI (p : Int) (k : Bool) (s v : Value) : Itv := .mk 4 0 [] s [numI p, numI (boolN k), itNone v]
def dataL (p : Int) (k : Bool) : List UInt8 := encI (dataI p k .nilIface .nilIface)
theorem encI_data (p : Int) (k : Bool) (s v : Value) : encI (dataI p k s v) = dataL p k := rfl
theorem pre_data (p : Int) (k : Bool) (s v : Value) : preT 1 (dataI p k s v) = [(1, dataI p k s v), (2, numI p), (2, numI (boolN k)), (2, itNone v), (3, numI 1), (3, numI 0)] := rfl
theorem right_data (p : Int) (k : Bool) (s v : Value) (hp : p = 0 ∨ p = 1 ∨ p = 2) : rightI (dataI p k s v) = true := by
  rcases hp with rfl | rfl | rfl <;> cases k <;> rfl
theorem boolN_cases (k : Bool) : boolN k = 0 ∨ boolN k = 1 := by cases k <;> simp [boolN]
theorem small_data (p : Int) (k : Bool) (s v : Value) (hp : p = 0 ∨ p = 1 ∨ p = 2) : ItSmall (dataI p k s v) := by
  have hb := boolN_cases k
  constructor
  all_goals
    rw [pre_data]
    intro q hq
    simp only [List.mem_cons, List.not_mem_nil, or_false] at hq
    rcases hq with rfl | rfl | rfl | rfl | rfl | rfl
  all_goals first | rfl | (simp [dataI, numI, itNone, Itv.n, Itv.s, Itv.l]; done) | (simp [dataI, numI, itNone, Itv.n, Itv.s, Itv.l]; omega)
theorem fit_data (p : Int) (k : Bool) (s v : Value) : ItFit (dataI p k s v) := by
  constructor
  · show (dataI p k s v).count ≤ 900000
    have : (dataI p k s v).count = 6 := rfl
    omega
  all_goals
    rw [pre_data]
    intro q hq
    simp only [List.mem_cons, List.not_mem_nil, or_false] at hq
    rcases hq with rfl | rfl | rfl | rfl | rfl | rfl
  all_goals (simp [dataI, numI, itNone, Itv.n, Itv.s, Itv.l])
theorem kind_data (p : Int) (k : Bool) (s v : Value) (q : Nat × Itv) (hq : q ∈ preT 1 (dataI p k s v)) : q.2.kind ≠ 3 := by
  rw [pre_data] at hq
  simp only [List.mem_cons, List.not_mem_nil, or_false] at hq
  rcases hq with rfl | rfl | rfl | rfl | rfl | rfl
  all_goals (simp [dataI, numI, itNone, Itv.kind])

theorem dataEncode_calls (S : Nat → Addr) (p : Int) (k : Bool) (s v : Value) (w : World) (hS : HeadAt S w) (hp : p = 0 ∨ p = 1 ∨ p = 2) (hat : ItvAt (fun k => k < w.heap.size) w (dataI p k s v)) :
    Calls Tryz.prog 156 #[.agg (itC (dataI p k s v))] w (Rt w (.tuple #[.string (bs (dataL p k)), .int .i64 0])) :=
  itemEncode_calls S _ w hS hat (fit_data p k s v) (small_data p k s v hp) (fun q hq h => absurd h (kind_data p k s v q hq)) (right_data p k s v hp)

abbrev row3C (p : Int) (u : Value) : Array Value := #[.int .i64 0, .int .i64 p, .string { data := #[] }, .slice none 0 0, .int .i64 0, .int .i64 0, .string { data := #[] }, .slice none 0 0, .int .i64 4, .int .i64 0, .string { data := #[] }, u]
def Row3 (p : Int) (u : Value) (v : Value) (W : World) : Prop := ∃ b, v = .slice (some ⟨b, 0, none⟩) 3 3 ∧ W.heap[b]? = some (.cells (row3C p u) 133 (0, 0))
theorem Row3.mono {p : Int} {u v : Value} {W W' : World} (h : Row3 p u v W) (hb : Below W.heap.size W W') : Row3 p u v W' := by
  obtain ⟨b, h1, h2⟩ := h
  exact ⟨b, h1, heapKept h2 hb⟩
def DataAt (p : Int) (u : Value) (v : Value) (W : World) : Prop := ∃ b, v = .agg #[.int .i64 4, .int .i64 0, .string { data := #[] }, .slice (some ⟨b, 0, none⟩) 3 3] ∧ W.heap[b]? = some (.cells (row3C p u) 133 (0, 0))
theorem DataAt.mono {p : Int} {u v : Value} {W W' : World} (h : DataAt p u v W) (hb : Below W.heap.size W W') : DataAt p u v W' := by
  obtain ⟨b, h1, h2⟩ := h
  exact ⟨b, h1, heapKept h2 hb⟩
theorem DataAt.item {p : Int} {u : Value} {W : World} {b : Nat} (h : W.heap[b]? = some (.cells (row3C p u) 133 (0, 0))) (hu : ItvAt (fun k => k < W.heap.size) W (itNone u)) : ItvAt (fun k => k < W.heap.size) W (dataI p false (.slice (some ⟨b, 0, none⟩) 3 3) u) := by
  have hnum : ∀ n : Int, ItvAt (fun k => k < W.heap.size) W (numI n) := fun n => .mk 0 n [] none 0 [] (fun h => absurd h (Nat.lt_irrefl _)) (fun x hx => by cases hx)
  refine ItvAt.mk 4 0 [] (some ⟨b, 0, none⟩) 3 [numI p, numI (boolN false), itNone u] (fun _ => ⟨b, 0, rfl, (Array.getElem?_eq_some_iff.1 h).1, fun i x hx => ?_⟩) (fun x hx => ?_)
  · rcases i with _ | _ | _ | i
    · cases hx
      exact ⟨cellsOf h 0, cellsOf h 1, cellsOf h 2, cellsOf h 3⟩
    · cases hx
      exact ⟨cellsOf h 4, cellsOf h 5, cellsOf h 6, cellsOf h 7⟩
    · cases hx
      exact ⟨cellsOf h 8, cellsOf h 9, cellsOf h 10, cellsOf h 11⟩
    · cases hx
  · rcases List.mem_cons.1 hx with rfl | hx
    · exact hnum p
    · rcases List.mem_cons.1 hx with rfl | hx
      · exact hnum _
      · rcases List.mem_cons.1 hx with rfl | hx
        · exact hu
        · cases hx

def VDataR (p : Int) (b0 b3 b6 : Nat) (u : Value) : Nat → Value → (Nat → Value) → World → Prop
  | 0, v, _, W => v = .pointer (some ⟨b0, 0, none⟩)
  | 1, v, _, W => v = .int .i64 p
  | 2, v, _, W => v = .agg #[.int .i64 0, .int .i64 p, .string { data := #[] }, .slice none 0 0]
  | 3, v, _, W => v = .agg #[.int .i64 0, .int .i64 0, .string { data := #[] }, .slice none 0 0]
  | 4, v, _, W => v = .agg #[.int .i64 4, .int .i64 0, .string { data := #[] }, u]
  | 5, v, _, W => Row3 p u v W
  | 6, v, _, W => DataAt p u v W
  | 7, v, _, W => v = .tuple #[.string (bs (dataL p false)), .int .i64 0]
  | 8, v, _, W => v = .string (bs (dataL p false))
  | 9, v, _, W => v = .int .i64 0
  | _, _, _, _ => True


set_option maxRecDepth 100000 in
set_option maxHeartbeats 40000000 in
theorem data0_calls (S : Nat → Addr) (p : Int) (w : World) (hS : HeadAt S w) (hp : p = 0 ∨ p = 1 ∨ p = 2) :
    Calls Tryz.prog 167 #[.agg #[.int .i64 (Class.mk p false noEid).priority, .bool (Class.mk p false noEid).custody, .int .i64 (Class.mk p false noEid).custodian.scheme, .string (bs (Class.mk p false noEid).custodian.node), .string (bs (Class.mk p false noEid).custodian.service), .int .i64 (Class.mk p false noEid).custodian.a, .int .i64 (Class.mk p false noEid).custodian.b]] w (Rt w (.tuple #[.string (bs (dataL p false)), .int .i64 0])) := by
  have hp1 : ¬ p < 0 := by omega
  have hp2 : ¬ p > 2 := by omega
  have HS := hide hS
  have Hp := hide hp
  clear hS hp
  have H1 := hide (fun W => eidRight_calls noEid W (by decide) (by decide))
  obtain ⟨c, hc⟩ : ∃ c, c = Class.mk p false noEid := ⟨_, rfl⟩
  go_enter Tryz.func167, Tryz.ntmps167
  go_upto_region 2 with (apply wpList_store_new (ty := 29) (n := 5); (case hgd => exact rfl); (case ho => exact rfl); (case hd => exact rfl); (case hx => exact rfl); (case hw => exact rfl); (case hg => first | exact rfl | (simp; done)); (case hy => exact rfl); (case hi => kernel_rfl); (case hn0 => exact rfl); (case hn => exact rfl); (case h1 => first | exact rfl | assumption | (simp [Value.oneCell', *]; done) | (simp [*]; done)))
  refine wp_named fun w0 hw0 => ?_
  have hB : Below w.heap.size w w0 := by rw [hw0]; ((repeat' (first | exact Below.refl _ _ | assumption | (refine Below.drew ?_) | (refine Below.alloc ?_ ?_ _) | (refine Below.setCell ?_ ?_ _) | (refine Below.step (W := ?hW) ?hq ?_ ?_; case hq => assumption))) <;> (first | (simp; done) | (simp; omega) | (simp at *; omega)))
  have hx : w0.heap[w.heap.size]? = some (.cells #[.int .i64 p, .bool false, .int .i64 noEid.scheme, .string (bs noEid.node), .string (bs noEid.service), .int .i64 noEid.a, .int .i64 noEid.b] 70 (0, 0)) := by rw [hw0]; exact heapNew (u := w) (by ((repeat' (first | exact Below.refl _ _ | assumption | (refine Below.drew ?_) | (refine Below.alloc ?_ ?_ _) | (refine Below.setCell ?_ ?_ _) | (refine Below.step (W := ?hW) ?hq ?_ ?_; case hq => assumption))) <;> (first | (simp; done) | (simp; omega) | (simp at *; omega)))) rfl
  have hn : w0.heap[w.heap.size + 1]? = some (.cells #[.int .i64 noEid.scheme, .string (bs noEid.node), .string (bs noEid.service), .int .i64 noEid.a, .int .i64 noEid.b] 29 (0, 0)) := by rw [hw0]; exact heapNew (u := w.alloc _) (by ((repeat' (first | exact Below.refl _ _ | assumption | (refine Below.drew ?_) | (refine Below.alloc ?_ ?_ _) | (refine Below.setCell ?_ ?_ _) | (refine Below.step (W := ?hW) ?hq ?_ ?_; case hq => assumption))) <;> (first | (simp; done) | (simp; omega) | (simp at *; omega)))) (by simp)
  have hlt : w.heap.size + 1 < w0.heap.size := by rw [hw0]; simp
  clear hw0
  have k0 := cellsOf hx 0
  simp only [List.getElem?_toArray, List.getElem?_cons_succ, List.getElem?_cons_zero] at k0
  have k1 := cellsOf hx 1
  simp only [List.getElem?_toArray, List.getElem?_cons_succ, List.getElem?_cons_zero] at k1
  have k2 := cellsOf hx 2
  simp only [List.getElem?_toArray, List.getElem?_cons_succ, List.getElem?_cons_zero] at k2
  have k3 := cellsOf hx 3
  simp only [List.getElem?_toArray, List.getElem?_cons_succ, List.getElem?_cons_zero] at k3
  have k4 := cellsOf hx 4
  simp only [List.getElem?_toArray, List.getElem?_cons_succ, List.getElem?_cons_zero] at k4
  have k5 := cellsOf hx 5
  simp only [List.getElem?_toArray, List.getElem?_cons_succ, List.getElem?_cons_zero] at k5
  have k6 := cellsOf hx 6
  simp only [List.getElem?_toArray, List.getElem?_cons_succ, List.getElem?_cons_zero] at k6
  have l0 := cellsOf hn 0
  simp only [List.getElem?_toArray, List.getElem?_cons_succ, List.getElem?_cons_zero] at l0
  have l1 := cellsOf hn 1
  simp only [List.getElem?_toArray, List.getElem?_cons_succ, List.getElem?_cons_zero] at l1
  have l2 := cellsOf hn 2
  simp only [List.getElem?_toArray, List.getElem?_cons_succ, List.getElem?_cons_zero] at l2
  have l3 := cellsOf hn 3
  simp only [List.getElem?_toArray, List.getElem?_cons_succ, List.getElem?_cons_zero] at l3
  have l4 := cellsOf hn 4
  simp only [List.getElem?_toArray, List.getElem?_cons_succ, List.getElem?_cons_zero] at l4
  have He : eidR noEid = true := by kernel_rfl
  rw [He] at H1
  clear He
  obtain ⟨e, he⟩ : ∃ e, e = noEid := ⟨_, rfl⟩
  have He := hide he
  rw [← he] at k2 k3 k4 k5 k6 l0 l1 l2 l3 l4 hx hn H1
  simp only [← he]
  clear he hc c
  go_wp2_with fail
  refine (show Calls _ _ _ _ _ from H1.out _).mono ?_
  rintro _ w1 ⟨rfl, hb1⟩
  replace k0 := (hb1.cell (cellLt k0)).trans k0
  replace k1 := (hb1.cell (cellLt k1)).trans k1
  replace k2 := (hb1.cell (cellLt k2)).trans k2
  replace k3 := (hb1.cell (cellLt k3)).trans k3
  replace k4 := (hb1.cell (cellLt k4)).trans k4
  replace k5 := (hb1.cell (cellLt k5)).trans k5
  replace k6 := (hb1.cell (cellLt k6)).trans k6
  replace l0 := (hb1.cell (cellLt l0)).trans l0
  replace l1 := (hb1.cell (cellLt l1)).trans l1
  replace l2 := (hb1.cell (cellLt l2)).trans l2
  replace l3 := (hb1.cell (cellLt l3)).trans l3
  replace l4 := (hb1.cell (cellLt l4)).trans l4
  clear hx hn
  go_wp2_with fail
  refine (extNumber_calls 0 w1).mono ?_
  rintro _ w2 ⟨rfl, hb2⟩
  replace k0 := (hb2.cell (cellLt k0)).trans k0
  replace k1 := (hb2.cell (cellLt k1)).trans k1
  replace k2 := (hb2.cell (cellLt k2)).trans k2
  replace k3 := (hb2.cell (cellLt k3)).trans k3
  replace k4 := (hb2.cell (cellLt k4)).trans k4
  replace k5 := (hb2.cell (cellLt k5)).trans k5
  replace k6 := (hb2.cell (cellLt k6)).trans k6
  clear l0 l1 l2 l3 l4
  go_upto_region 5 with (apply wpList_store_new (ty := 133) (n := 4); (case hgd => exact rfl); (case ho => exact rfl); (case hd => exact rfl); (case hx => exact rfl); (case hw => exact rfl); (case hg => first | exact rfl | (simp; done)); (case hy => exact rfl); (case hi => kernel_rfl); (case hn0 => exact rfl); (case hn => exact rfl); (case h1 => first | exact rfl | assumption | (simp [Value.oneCell', *]; done) | (simp [*]; done)))
  refine wp_named fun w3 hw3 => ?_
  have hb3 : Below w2.heap.size w2 w3 := by rw [hw3]; ((repeat' (first | exact Below.refl _ _ | assumption | (refine Below.drew ?_) | (refine Below.alloc ?_ ?_ _) | (refine Below.setCell ?_ ?_ _) | (refine Below.step (W := ?hW) ?hq ?_ ?_; case hq => assumption))) <;> (first | (simp; done) | (simp; omega) | (simp at *; omega)))
  have n3 : w3.heap[w2.heap.size]? = some (.cells #[.int .i64 0, .int .i64 0, .string { data := #[] }, .slice none 0 0] 133 (0, 0)) := by rw [hw3]; exact heapNew (u := w2) (by ((repeat' (first | exact Below.refl _ _ | assumption | (refine Below.drew ?_) | (refine Below.alloc ?_ ?_ _) | (refine Below.setCell ?_ ?_ _) | (refine Below.step (W := ?hW) ?hq ?_ ?_; case hq => assumption))) <;> (first | (simp; done) | (simp; omega) | (simp at *; omega)))) rfl
  have hz3 : w2.heap.size < w3.heap.size := by rw [hw3]; simp
  clear hw3
  replace k0 := (hb3.cell (cellLt k0)).trans k0
  replace k1 := (hb3.cell (cellLt k1)).trans k1
  replace k2 := (hb3.cell (cellLt k2)).trans k2
  replace k3 := (hb3.cell (cellLt k3)).trans k3
  replace k4 := (hb3.cell (cellLt k4)).trans k4
  replace k5 := (hb3.cell (cellLt k5)).trans k5
  replace k6 := (hb3.cell (cellLt k6)).trans k6
  obtain ⟨b3, hb3e⟩ : ∃ b, b = w2.heap.size := ⟨_, rfl⟩
  have Hb3 := hide hb3e
  rw [← hb3e] at n3 hz3 ⊢
  clear hb3e
  go_wp2_with fail
  have H2 := item0_calls w3
  rw [← He.out] at H2
  refine (show Calls _ _ _ _ _ from H2).mono ?_
  rintro _ w4 ⟨v, rfl, hb4, hat4⟩
  clear H2
  have n4 := heapKept n3 hb4
  replace k0 := (hb4.cell (cellLt k0)).trans k0
  clear n3 k1 k2 k3 k4 k5 k6 H1
  have hall := itC_all (itNone v) hat4.oneCell
  have Hat4 := hide hat4
  clear hat4
  go_upto_region 8 with (apply wpList_store_new (ty := 133) (n := 4); (case hgd => exact rfl); (case ho => exact rfl); (case hd => exact rfl); (case hx => exact rfl); (case hw => exact rfl); (case hg => first | exact rfl | (simp; done)); (case hy => exact rfl); (case hi => kernel_rfl); (case hn0 => exact rfl); (case hn => exact rfl); (case h1 => first | exact rfl | assumption | (simp [Value.oneCell', *]; done) | (simp [*]; done)))
  refine wp_named fun w5 hw5 => ?_
  have hb5 : Below w4.heap.size w4 w5 := by rw [hw5]; ((repeat' (first | exact Below.refl _ _ | assumption | (refine Below.drew ?_) | (refine Below.alloc ?_ ?_ _) | (refine Below.setCell ?_ ?_ _) | (refine Below.step (W := ?hW) ?hq ?_ ?_; case hq => assumption))) <;> (first | (simp; done) | (simp; omega) | (simp at *; omega)))
  have m5 : w5.heap[w4.heap.size]? = some (.cells (itC (itNone v)) 133 (0, 0)) := by rw [hw5]; exact heapNew (u := w4) (by ((repeat' (first | exact Below.refl _ _ | assumption | (refine Below.drew ?_) | (refine Below.alloc ?_ ?_ _) | (refine Below.setCell ?_ ?_ _) | (refine Below.step (W := ?hW) ?hq ?_ ?_; case hq => assumption))) <;> (first | (simp; done) | (simp; omega) | (simp at *; omega)))) rfl
  have n5 := heapKept n4 hb5
  replace k0 := (hb5.cell (cellLt k0)).trans k0
  have hB5 : Below w.heap.size w w5 := hB.trans ((hb1.trans ((hb2.trans ((hb3.trans ((hb4.trans (hb5.mono hb4.size)).mono hb3.size)).mono hb2.size)).mono hb1.size)).mono hB.size)
  have hat5 := (Hat4.out.keep (Keep.of_below hb5 (fun k hk => hk))).more (R' := fun k => k < w5.heap.size) (fun k hk => Nat.lt_of_lt_of_le hk hb5.size)
  have HS5 := HS.out.mono (w' := w5) hB5
  clear hw5 n4 hall
  have n0 := cellsOf n5 0
  have m0 := cellsOf m5 0
  simp only [List.getElem?_toArray, List.getElem?_cons_succ, List.getElem?_cons_zero] at n0 m0
  have n1 := cellsOf n5 1
  have m1 := cellsOf m5 1
  simp only [List.getElem?_toArray, List.getElem?_cons_succ, List.getElem?_cons_zero] at n1 m1
  have n2 := cellsOf n5 2
  have m2 := cellsOf m5 2
  simp only [List.getElem?_toArray, List.getElem?_cons_succ, List.getElem?_cons_zero] at n2 m2
  have n3 := cellsOf n5 3
  have m3 := cellsOf m5 3
  simp only [List.getElem?_toArray, List.getElem?_cons_succ, List.getElem?_cons_zero] at n3 m3
  have HF := hide (And.intro hB5 (And.intro hat5 HS5))
  clear hB5 hat5 HS5 n5 m5 hB hlt hb1 hb2 hb3 hb4 hb5 hz3 Hb3 Hat4
  replace m0 : w5.cell? ⟨w4.heap.size, 0, none⟩ = some (.int .i64 4) := m0
  replace m1 : w5.cell? ⟨w4.heap.size, 1, none⟩ = some (.int .i64 0) := m1
  replace m2 : w5.cell? ⟨w4.heap.size, 2, none⟩ = some (.string { data := #[] }) := m2
  replace m3 : w5.cell? ⟨w4.heap.size, 3, none⟩ = some v := m3
  obtain ⟨b0, hb0⟩ : ∃ b, b = w.heap.size := ⟨_, rfl⟩
  obtain ⟨b6, hb6⟩ : ∃ b, b = w4.heap.size := ⟨_, rfl⟩
  rw [← hb0] at k0 ⊢
  rw [← hb6] at m0 m1 m2 m3 ⊢
  clear hb0 hb6
  obtain ⟨u, hu⟩ : ∃ u, u = v := ⟨_, rfl⟩
  rw [← hu] at m3 HF
  clear hu
  refine wp_region_pred 10 (fun W => Below w5.heap.size w5 W) (fun W W' => Below W.heap.size W W') (VDataR p b0 b3 b6 u) (by kernel_rfl) (by kernel_rfl) (Below.refl _ _).drew
    (fun W W' h hg => h.trans (hg.mono h.size)) ?hV_10 (fun W => Below.refl _ _) ?how_10 ?hfin_10
  case hV_10 =>
    intro i_ v_ g_ W W' hg h
    match i_, h with
    | 0, h => exact h
    | 1, h => exact h
    | 2, h => exact h
    | 3, h => exact h
    | 4, h => exact h
    | 5, h => exact Row3.mono h hg
    | 6, h => exact DataAt.mono h hg
    | 7, h => exact h
    | 8, h => exact h
    | 9, h => exact h
    | _ + 10, _ => trivial
  case how_10 =>
    intro i_ hi_
    match i_, hi_ with
    | 0, _ =>
      refine owes_plain rfl rfl fun ac_ W hC hold hdep => ?_
      have hs1 := hold 1 (by kernel_rfl)
      clear hdep hold
      go_simp
      exact ⟨_, rfl, Below.refl _ _, rfl⟩
    | 1, _ =>
      refine owes_plain rfl rfl fun ac_ W hC hold hdep => ?_
      obtain ⟨_, (hd0 : _ = (.pointer (some ⟨b0, 0, none⟩) : Value))⟩ := hdep 0 47 (by kernel_rfl)
      have k0 := (hC.cell (cellLt k0)).trans k0
      clear hdep hold
      go_simp
      exact ⟨_, rfl, Below.refl _ _, rfl⟩
    | 2, _ =>
      refine owes_plain rfl rfl fun ac_ W hC hold hdep => ?_
      obtain ⟨_, (hd1 : _ = (.int .i64 p : Value))⟩ := hdep 1 48 (by kernel_rfl)
      clear hdep hold
      go_simp
      refine (show Calls _ _ _ _ _ from extNumber_calls p W).mono ?_
      rintro e_ w_ ⟨rfl, hb_⟩
      exact ⟨_, rfl, hb_, rfl⟩
    | 3, _ =>
      refine owes_plain rfl rfl fun ac_ W hC hold hdep => ?_
      have hs5 := hold 5 (by kernel_rfl)
      have n0 := (hC.cell (cellLt n0)).trans n0
      have n1 := (hC.cell (cellLt n1)).trans n1
      have n2 := (hC.cell (cellLt n2)).trans n2
      have n3 := (hC.cell (cellLt n3)).trans n3
      clear hdep hold
      go_simp
      exact ⟨_, rfl, Below.refl _ _, rfl⟩
    | 4, _ =>
      refine owes_plain rfl rfl fun ac_ W hC hold hdep => ?_
      have hs6 := hold 6 (by kernel_rfl)
      have m0 := (hC.cell (cellLt m0)).trans m0
      have m1 := (hC.cell (cellLt m1)).trans m1
      have m2 := (hC.cell (cellLt m2)).trans m2
      have m3 := (hC.cell (cellLt m3)).trans m3
      clear hdep hold
      go_simp
      exact ⟨_, rfl, Below.refl _ _, rfl⟩
    | 5, _ =>
      refine owes_plain rfl rfl fun ac_ W hC hold hdep => ?_
      obtain ⟨_, (hd2 : _ = (.agg #[.int .i64 0, .int .i64 p, .string { data := #[] }, .slice none 0 0] : Value))⟩ := hdep 2 49 (by kernel_rfl)
      obtain ⟨_, (hd3 : _ = (.agg #[.int .i64 0, .int .i64 0, .string { data := #[] }, .slice none 0 0] : Value))⟩ := hdep 3 50 (by kernel_rfl)
      obtain ⟨_, (hd4 : _ = (.agg #[.int .i64 4, .int .i64 0, .string { data := #[] }, u] : Value))⟩ := hdep 4 51 (by kernel_rfl)
      clear hdep hold
      go_simp
      exact ⟨_, rfl, (Below.refl _ _).alloc (Nat.le_refl _) _, ⟨_, rfl, World.alloc_heap_new W _⟩⟩
    | 6, _ =>
      refine owes_plain rfl rfl fun ac_ W hC hold hdep => ?_
      obtain ⟨_, (hd5 : Row3 p u _ W)⟩ := hdep 5 52 (by kernel_rfl)
      obtain ⟨b, hb1, hb2⟩ := hd5
      have hb2 := hide hb2
      clear hdep hold
      go_simp
      refine (show Calls _ _ _ _ _ from extList_calls _ 3 3 W).mono ?_
      rintro e_ w_ ⟨rfl, hb_⟩
      exact ⟨_, rfl, hb_, ⟨b, rfl, heapKept hb2.out hb_⟩⟩
    | 7, _ =>
      refine owes_plain rfl rfl fun ac_ W hC hold hdep => ?_
      obtain ⟨_, (hd6 : DataAt p u _ W)⟩ := hdep 6 53 (by kernel_rfl)
      obtain ⟨b, hb1, hb2⟩ := hd6
      have hat := (HF.out.2.1.keep (Keep.of_below hC (fun k hk => hk))).more (R' := fun k => k < W.heap.size) (fun k hk => Nat.lt_of_lt_of_le hk hC.size)
      have hcall := hide (dataEncode_calls S p false _ _ W (HF.out.2.2.mono hC) Hp.out (DataAt.item hb2 hat))
      clear hdep hold hat hb2
      go_simp
      refine (show Calls _ _ _ _ _ from hcall.out).mono ?_
      rintro e_ w_ ⟨rfl, hb_⟩
      exact ⟨_, rfl, hb_, rfl⟩
    | 8, _ =>
      refine owes_plain rfl rfl fun ac_ W hC hold hdep => ?_
      obtain ⟨_, (hd7 : _ = (.tuple #[.string (bs (dataL p false)), .int .i64 0] : Value))⟩ := hdep 7 54 (by kernel_rfl)
      clear hdep hold
      go_simp
      exact ⟨_, rfl, Below.refl _ _, rfl⟩
    | 9, _ =>
      refine owes_plain rfl rfl fun ac_ W hC hold hdep => ?_
      obtain ⟨_, (hd7 : _ = (.tuple #[.string (bs (dataL p false)), .int .i64 0] : Value))⟩ := hdep 7 54 (by kernel_rfl)
      clear hdep hold
      go_simp
      exact ⟨_, rfl, Below.refl _ _, rfl⟩
    | k + 10, hk => exact absurd hk (by omega)
  case' hfin_10 =>
    intro fv W hC hold hval
    have v8 : (fv 55) = (.string (bs (dataL p false)) : Value) := hval 8 _ (by omega) rfl
    have v9 : (fv 56) = (.int .i64 0 : Value) := hval 9 _ (by omega) rfl
    have s0 := hold 0 (by kernel_rfl)
    simp only [Array.getD_eq_getD_getElem?, List.getElem?_toArray, List.getElem?_cons_succ, List.getElem?_cons_zero, Option.getD_some] at s0
    have s1 := hold 1 (by kernel_rfl)
    simp only [Array.getD_eq_getD_getElem?, List.getElem?_toArray, List.getElem?_cons_succ, List.getElem?_cons_zero, Option.getD_some] at s1
    have s2 := hold 2 (by kernel_rfl)
    simp only [Array.getD_eq_getD_getElem?, List.getElem?_toArray, List.getElem?_cons_succ, List.getElem?_cons_zero, Option.getD_some] at s2
    have s3 := hold 3 (by kernel_rfl)
    simp only [Array.getD_eq_getD_getElem?, List.getElem?_toArray, List.getElem?_cons_succ, List.getElem?_cons_zero, Option.getD_some] at s3
    have s4 := hold 4 (by kernel_rfl)
    simp only [Array.getD_eq_getD_getElem?, List.getElem?_toArray, List.getElem?_cons_succ, List.getElem?_cons_zero, Option.getD_some] at s4
    have s5 := hold 5 (by kernel_rfl)
    simp only [Array.getD_eq_getD_getElem?, List.getElem?_toArray, List.getElem?_cons_succ, List.getElem?_cons_zero, Option.getD_some] at s5
    have s6 := hold 6 (by kernel_rfl)
    simp only [Array.getD_eq_getD_getElem?, List.getElem?_toArray, List.getElem?_cons_succ, List.getElem?_cons_zero, Option.getD_some] at s6
    clear hval hold
    simp only [List.drop_succ_cons, List.drop_zero, List.size_toArray, List.length_cons, List.length_nil, Nat.reduceAdd]
    simp only [List.range, List.range.loop]
    simp only [List.map_cons, List.map_nil]
    simp only [s0, s1, s2, s3, s4, s5, s6]
  simp only [v8, v9]
  go_wp2_with fail
  go_ret2
  exact ⟨rfl, HF.out.1.trans (hC.mono HF.out.1.size)⟩
end Go.Proofs.YtllfaffbaijgfaaGreatDoor

namespace Go.Proofs.YtllfaffbaijgfaaGreatDoor
open Go Go.RowKit Go.Shelf

def noWS : WS := ⟨0, [], fun _ => false⟩
set_option maxRecDepth 100000 in
set_option maxHeartbeats 40000000 in
theorem extUp0_calls (S T : Nat → Addr) (l : List Block) (rv : Nat → Value) (a : Option Addr) (cap : Nat) (w : World) (hS : Sents S w) (hT : HeadAt T w) (hp : PairsAt w) (hl1 : 1 ≤ l.length) (hl2 : l.length ≤ 8)
    (hat : ∃ b o, a = some ⟨b, o, none⟩ ∧ BlocksAt w l rv b o ∧ b < w.heap.size) (hrv : ∀ i x, l[i]? = some x → ∃ a' cap', rv i = .slice a' x.refs.length cap') (hrl : ∀ x ∈ l, x.refs.length ≤ 1000000) :
    Calls Tryz.prog 105 #[.slice a l.length cap, .agg #[.int .i64 noClass.priority, .bool noClass.custody, .int .i64 noClass.custodian.scheme, .string (bs noClass.custodian.node), .string (bs noClass.custodian.service), .int .i64 noClass.custodian.a, .int .i64 noClass.custodian.b]] w (fun e w' => ∃ v, e = .returned (.tuple #[if (walkF upStep noWS (blkItems l rv)).1 = 0 then v else .slice none 0 0, .int .i64 (walkF upStep noWS (blkItems l rv)).1]) ∧ Below w.heap.size w w' ∧
      w'.ownsRow w.heap.size 57 6 v (walkF upStep noWS (blkItems l rv)).2.out.length (blocksFlat (walkF upStep noWS (blkItems l rv)).2.out)) := by
  have hmm := @run_makeMap Tryz.prog
  have HU := hide (fun P M w' => allUp_calls S w.heap.size P M noClass noWS l rv a cap 0 w w' hS hp rfl)
  have HD := hide (fun w' (hb : Below w.heap.size w w') => data0_calls T 0 w' (hT.mono hb) (.inl rfl))
  have Hat := hide hat
  have Hrv := hide hrv
  have Hrl := hide hrl
  obtain ⟨n, hn⟩ : ∃ n, n = l.length := ⟨_, rfl⟩
  obtain ⟨z, hz⟩ : ∃ z, z = walkF upStep noWS (blkItems l rv) := ⟨_, rfl⟩
  rw [← hn] at hl1 hl2 ⊢
  simp only [← hz]
  simp only [← hn, ← hz] at HU
  have Hn := hide hn
  have Hz := hide hz
  clear hS hT hp hat hrv hrl hn hz
  go_enter Tryz.func105, Tryz.ntmps105
  go_upto_region 2 with (first | (apply wpList_load_of (ty := 70); (case hgd => exact rfl); (case ho => exact rfl); (case hx => exact rfl); (case hr => apply load_row (n := 7); (case hheap => apply heapNew (u := w); (case hbel => ((repeat' (first | exact Below.refl _ _ | assumption | (refine Below.drew ?_) | (refine Below.alloc ?_ ?_ _) | (refine Below.setCell ?_ ?_ _) | (refine Below.step (W := ?hW) ?hq ?_ ?_; case hq => assumption))) <;> (first | (simp; done) | (simp; omega) | (simp at *; omega)))); (case hnew => exact rfl)); (case hu => exact Tryz.underlying70); (case hd => exact rfl); (case hi => kernel_rfl); (case hc => exact rfl))) | (apply wpList_load_w (ty := 70); (case hgd => exact rfl); (case ho => exact rfl); (case hx => exact rfl); (case hr => apply load_row (n := 7); (case hheap => apply heapNew (u := w); (case hbel => ((repeat' (first | exact Below.refl _ _ | assumption | (refine Below.drew ?_) | (refine Below.alloc ?_ ?_ _) | (refine Below.setCell ?_ ?_ _) | (refine Below.step (W := ?hW) ?hq ?_ ?_; case hq => assumption))) <;> (first | (simp; done) | (simp; omega) | (simp at *; omega)))); (case hnew => exact rfl)); (case hu => exact Tryz.underlying70); (case hd => exact rfl); (case hi => kernel_rfl); (case hc => exact rfl))))
  refine wp_named fun w1 hw1 => ?_
  have hB1 : Below w.heap.size w w1 := by rw [hw1]; ((repeat' (first | exact Below.refl _ _ | assumption | (refine Below.drew ?_) | (refine Below.alloc ?_ ?_ _) | (refine Below.setCell ?_ ?_ _) | (refine Below.step (W := ?hW) ?hq ?_ ?_; case hq => assumption))) <;> (first | (simp; done) | (simp; omega) | (simp at *; omega)))
  have hx : w1.heap[w.heap.size]? = some (.cells #[.int .i64 noClass.priority, .bool noClass.custody, .int .i64 noClass.custodian.scheme, .string (bs noClass.custodian.node), .string (bs noClass.custodian.service), .int .i64 noClass.custodian.a, .int .i64 noClass.custodian.b] 70 (0, 0)) := by rw [hw1]; exact heapNew (u := w) (by ((repeat' (first | exact Below.refl _ _ | assumption | (refine Below.drew ?_) | (refine Below.alloc ?_ ?_ _) | (refine Below.setCell ?_ ?_ _) | (refine Below.step (W := ?hW) ?hq ?_ ?_; case hq => assumption))) <;> (first | (simp; done) | (simp; omega) | (simp at *; omega)))) rfl
  have hm : w1.heap[w.heap.size + 1]? = some (.map #[] 0) := by rw [hw1]; exact heapNew (u := w.alloc _) (by ((repeat' (first | exact Below.refl _ _ | assumption | (refine Below.drew ?_) | (refine Below.alloc ?_ ?_ _) | (refine Below.setCell ?_ ?_ _) | (refine Below.step (W := ?hW) ?hq ?_ ?_; case hq => assumption))) <;> (first | (simp; done) | (simp; omega) | (simp at *; omega)))) (by simp)
  have hP : WalkAt w1 (w.heap.size + 1 + 1) (.map (some (w.heap.size + 1))) (.slice none 0 0) noClass 0 := by rw [hw1]; exact heapNew (u := (w.alloc _).alloc _) (by ((repeat' (first | exact Below.refl _ _ | assumption | (refine Below.drew ?_) | (refine Below.alloc ?_ ?_ _) | (refine Below.setCell ?_ ?_ _) | (refine Below.step (W := ?hW) ?hq ?_ ?_; case hq => assumption))) <;> (first | (simp; done) | (simp; omega) | (simp at *; omega)))) (by simp)
  have hlt : w.heap.size + 1 + 1 < w1.heap.size := (Array.getElem?_eq_some_iff.1 hP).1
  clear hw1
  obtain ⟨A, hA⟩ : ∃ A, A = w.heap.size := ⟨_, rfl⟩
  obtain ⟨M, hM⟩ : ∃ M, M = w.heap.size + 1 := ⟨_, rfl⟩
  obtain ⟨P, hPe⟩ : ∃ P, P = w.heap.size + 1 + 1 := ⟨_, rfl⟩
  rw [← hPe, ← hM] at hP
  rw [← hM] at hm
  rw [← hPe, ← hM, ← hA]
  rw [← hA] at hx
  obtain ⟨q1, q2, q3⟩ : w.heap.size ≤ M ∧ w.heap.size ≤ P ∧ P < w1.heap.size ∧ M < w1.heap.size := by omega
  clear hA hM hPe hlt
  go_wp2_with (first | (apply wpList_load_of (ty := 70); (case hgd => exact rfl); (case ho => exact rfl); (case hx => exact rfl); (case hr => apply load_row (n := 7); (case hheap => exact hx); (case hu => exact Tryz.underlying70); (case hd => exact rfl); (case hi => kernel_rfl); (case hc => exact rfl))) | (apply wpList_load_w (ty := 70); (case hgd => exact rfl); (case ho => exact rfl); (case hx => exact rfl); (case hr => apply load_row (n := 7); (case hheap => exact hx); (case hu => exact Tryz.underlying70); (case hd => exact rfl); (case hi => kernel_rfl); (case hc => exact rfl))))
  refine (show Calls _ _ _ _ _ from HD.out w1 hB1).mono ?_
  rintro _ w2 ⟨rfl, hb2⟩
  have hx2 := heapKept hx hb2
  have hP2 := heapKept hP hb2
  have hm2 := heapKept hm hb2
  have hB2 := hB1.trans (hb2.mono hB1.size)
  clear hx hP hm
  go_wp2_with (first | (apply wpList_load_of (ty := 70); (case hgd => exact rfl); (case ho => exact rfl); (case hx => exact rfl); (case hr => apply load_row (n := 7); (case hheap => exact hx2); (case hu => exact Tryz.underlying70); (case hd => exact rfl); (case hi => kernel_rfl); (case hc => exact rfl))) | (apply wpList_load_w (ty := 70); (case hgd => exact rfl); (case ho => exact rfl); (case hx => exact rfl); (case hr => apply load_row (n := 7); (case hheap => exact hx2); (case hu => exact Tryz.underlying70); (case hd => exact rfl); (case hi => kernel_rfl); (case hc => exact rfl))))
  refine (show Calls _ _ _ _ _ from isPlain_calls 0 false noEid w2).mono ?_
  rintro _ w3 ⟨rfl, hb3⟩
  have hP3 : WalkAt w3 P (.map (some M)) (.slice none 0 0) noClass 0 := heapKept hP2 hb3
  have hm3 := heapKept hm2 hb3
  have hB3 := hB2.trans (hb3.mono hB2.size)
  have k1 : w3.cell? ⟨P, 1, none⟩ = some (.slice none 0 0) := cellsOf hP3 1
  have HP3 := hide (And.intro hP3 hm3)
  clear hP2 hm2 hx2 hP3 hm3
  go_wp2_with fail
  have hst : WalkSt w.heap.size P M noClass noWS w3 := ⟨⟨_, _, HP3.out.1, World.ownsRow_nil _ _ _ _, HP3.out.2, Met.empty⟩, hB3.size, q2, q1, Int.le_refl _⟩
  obtain ⟨b, o, ha, hbt, hbl⟩ := Hat.out
  have hk3 : Keep (fun k => k < w.heap.size) w w3 := Keep.of_below hB3 (fun k hk => hk)
  refine (show Calls _ _ _ _ _ from HU.out P M w3 hk3 hst ⟨Int.le_refl _, Nat.le_refl _⟩ (by omega) (fun _ => ⟨b, o, ha, hbl, hbt.mono hB3 hbl⟩) Hrv.out Hrl.out (by have := hb2.size; have := hb3.size; omega) (by have := hb2.size; have := hb3.size; omega)).mono ?_
  rintro _ w4 ⟨rfl, ⟨⟨v, o4, hP4, hrow4, _, _⟩, _, _, _, _⟩, hs4⟩
  have k4 : w4.cell? ⟨P, 1, none⟩ = some v := cellsOf hP4 1
  obtain ⟨ao, n', cp, rfl⟩ : ∃ ao n' cap, v = .slice ao n' cap := by
    rcases hrow4.2 with ⟨hv, _⟩ | ⟨g, cap, cur, hv, _⟩
    · exact ⟨_, _, _, hv⟩
    · exact ⟨_, _, _, hv⟩
  have H4 := hide (And.intro hrow4 (hs4.below hB3))
  clear hst hbt ha hk3 hP4 hrow4 hs4 k1
  go_wp2_with fail
  refine (show Calls _ _ _ _ _ from eitherBlocks_calls ao n' cp z.1 w4).mono ?_
  rintro _ w5 ⟨rfl, rfl⟩
  go_wp2_with fail
  · go_ret2
    exact ⟨_, rfl, H4.out.2, H4.out.1⟩
  · go_ret2
    exact ⟨rfl, H4.out.2, _, H4.out.1⟩
end Go.Proofs.YtllfaffbaijgfaaGreatDoor
