/- Items gone through, each ahead of those in it. -/
import Derived.Test.YtllfaffbaijgfaaGreatDoorJ22
import Derived.Test.YtllfaffbaijgfaaGreatDoorJ13
set_option linter.unusedVariables false
set_option linter.unusedSimpArgs false
namespace Go.Proofs.YtllfaffbaijgfaaGreatDoor
open Go Go.RowKit Go.Shelf
attribute [local go_sem] Oper.semAt_some

def itEnc (y : Nat × Itv) : Array Value := #[.int .i64 y.1, .agg (itC y.2)]
theorem infoAns : (Tryz.prog.info? 266).map (fun i => (i.zero, i.size, i.bytes)) = some (some (.agg #[.int .i64 0, .int .i64 0, .string { data := #[] }, .slice none 0 0, .int .i64 0]), 5, 64) := by kernel_rfl

/-- where the going through stands: what is yet to come lies on a stack of its own -/
structure ItInv (R : Nat → Prop) (J : (Nat → Prop) → Nat → World → Prop) (xs : List (Nat × Itv)) (W : World) (T K m : Nat) (ds : List Deferred) (wr : World) (O : Nat → Prop) (j : Nat) (st : Stk) (v : Value) : Prop where
  cnt : m = countS st
  out : xs.drop j = outS st
  le : j ≤ xs.length
  inv : J O j wr
  keep : Keep R W wr
  own : ∀ k, O k → W.heap.size ≤ k ∧ k < wr.heap.size
  oT : O T
  var : wr.heap[T]? = some (.cells #[v] 403 (0, 0))
  row : wr.ownsRow W.heap.size 266 5 v st.length (flatS st)
  oR : ∀ g, v.ownBlock = some g → O g
  at_ : ∀ p ∈ st, ItvAt R wr p.2
  dep : ∀ p ∈ st, p.1 + p.2.count ≤ K
  sum : countS st ≤ K
  marks : Marks O wr ds wr.heap.size

theorem row_cell {W : World} {base size n g cap : Nat} {e : TypeId} {xs : List Value} (h : W.ownsRow base e size (.slice (some ⟨g, 0, none⟩) n cap) n xs) {i : Nat} {u : Value} (hi : xs[i]? = some u) : W.cell? ⟨g, i, none⟩ = some u := by
  rcases h.2 with ⟨h0, _⟩ | ⟨g', cap', cur, hv, _, hg, _, _, _, ht⟩
  · cases h0
  · cases hv
    have h1 := cellsOf hg i
    rw [h1]
    rw [← ht] at hi
    have h2 : (cur.toList.take (n * size))[i]? = some u := hi
    rw [List.getElem?_take] at h2
    split at h2
    · simpa using h2
    · cases h2
theorem snoc_cases {α : Type} (l : List α) : l = [] ∨ ∃ (r : List α) (b : α), l = r ++ [b] := by
  rcases List.eq_nil_or_concat l with h | ⟨r, b, h⟩
  · exact .inl h
  · exact .inr ⟨r, b, by rw [h, List.concat_eq_append]⟩
theorem row_noncell {W : World} {base size n k : Nat} {e : TypeId} {v : Value} {xs : List Value} {o : Obj} (h : W.ownsRow base e size v n xs) (hk : W.heap[k]? = some o) (ho : ∀ c m, o ≠ .cells c e m) : some k ≠ v.ownBlock := by
  rcases h.2 with ⟨rfl, _⟩ | ⟨g, cap, cur, rfl, _, hg, _⟩
  · simp [Value.ownBlock]
  · intro e'
    obtain rfl : k = g := by simpa [Value.ownBlock] using e'
    rw [hg] at hk; cases hk
    exact ho _ _ rfl
theorem flatS_top (st : Stk) (d : Nat) (y : Itv) (i : Nat) (hi : i < 5) : (flatS (st ++ [(d, y)]))[st.length * 5 + i]? = ([.int .i64 y.kind, .int .i64 y.n, .string (bs y.s), y.v, .int .i64 d] : List Value)[i]? := by
  rw [flatS_append, List.getElem?_append_right (by rw [flatS_length]; omega), flatS_length, Nat.add_sub_cancel_left]
  simp [flatS]

set_option maxRecDepth 100000 in
set_option maxHeartbeats 40000000 in
theorem itemsIter (x : Itv) (K B : Nat) (R : Nat → Prop) (w : World) (hK : 1 + x.count ≤ K) (hK2 : K ≤ 1000000) (hB : w.heap[B]? = some (.cells (itC x) 133 (0, 0))) (hRB : R B) (hat : ItvAt R w x) (hRlt : ∀ k, R k → k < w.heap.size) :
    IterO Tryz.prog 297 #[.pointer (some ⟨B, 0, none⟩)] itEnc (preT 1 x) R w := by
  intro lp J Jx W hW hJ hJx hY h0
  have HY := hide hY
  have HJ := hide hJ
  have HJx := hide hJx
  have hAtW := hat.keep hW
  have Hat := hide hAtW
  have hkb := (hW.block B hRB).trans hB
  have hone := hat.oneCell
  clear hY hJ hJx hB hat hAtW
  have k0 := cellsOf hkb 0
  simp only [List.getElem?_toArray, List.getElem?_cons_succ, List.getElem?_cons_zero] at k0
  have k1 := cellsOf hkb 1
  simp only [List.getElem?_toArray, List.getElem?_cons_succ, List.getElem?_cons_zero] at k1
  have k2 := cellsOf hkb 2
  simp only [List.getElem?_toArray, List.getElem?_cons_succ, List.getElem?_cons_zero] at k2
  have k3 := cellsOf hkb 3
  simp only [List.getElem?_toArray, List.getElem?_cons_succ, List.getElem?_cons_zero] at k3
  refine callsIn_of_wp_marks Tryz.func297 rfl trivial ?_ rfl
  simp only [Tryz.ntmps297, List.size_toArray, List.length_cons, List.length_nil, Nat.reduceAdd, Nat.reduceSub, Array.replicate_succ, Array.replicate_zero, List.push_toArray, List.append_toArray, List.nil_append, List.cons_append]
  refine wpIn_scope_wide ?_
  have hst := fun (a : Addr) (w : World) => run_store Tryz.prog w a x.v .plain hone
  gi_wp2
  refine wpIn_label ?_
  gi_wp2
  clear k0 k1 k2 k3 hst
  obtain ⟨T, hT⟩ : ∃ T, T = W.heap.size + 1 := ⟨_, rfl⟩
  rw [← hT]
  have HT := hide hT
  clear hT
  refine wpIn_loop_idx (fun m a' wr => ∃ u4 u6 u10 u11 u12 u13 u14 u15 u16 u17 u18 u19 u20 u21 u22 u23 u24 u25 u26 u27 u28 u29 u30 u31 u32 u33 u34 u35 u36 u37 u38 u39 u40 u41 u42 u43 u44 ds, (∃ O j st v, ItInv R J (preT 1 x) W T K m ds wr O j st v) ∧ a' = { tmps := #[.func (.yield lp) #[] #[], .pointer (some ⟨B, 0, none⟩), undef, .pointer (some ⟨T, 0, none⟩), u4, undef, u6, .agg (itC x), .agg #[.int .i64 x.kind, .int .i64 x.n, .string (bs x.s), x.v, .int .i64 1], .slice (some ⟨W.heap.size, 0, none⟩) 1 1, u10, u11, u12, u13, u14, u15, u16, u17, u18, u19, u20, u21, u22, u23, u24, u25, u26, u27, u28, u29, u30, u31, u32, u33, u34, u35, u36, u37, u38, u39, u40, u41, u42, u43, u44], defers := ds }) (countS [(1, x)]) ?start ?round
  case start =>
    have hT := HT.out
    obtain ⟨A0, hA0⟩ : ∃ A0, A0 = (W.alloc (.cells #[.int .i64 x.kind, .int .i64 x.n, .string (bs x.s), x.v, .int .i64 1] 266)).alloc (.cells #[.slice (some ⟨W.heap.size, 0, none⟩) 1 1] 403) := ⟨_, rfl⟩
    rw [← hA0]
    have hBA : Below W.heap.size W A0 := by rw [hA0]; ((repeat' (first | exact Below.refl _ _ | assumption | (refine Below.drew ?_) | (refine Below.alloc ?_ ?_ _) | (refine Below.setCell ?_ ?_ _) | (refine Below.step (W := ?hW) ?hq ?_ ?_; case hq => assumption))) <;> (first | (simp; done) | (simp; omega) | (simp at *; omega)))
    have hz0 : A0.heap.size = W.heap.size + 2 := by rw [hA0]; simp
    have r0 : A0.heap[W.heap.size]? = some (.cells #[.int .i64 x.kind, .int .i64 x.n, .string (bs x.s), x.v, .int .i64 1] 266 (0, 0)) := by rw [hA0]; exact heapNew (u := W) (by ((repeat' (first | exact Below.refl _ _ | assumption | (refine Below.drew ?_) | (refine Below.alloc ?_ ?_ _) | (refine Below.setCell ?_ ?_ _) | (refine Below.step (W := ?hW) ?hq ?_ ?_; case hq => assumption))) <;> (first | (simp; done) | (simp; omega) | (simp at *; omega)))) rfl
    have r1 : A0.heap[T]? = some (.cells #[.slice (some ⟨W.heap.size, 0, none⟩) 1 1] 403 (0, 0)) := by rw [hA0, hT]; exact heapNew (u := W.alloc _) (by ((repeat' (first | exact Below.refl _ _ | assumption | (refine Below.drew ?_) | (refine Below.alloc ?_ ?_ _) | (refine Below.setCell ?_ ?_ _) | (refine Below.step (W := ?hW) ?hq ?_ ?_; case hq => assumption))) <;> (first | (simp; done) | (simp; omega) | (simp at *; omega)))) (by simp)
    (repeat apply Exists.intro)
    refine ⟨⟨fun k => W.heap.size ≤ k ∧ k < W.heap.size + 2, 0, [(1, x)], .slice (some ⟨W.heap.size, 0, none⟩) 1 1, ?_⟩, rfl⟩
    refine ⟨rfl, ?_, Nat.zero_le _, ?_, Keep.of_below hBA (fun k hk => Nat.lt_of_lt_of_le (hRlt k hk) hW.size), fun k hk => by omega, by omega, r1, ⟨rfl, .inr ⟨W.heap.size, 1, _, rfl, Nat.le_refl _, r0, Nat.le_refl _, by decide, rfl, rfl⟩⟩, fun g hg => ?_, ?_, ?_, ?_, .nil _⟩
    · rw [List.drop_zero]; simp [outS]
    · exact HJ.out _ _ _ _ _ h0 ⟨Own1.of_below hBA, fun _ h => h.elim, fun k hk => .inr hk.1, fun k hk => by omega⟩
    · obtain rfl : W.heap.size = g := by simpa [Value.ownBlock] using hg
      omega
    · intro p hp
      obtain rfl : p = (1, x) := by simpa using hp
      exact (Hat.out).keep (Keep.of_below hBA (fun k hk => Nat.lt_of_lt_of_le (hRlt k hk) hW.size))
    · intro p hp
      obtain rfl : p = (1, x) := by simpa using hp
      exact hK
    · simp [countS, countL]; omega
  case round =>
    rintro m a' wr ⟨u4, u6, u10, u11, u12, u13, u14, u15, u16, u17, u18, u19, u20, u21, u22, u23, u24, u25, u26, u27, u28, u29, u30, u31, u32, u33, u34, u35, u36, u37, u38, u39, u40, u41, u42, u43, u44, ds, ⟨O, j, st, v, I⟩, rfl⟩
    have c0 := cellsOf I.var 0
    simp only [List.getElem?_toArray, List.getElem?_cons_zero] at c0
    rcases snoc_cases st with rfl | ⟨st', ⟨d, y⟩, rfl⟩
    · obtain ⟨a, cap, rfl⟩ : ∃ a cap, v = .slice a 0 cap := by
        rcases I.row.2 with ⟨rfl, _⟩ | ⟨g, cap, cur, rfl, _⟩
        · exact ⟨none, 0, rfl⟩
        · exact ⟨_, cap, rfl⟩
      have HI := hide I
      clear I
      gi_wp2
      try simp only [Exit.noGoto]
      have I := HI.out
      have hj : j = (preT 1 x).length := by
        have h1 := congrArg List.length I.out
        have h2 := I.le
        simp [outS] at h1
        omega
      refine marks_leave (O := O) (fun W' => J O j W' ∧ wr.heap.size ≤ W'.heap.size) (fun A B hA h1 h2 h3 h4 h5 => ⟨HJ.out O O j A B hA.1 ⟨⟨h2, h3, h4, Nat.le_of_eq h5, fun k hk hO => h1 k hk hO⟩, fun _ h => h, fun _ h => .inl h, fun k hk => by have := I.own k hk; have := hA.2; omega⟩, by rw [← h5]; exact hA.2⟩) rfl (fun v' W' h => ⟨⟨v', rfl⟩, .inl ⟨O, by rw [← hj]; exact h.1⟩⟩) I.marks ⟨I.inv, Nat.le_refl _⟩
    · obtain ⟨g, cap, rfl, hg1, hg2⟩ := I.row.form (by simp)
      obtain ⟨N, hN⟩ : ∃ N, N = st'.length := ⟨_, rfl⟩
      have hN1 : (st' ++ [(d, y)]).length = N + 1 := by rw [hN]; simp
      rw [hN1] at I c0
      have hrow := I.row
      rw [hN1] at hrow
      have q0 : wr.cell? ⟨g, N * 5, none⟩ = some (.int .i64 y.kind) := by rw [hN]; exact row_cell hrow ((flatS_top st' d y 0 (by omega)).trans rfl)
      have q1 : wr.cell? ⟨g, N * 5 + 1, none⟩ = some (.int .i64 y.n) := by rw [hN]; exact row_cell hrow ((flatS_top st' d y 1 (by omega)).trans rfl)
      have q2 : wr.cell? ⟨g, N * 5 + 2, none⟩ = some (.string (bs y.s)) := by rw [hN]; exact row_cell hrow ((flatS_top st' d y 2 (by omega)).trans rfl)
      have q3 : wr.cell? ⟨g, N * 5 + 3, none⟩ = some (y.v) := by rw [hN]; exact row_cell hrow ((flatS_top st' d y 3 (by omega)).trans rfl)
      have q4 : wr.cell? ⟨g, N * 5 + 4, none⟩ = some (.int .i64 d) := by rw [hN]; exact row_cell hrow ((flatS_top st' d y 4 (by omega)).trans rfl)
      have hNK : N + 1 ≤ 1000000 := by
        have h1 := I.sum
        have h2 := length_le_countL ((st' ++ [(d, y)]).map (·.2))
        rw [List.length_map, hN1] at h2
        unfold countS at h1
        omega
      have hdK : d + y.count ≤ 1000000 := Nat.le_trans (I.dep (d, y) (by simp)) hK2
      have HI := hide I
      have HN := hide hN
      have hone2 := (I.at_ (d, y) (by simp)).oneCell
      have hst := fun (a : Addr) (w : World) => run_store Tryz.prog w a y.v .plain hone2
      have hfT : (wr.alloc (.cells #[.int .i64 y.kind, .int .i64 y.n, .string (bs y.s), y.v, .int .i64 d] 266)).frozen? ⟨T, 0, none⟩ = false := (World.frozen?_of_block (w := wr) (Below.heap_alloc wr _ T (Array.getElem?_eq_some_iff.1 I.var).1)).trans (by simp [World.frozen?, I.var])
      have cT : (wr.alloc (.cells #[.int .i64 y.kind, .int .i64 y.n, .string (bs y.s), y.v, .int .i64 d] 266)).cell? ⟨T, 0, none⟩ = some (.slice (some ⟨g, 0, none⟩) (N + 1) cap) := (World.cell?_of_block (w := wr) (Below.heap_alloc wr _ T (Array.getElem?_eq_some_iff.1 I.var).1)).trans c0
      have hwn : wrap64 (((N + 1 : Nat) : Int) - 1) = (N : Int) := by unfold wrap64; omega
      have hTl := (Array.getElem?_eq_some_iff.1 I.var).1
      have hNc : N + 1 ≤ cap := by
        rcases hrow.2 with ⟨h0, _⟩ | ⟨g', cap', cur, hv, _, _, hc, _⟩
        · cases h0
        · cases hv; exact hc
      have hTg : T ≠ g := by
        rintro rfl
        rcases hrow.2 with ⟨h0, _⟩ | ⟨g', cap', cur, hv, _, hg, _⟩
        · cases h0
        · cases hv
          rw [I.var] at hg; cases hg
      obtain ⟨A2, hA2⟩ : ∃ A2, A2 = (wr.alloc (.cells #[.int .i64 y.kind, .int .i64 y.n, .string (bs y.s), y.v, .int .i64 d] 266)).setCell ⟨T, 0, none⟩ (.slice (some ⟨g, 0, none⟩) N cap) := ⟨_, rfl⟩
      have z2 : A2.heap.size = wr.heap.size + 1 := by rw [hA2, size_setCell]; simp
      have o2 : ∀ k, k < wr.heap.size → k ≠ T → A2.heap[k]? = wr.heap[k]? := fun k hk hkT => by rw [hA2]; exact (heap_setCell_ne hkT).trans (Below.heap_alloc wr _ k hk)
      have var2 : A2.heap[T]? = some (.cells #[.slice (some ⟨g, 0, none⟩) N cap] 403 (0, 0)) := by rw [hA2]; exact heap_setCell_same ((Below.heap_alloc wr _ T hTl).trans I.var)
      have L2 : A2.heap[wr.heap.size]? = some (.cells #[.int .i64 y.kind, .int .i64 y.n, .string (bs y.s), y.v, .int .i64 d] 266 (0, 0)) := by rw [hA2]; exact (heap_setCell_ne (by omega)).trans (World.alloc_heap_new wr _)
      have row2 : A2.ownsRow W.heap.size 266 5 (.slice (some ⟨g, 0, none⟩) N cap) N (flatS st') := by
        refine row_kept (W := wr) (fun k c m hk => (o2 k (Array.getElem?_eq_some_iff.1 hk).1 ?_).trans hk) ?_
        · rintro rfl; rw [I.var] at hk; cases hk
        · rw [flatS_append] at hrow
          exact ownsRow_pop (by rw [flatS_length, hN]) hrow
      have own2 : OwnG W.heap.size O (fun k => O k ∨ k = wr.heap.size) wr A2 :=
        ⟨⟨by rw [hA2]; rfl, by rw [hA2]; rfl, by rw [hA2]; rfl, by omega, fun k hk hO => o2 k hk (by rintro rfl; exact hO I.oT)⟩, fun k h => .inl h, fun k h => h.imp id (fun h => by omega), fun k hk => by
          rcases hk with hk | rfl
          · have := I.own k hk; omega
          · have := I.keep.size; omega⟩
      have J2 := HJ.out O _ j wr A2 I.inv own2
      have keep2 : Keep R W A2 := I.keep.trans ⟨by omega, fun k hk => o2 k (Nat.lt_of_lt_of_le (Nat.lt_of_lt_of_le (hRlt k hk) hW.size) I.keep.size) (by have := hRlt k hk; have := hW.size; have := HT.out; omega)⟩
      have hxs : (preT 1 x)[j]? = some (d, y) := by
        have h1 := I.out
        rw [outS_pop] at h1
        rw [← List.head?_drop, h1]; rfl
      obtain ⟨fn, tmps, assign, body, hy, hR⟩ := HY.out _ j (d, y) A2 hxs (fun k hk => by have := own2.lt k hk; omega) J2
      simp only [itEnc] at hy
      have e0 := cellsOf L2 0
      simp only [List.getElem?_toArray, List.getElem?_cons_succ, List.getElem?_cons_zero] at e0
      have e1 := cellsOf L2 1
      simp only [List.getElem?_toArray, List.getElem?_cons_succ, List.getElem?_cons_zero] at e1
      have e2 := cellsOf L2 2
      simp only [List.getElem?_toArray, List.getElem?_cons_succ, List.getElem?_cons_zero] at e2
      have e3 := cellsOf L2 3
      simp only [List.getElem?_toArray, List.getElem?_cons_succ, List.getElem?_cons_zero] at e3
      have e4 := cellsOf L2 4
      simp only [List.getElem?_toArray, List.getElem?_cons_succ, List.getElem?_cons_zero] at e4
      have HF := hide (And.intro var2 (And.intro L2 (And.intro row2 (And.intro own2 (And.intro keep2 (And.intro z2 o2))))))
      clear I hrow hN hN1 hTl var2 L2 row2 own2 J2 keep2 hxs z2 o2
      rw [hA2] at e0 e1 e2 e3 e4 hy
      gi_wp2_with (apply wpListIn_store_new (ty := 266) (n := 5); (case hgd => exact rfl); (case ho => exact rfl); (case hd => exact rfl); (case hx => exact rfl); (case hw => exact rfl); (case hg => first | exact rfl | (simp; done)); (case hy => exact rfl); (case hi => kernel_rfl); (case hn0 => exact rfl); (case hn => exact rfl); (case h1 => first | exact rfl | assumption | (simp [Value.oneCell', *]; done) | (simp [*]; done)))
      rw [← hA2]
      refine ⟨rfl, hR.mono ?_⟩
      clear e0 e1 e2 e3 e4 hy hR q0 q1 q2 q3 q4 c0 hfT cT hA2 hst
      rintro e A3 (⟨rfl, hJ3, hk3⟩ | ⟨rfl, hJx3, hk3⟩)
      · have I := HI.out
        obtain ⟨var2, L2, row2, own2, keep2, z2, o2⟩ := HF.out
        have z3 := hk3.size
        have var3 := (hk3.block T (.inr (.inl I.oT))).trans var2
        have L3 := (hk3.block wr.heap.size (.inr (.inr rfl))).trans L2
        have gO : O g := I.oR g rfl
        have row3 : A3.ownsRow W.heap.size 266 5 (.slice (some ⟨g, 0, none⟩) N cap) N (flatS st') := by
          refine ⟨row2.1, ?_⟩
          rcases row2.2 with ⟨h0, _⟩ | ⟨g', cap', cur, hv, h1, h2, h3⟩
          · cases h0
          · cases hv
            exact .inr ⟨g, cap, cur, rfl, h1, (hk3.block g (.inr (.inl gO))).trans h2, h3⟩
        have keep3 : Keep R W A3 := keep2.trans (hk3.mono fun k hk => .inl hk)
        have marks3 : Marks (fun k => O k ∨ k = wr.heap.size) A3 ds A3.heap.size := I.marks.keep (fun k h => .inl h) (by omega) fun k hO hk1 hk2 => (hk3.block k (.inr (.inl hO))).trans ((o2 k hk1 (by rintro rfl; rw [I.var] at hk2; cases hk2)).trans hk2)
        obtain ⟨ya, ycap, hyv, hyat, hyl⟩ := (I.at_ (d, y) (by simp)).slice
        have e3 := cellsOf L3 3
        simp only [List.getElem?_toArray, List.getElem?_cons_zero, List.getElem?_cons_succ] at e3
        have HI3 := hide (And.intro var3 (And.intro L3 (And.intro row3 (And.intro keep3 (And.intro marks3 z3)))))
        have HY3 := hide (And.intro hyv (And.intro hyat hyl))
        clear var2 L2 row2 own2 keep2 z2 o2 z3 var3 L3 row3 keep3 marks3 hyv hyat hyl I
        gi_wp2
        refine ⟨trivial, rfl, ?_⟩
        refine (callsIn_wide.2 (backward_calls y.v _ hone2)).mono ?_
        rintro e_ A4 ⟨rfl, hA4⟩
        have hB4 : Below A3.heap.size A3 A4 := by rw [hA4]; exact (Below.refl _ _).alloc (Nat.le_refl _) _
        have z4 : A4.heap.size = A3.heap.size + 1 := by rw [hA4]; simp
        have box4 : A4.heap[A3.heap.size]? = some (.cells #[y.v] 109 (0, 0)) := by rw [hA4]; exact World.alloc_heap_new A3 _
        clear hA4 e3
        obtain ⟨O2, hO2⟩ : ∃ O2 : Nat → Prop, O2 = fun k => O k ∨ k = wr.heap.size := ⟨_, rfl⟩
        obtain ⟨L, hL⟩ : ∃ L, L = wr.heap.size := ⟨_, rfl⟩
        rw [← hL]
        have HL := hide hL
        clear hL
        rw [← hO2] at hJ3
        clear hk3
        have hlt4 : ∀ k, (R k ∨ k = A3.heap.size) → k < A4.heap.size := fun k hk => by
          rcases hk with hk | rfl
          · have := hRlt k hk; have := hW.size; have := HI3.out.2.2.2.1.size; omega
          · omega
        have hyl4 : ∀ x ∈ y.l, x.v.oneCell' = true := fun x hx => (HY3.out.2.2 x hx).oneCell
        have ylen : y.l.length ≤ 1000000 := by
          have h1 := length_le_countL y.l
          have h2 := count_eq y
          omega
        have R34 : ∀ k, R k → k < A3.heap.size := fun k hk => by
          have := hRlt k hk; have := hW.size; have := HI3.out.2.2.2.1.size; omega
        have hkeep4 : Keep R wr A4 := by
          refine ⟨by have := HI3.out.2.2.2.2.2; have := HF.out.2.2.2.2.2.1; have := HL.out; omega, fun k hk => ?_⟩
          exact (hB4.block k (R34 k hk)).trans ((HI3.out.2.2.2.1.block k hk).trans (HI.out.keep.block k hk).symm)
        have Hit : Iter Tryz.prog 338 #[.pointer (some ⟨A3.heap.size, 0, none⟩)] backEnc (backL y.l) (fun k => R k ∨ k = A3.heap.size) (fun _ => False) A4 :=
          backIter y.l ya ycap A3.heap.size _ A4 (by omega) (by rw [← HY3.out.1]; simpa using cellsOf box4 0) (.inr rfl)
            (fun h => by
              obtain ⟨b, o, h1, h2, h3⟩ := HY3.out.2.1 h
              exact ⟨b, o, h1, .inl h2, h3.keep hkeep4 h2⟩) hyl4 hlt4
        have Hit := hide Hit
        have HO2 := hide hO2
        clear hO2
        obtain ⟨row0, keep0⟩ : Hid (A4.ownsRow W.heap.size 266 5 (.slice (some ⟨g, 0, none⟩) N cap) N (flatS st')) ∧ Hid True := by
          refine ⟨hide ?_, hide trivial⟩
          have row3 := HI3.out.2.2.1
          exact row_kept (fun k c m hk => (hB4.block k (Array.getElem?_eq_some_iff.1 hk).1).trans hk) row3
        have var4 := heapKept HI3.out.1 hB4
        have L4 := heapKept HI3.out.2.1 hB4
        rw [← HL.out] at L4
        have gO : O g := HI.out.oR g rfl
        have TO : O T := HI.out.oT
        clear keep0 hkeep4
        gi_wp2
        refine wp_range (gf := 338) (lb := #[.pointer (some ⟨A3.heap.size, 0, none⟩)]) rfl (enters_of Tryz.func338 (by kernel_rfl) rfl) Hit.out (fun _ => rfl) hlt4 (fun _ h => h.elim)
          (fun i Wi => ∃ v, Wi.heap[T]? = some (.cells #[v] 403 (0, 0)) ∧ Wi.ownsRow W.heap.size 266 5 v (N + i) (flatS (st' ++ ((y.l.reverse.map fun z => (d + 1, z)).take i))) ∧ (∀ k, v.ownBlock = some k → O2 k ∨ A3.heap.size ≤ k) ∧ Wi.heap[L]? = some (.cells #[.int .i64 y.kind, .int .i64 y.n, .string (bs y.s), y.v, .int .i64 d] 266 (0, 0)) ∧ v.ownBlock ≠ some L ∧ Wi.heap[A3.heap.size]? = some (.cells #[y.v] 109 (0, 0)) ∧ Own1 O2 A3 Wi ∧ A4.heap.size ≤ Wi.heap.size ∧ ∀ k, k < A3.heap.size → A3.heap[k]? = some (.deferred (some [])) → Wi.heap[k]? = some (.deferred (some [])))
          (fun c Wi => False) ?hI (fun _ _ _ h _ => h.elim) ?h0 ?ground ?gdone (fun _ _ _ _ h => h.elim)
        case hI =>
          rintro i A B ⟨v, h1, h2, h3, h4, h4b, h5, h6, h7, h8⟩ hs
          refine ⟨v, hs.heap h1, row_kept (fun k c m hk => hs.heap hk) h2, h3, hs.heap h4, h4b, hs.heap h5, ⟨hs.os.trans h6.os, hs.tape.trans h6.tape, hs.output.trans h6.output, Nat.le_trans h6.size hs.size, fun k hk hO => (hs.low k (by have := h6.size; omega) (by omega) id).trans (h6.block k hk hO)⟩, Nat.le_trans h7 hs.size, fun k hk h => (hs.low k (by omega) (by omega) id).trans (h8 k hk h)⟩
        case h0 =>
          refine ⟨_, var4, by simpa using row0.out, fun k hk => ?_, L4, ?_, box4, Own1.of_below hB4, Nat.le_refl _, fun k hk h => (hB4.block k hk).trans h⟩
          · obtain rfl : g = k := by simpa [Value.ownBlock] using hk
            rw [HO2.out]; exact .inl (.inl gO)
          · have := HL.out
            simp [Value.ownBlock]; omega
        case ground =>
          rintro lq i z Wi hl hz ⟨v, h1, h2, h3, h4, h4b, h5, h6, h7, h8⟩ hrec
          obtain ⟨hzr, hzm⟩ := backL_get hz
          have hone3 := hyl4 z.2 hzm
          have hst := fun (a : Addr) (w : World) => run_store Tryz.prog w a z.2.v .plain hone3
          have hWi : A4.heap.size < Wi.heap.size := by obtain ⟨r, hr⟩ := hrec; have := (Array.getElem?_eq_some_iff.1 hr).1; omega
          have hBn : ∀ o, Below Wi.heap.size Wi (Wi.alloc o) := fun o => (Below.refl _ Wi).alloc (Nat.le_refl _) o
          have hil : i < y.l.length := by have := (List.getElem?_eq_some_iff.1 hz).1; rw [backL_length] at this; exact this
          have Hzr := hide hzr
          clear Hit hrec hz hzr hzm
          simp only [backEnc]
          gi_wp2_with (apply wpListIn_store_new (ty := 133) (n := 4); (case hgd => exact rfl); (case ho => exact rfl); (case hd => exact rfl); (case hx => exact rfl); (case hw => exact rfl); (case hg => first | exact rfl | (simp; done)); (case hy => exact rfl); (case hi => kernel_rfl); (case hn0 => exact rfl); (case hn => exact rfl); (case h1 => first | exact rfl | assumption | (simp [Value.oneCell', *]; done) | (simp [*]; done)))
          refine ⟨(KeepsOthers.alloc _ _).from _, Keep.of_below (hBn _) (fun k hk => by have := hlt4 k hk; omega), fun W₂ hs hk hkr hsz hc hf => ?_⟩
          have b0 : W₂.cell? ⟨Wi.heap.size, 0, none⟩ = some (.int .i64 z.2.kind) := (hc _).trans (by simp)
          have b1 : W₂.cell? ⟨Wi.heap.size, 1, none⟩ = some (.int .i64 z.2.n) := (hc _).trans (by simp)
          have b2 : W₂.cell? ⟨Wi.heap.size, 2, none⟩ = some (.string (bs z.2.s)) := (hc _).trans (by simp)
          have b3 : W₂.cell? ⟨Wi.heap.size, 3, none⟩ = some z.2.v := (hc _).trans (by simp)
          replace h1 := hs.heap (heapKept h1 (hBn _))
          replace h2 := row_kept (fun k c m hk => hs.heap (heapKept hk (hBn _))) h2
          replace h4 := hs.heap (heapKept h4 (hBn _))
          replace h5 := hs.heap (heapKept h5 (hBn _))
          replace h6 : Own1 O2 A3 W₂ := ⟨hs.os.trans ((hBn _).os.trans h6.os), hs.tape.trans ((hBn _).tape.trans h6.tape), hs.output.trans ((hBn _).output.trans h6.output), Nat.le_trans h6.size (Nat.le_trans (hBn _).size hs.size), fun k hk hO => (hs.low k (by have := h6.size; simp; omega) (by omega) id).trans (((hBn _).block k (by have := h6.size; omega)).trans (h6.block k hk hO))⟩
          replace h8 : ∀ k, k < A3.heap.size → A3.heap[k]? = some (.deferred (some [])) → W₂.heap[k]? = some (.deferred (some [])) := fun k hk h => (hs.low k (by simp; omega) (by omega) id).trans (((hBn _).block k (by omega)).trans (h8 k hk h))
          have H8 := hide h8
          clear h8
          simp at hsz
          have k1 := cellsOf h1 0
          have k4 := cellsOf h4 4
          simp only [List.getElem?_toArray, List.getElem?_cons_succ, List.getElem?_cons_zero] at k1 k4
          clear hs hk hkr hc hf hBn
          obtain ⟨i0, hi0, hz0, hz1, hz2⟩ := info_parts infoAns
          have hTv : some T ≠ v.ownBlock := row_noncell h2 h1 (by intro c m e; cases e)
          have hN9 : N + i + 1 ≤ 4000000 := by omega
          have hm1 : N + i + 1 ≤ maxLen := by unfold maxLen; omega
          have hm2 : (N + i + 1) * 64 ≤ 140737488355328 := by omega
          have hbase2 : W.heap.size ≤ W₂.heap.size + 1 := by have := HI.out.keep.size; have := HI3.out.2.2.2.2.2; have := HF.out.2.2.2.2.2.1; omega
          have H2 := hide h2
          have H1 := hide h1
          have HX := hide (And.intro h3 (And.intro h4 (And.intro h4b (And.intro h5 h6))))
          have hTl2 : T < W₂.heap.size := (Array.getElem?_eq_some_iff.1 h1).1
          clear h2 h1 h3 h4 h4b h5 h6
          have hnew : (W₂.alloc (.cells #[.int .i64 z.2.kind, .int .i64 z.2.n, .string (bs z.2.s), z.2.v, .int .i64 ((d : Int) + 1)] 266)).heap[Wi.heap.size + 1]? = some (.cells #[.int .i64 z.2.kind, .int .i64 z.2.n, .string (bs z.2.s), z.2.v, .int .i64 ((d : Int) + 1)] 266 (0, 0)) := by rw [← hsz]; exact World.alloc_heap_new W₂ _
          gi_wp2_with (gi_at_builtin; refine wpListIn_append_own_at _ rfl _ _ 403 rfl W.heap.size 266 i0 _ 5 64 Tryz.underlying403 hi0 hz0 hz1 hz2 rfl (by decide) v (N + i) _ rfl (H2.out.alloc _) ⟨Wi.heap.size + 1, 0, none⟩ 1 1 [.int .i64 z.2.kind, .int .i64 z.2.n, .string (bs z.2.s), z.2.v, .int .i64 ((d : Int) + 1)] rfl rfl (World.news_of_block (cs := #[.int .i64 z.2.kind, .int .i64 z.2.n, .string (bs z.2.s), z.2.v, .int .i64 ((d : Int) + 1)]) (t := 266) (fr := (0, 0)) hnew) (by simp [Value.oneCell']; exact hone3) hm1 hm2 (by simp; omega) ?_; intro v' w1 hown' hgrow _ hat'; obtain ⟨g', cap', rfl⟩ := ownsRow_succ hown'; have hT1 := (hgrow.block T (by simp; omega) hTv).trans ((Below.heap_alloc W₂ _ T hTl2).trans H1.out); have cT1 := cellsOf hT1 0; simp only [List.getElem?_toArray, List.getElem?_cons_zero] at cT1; have fT1 : w1.frozen? ⟨T, 0, none⟩ = false := by simp [World.frozen?, hT1])
          obtain ⟨v', hv'⟩ : ∃ v', v' = Value.slice (some ⟨g', 0, none⟩) (N + i + 1) cap' := ⟨_, rfl⟩
          rw [← hv'] at hown' hat' ⊢
          clear hv'
          obtain ⟨W3, hW3⟩ : ∃ W3, W3 = w1.setCell ⟨T, 0, none⟩ v' := ⟨_, rfl⟩
          rw [← hW3]
          have z1 := hgrow.size
          simp at z1
          have z3 : W3.heap.size = w1.heap.size := by rw [hW3, size_setCell]
          have hoth : ∀ k, k < W₂.heap.size → k ≠ T → some k ≠ v.ownBlock → W3.heap[k]? = W₂.heap[k]? := fun k q1 q2 q3 => by
            rw [hW3]
            exact (heap_setCell_ne q2).trans ((hgrow.block k (by simp; omega) q3).trans (Below.heap_alloc W₂ _ k q1))
          have hT3 : W3.heap[T]? = some (.cells #[v'] 403 (0, 0)) := by
            rw [hW3]; exact heap_setCell_same ((hgrow.block T (by simp; omega) hTv).trans ((Below.heap_alloc W₂ _ T hTl2).trans H1.out))
          have hvT : v'.ownBlock ≠ some T := by
            intro e
            exact row_noncell hown' ((hgrow.block T (by simp; omega) hTv).trans ((Below.heap_alloc W₂ _ T hTl2).trans H1.out)) (by intro c m e; cases e) e.symm
          have hrow3 : W3.ownsRow W.heap.size 266 5 v' (N + (i + 1)) (flatS (st' ++ ((y.l.reverse.map fun z => (d + 1, z)).take (i + 1)))) := by
            have e1 : flatS (st' ++ ((y.l.reverse.map fun z => (d + 1, z)).take (i + 1))) = flatS (st' ++ ((y.l.reverse.map fun z => (d + 1, z)).take i)) ++ [.int .i64 z.2.kind, .int .i64 z.2.n, .string (bs z.2.s), z.2.v, .int .i64 ((d : Int) + 1)] := by
              rw [List.take_add_one, List.getElem?_map, Hzr.out]
              rw [← List.append_assoc, flatS_append]
              simp [flatS]
            rw [e1, ← Nat.add_assoc]
            refine row_kept (W := w1) (fun k c m hk => ?_) hown'
            rw [hW3]
            refine (heap_setCell_ne ?_).trans hk
            rintro rfl
            have := (hgrow.block k (by simp; omega) hTv).trans ((Below.heap_alloc W₂ _ k hTl2).trans H1.out)
            rw [hk] at this; cases this
          obtain ⟨h3, h4, h4b, h5, h6⟩ := HX.out
          have hLT : L ≠ T := by
            rintro rfl
            rw [H1.out] at h4; cases h4
          have hLv : some L ≠ v.ownBlock := fun e => h4b e.symm
          have h4l := (Array.getElem?_eq_some_iff.1 h4).1
          have h5l := (Array.getElem?_eq_some_iff.1 h5).1
          have h5T : A3.heap.size ≠ T := by
            have := (Array.getElem?_eq_some_iff.1 HI3.out.1).1
            omega
          have h5v : some A3.heap.size ≠ v.ownBlock := row_noncell H2.out h5 (by intro c m e; cases e)
          have hL2 := hoth L h4l hLT hLv
          have hO2 : ∀ k, O2 k → W.heap.size ≤ k ∧ k < A2.heap.size := fun k hk => by
            rw [HO2.out] at hk
            exact HF.out.2.2.2.1.lt k hk
          have hvW : ∀ k, v.ownBlock = some k → W.heap.size ≤ k := fun k hk => by
            rcases h3 k hk with h | h
            · exact (hO2 k h).1
            · have := HI.out.keep.size; have := HI3.out.2.2.2.2.2; have := HF.out.2.2.2.2.2.1; omega
          have hTW : W.heap.size ≤ T := by have := HT.out; omega
          refine ⟨⟨by rw [z3]; omega, fun k o q1 hk q3 => ?_⟩, ⟨by rw [z3]; omega, fun k hk => ?_⟩, v', hT3, hrow3, fun k hk => ?_, hL2.trans h4, ?_, (hoth _ h5l h5T h5v).trans h5, ⟨?_, ?_, ?_, ?_, fun k hk hO => ?_⟩, ?_, fun k hk h => ?_⟩
          · refine (hoth k (Array.getElem?_eq_some_iff.1 hk).1 ?_ ?_).trans hk
            · rintro rfl
              rw [H1.out] at hk; cases hk; cases q3
            · exact row_noncell H2.out hk (by rintro c m rfl; cases q3)
          · rcases hk with hk | rfl
            · refine hoth k (by have := R34 k hk; have := h6.size; omega) ?_ ?_
              · rintro rfl
                have := hRlt k hk; have := hW.size; omega
              · intro e
                have := hvW k e.symm
                have := hRlt k hk; have := hW.size; omega
            · exact hoth _ h5l h5T h5v
          · rcases hat' with h | h
            · rw [h] at hk; exact h3 k hk
            · rw [h] at hk
              right
              have := h6.size
              simp at hk
              omega
          · rcases hat' with h | h
            · rw [h]; exact h4b
            · rw [h]
              intro e
              simp at e
              omega
          · rw [hW3]; exact hgrow.os.trans h6.os
          · rw [hW3]; exact hgrow.tape.trans h6.tape
          · rw [hW3]; exact hgrow.output.trans h6.output
          · have := h6.size; omega
          · refine (hoth k (by have := h6.size; omega) ?_ ?_).trans (h6.block k hk hO)
            · rintro rfl
              exact hO (by rw [HO2.out]; exact .inl TO)
            · intro e
              rcases h3 k e.symm with h | h
              · exact hO h
              · omega
          · omega
          · have h9 := H8.out k hk h
            refine (hoth k (Array.getElem?_eq_some_iff.1 h9).1 ?_ (row_noncell H2.out h9 (by intro c m e; cases e))).trans h9
            rintro rfl
            rw [H1.out] at h9; cases h9
        case gdone =>
          rintro D Wd hD ⟨v, h1, h2, h3, h4, h4b, h5, h6, h7, h8⟩ hKD
          clear Hit
          have I := HI.out
          have hstk : (y.l.reverse.map fun z => (d + 1, z)).take (backL y.l).length = y.l.reverse.map fun z => (d + 1, z) := List.take_of_length_le (by simp [backL_length])
          rw [hstk] at h2
          have hpop := outS_pop st' d y
          have hcnt := countS_pop st' d y
          have hDl := (Array.getElem?_eq_some_iff.1 hKD).1
          have hO2 : ∀ k, O2 k → W.heap.size ≤ k ∧ k < A2.heap.size := fun k hk => by
            rw [HO2.out] at hk
            exact HF.out.2.2.2.1.lt k hk
          have z23 := HI3.out.2.2.2.2.2
          have hWA : W.heap.size ≤ A3.heap.size := by have := I.keep.size; have := HF.out.2.2.2.2.2.1; omega
          have hkR : ∀ k, R k → Wd.heap[k]? = A3.heap[k]? := fun k hk => h6.block k (R34 k hk) (fun h => by
            have := hO2 k h; have := hRlt k hk; have := hW.size; omega)
          have keepd : Keep R W Wd := HI3.out.2.2.2.1.trans ⟨h6.size, hkR⟩
          have keepwr : Keep R wr Wd := ⟨by have := HF.out.2.2.2.2.2.1; have := h6.size; omega, fun k hk => (keepd.block k hk).trans (I.keep.block k hk).symm⟩
          have hj1 : j + 1 ≤ (preT 1 x).length := by
            have h9 := congrArg List.length I.out
            rw [hpop] at h9
            simp only [List.length_drop, List.length_cons] at h9
            omega
          refine Exists.intro (countS (st' ++ y.l.reverse.map fun z => (d + 1, z))) ?_
          refine And.intro (by have := I.cnt; omega) ?_
          (repeat apply Exists.intro)
          refine ⟨⟨fun k => O2 k ∨ (A3.heap.size ≤ k ∧ k < Wd.heap.size), j + 1, st' ++ y.l.reverse.map fun z => (d + 1, z), v, ?inv⟩, rfl⟩
          case inv =>
            refine ⟨rfl, ?_, hj1, ?_, keepd, fun k hk => ?_, .inl (by rw [HO2.out]; exact .inl TO), h1, ?_, fun k hk => ?_, fun p hp => ?_, fun p hp => ?_, by have := I.sum; omega, ?_⟩
            · rw [← List.tail_drop, I.out, hpop]; rfl
            · exact HJ.out O2 _ (j + 1) A3 Wd hJ3 ⟨h6, fun _ h => .inl h, fun k h => h.imp id (fun h => h.1), fun k hk => by
                rcases hk with hk | hk
                · have := hO2 k hk; have := h6.size; omega
                · omega⟩
            · rcases hk with hk | hk
              · have := hO2 k hk; have := h6.size; omega
              · omega
            · have e1 : (st' ++ y.l.reverse.map fun z => (d + 1, z)).length = N + (backL y.l).length := by simp [backL_length, HN.out]
              rw [e1]; exact h2
            · rcases h3 k hk with h | h
              · exact .inl h
              · refine .inr ⟨h, ?_⟩
                rcases h2.2 with ⟨rfl, _⟩ | ⟨g', cap', cur, rfl, _, hg', _⟩
                · cases hk
                · obtain rfl : g' = k := by simpa [Value.ownBlock] using hk
                  exact (Array.getElem?_eq_some_iff.1 hg').1
            · rcases List.mem_append.1 hp with hp | hp
              · exact (I.at_ p (by simp [hp])).keep keepwr
              · obtain ⟨z, hz, rfl⟩ := List.mem_map.1 hp
                exact (HY3.out.2.2 z (List.mem_reverse.1 hz)).keep keepwr
            · rcases List.mem_append.1 hp with hp | hp
              · exact I.dep p (by simp [hp])
              · obtain ⟨z, hz, rfl⟩ := List.mem_map.1 hp
                have h10 := count_le (List.mem_reverse.1 hz)
                have h11 : d + y.count ≤ K := I.dep (d, y) (by simp)
                have h12 := count_eq y
                show d + 1 + z.count ≤ K
                omega
            · refine .cons D _ ds hDl (.inr ⟨by omega, hDl⟩) hKD ?_
              refine HI3.out.2.2.2.2.1.keep (fun k h => .inl (by rw [HO2.out]; exact h)) (by omega) (fun k _ hk h => h8 k hk h)
      · gi_wp2
        try simp only [Exit.noGoto]
        have I := HI.out
        obtain ⟨var2, L2, row2, own2, keep2, z2, o2⟩ := HF.out
        have z3 := hk3.size
        have M3 : Marks (fun k => O k ∨ k = wr.heap.size) A3 ds A3.heap.size := I.marks.keep (fun k h => .inl h) (by omega) fun k hO hk1 hk2 => hk3.same k _ (I.own k hO).1 ((o2 k hk1 (by rintro rfl; rw [I.var] at hk2; cases hk2)).trans hk2) rfl
        refine marks_leave (O := fun k => O k ∨ k = wr.heap.size) (fun W' => Jx (fun k => O k ∨ k = wr.heap.size) W' ∧ A3.heap.size ≤ W'.heap.size) (fun A B hA h1 h2 h3 h4 h5 => ⟨HJx.out _ _ A B hA.1 ⟨⟨h2, h3, h4, Nat.le_of_eq h5, fun k hk hO => h1 k hk hO⟩, fun _ h => h, fun _ h => .inl h, fun k hk => ?_⟩, by rw [← h5]; exact hA.2⟩) rfl (fun v' W' h => ⟨⟨v', rfl⟩, .inr ⟨_, h.1⟩⟩) M3 ⟨hJx3, Nat.le_refl _⟩
        have h6 := hA.2
        have h7 := own2.lt k hk
        omega
end Go.Proofs.YtllfaffbaijgfaaGreatDoor
