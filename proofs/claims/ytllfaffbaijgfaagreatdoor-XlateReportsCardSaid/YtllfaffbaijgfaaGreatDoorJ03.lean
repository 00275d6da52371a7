/- eid.Right: is a name right? A region that draws its order, walked by assertions: each of its first n operations, in whatever world and order, leaves a value of which V holds; the others come last, in one forced order. No program text. -/
import Derived.Test.YtllfaffbaijgfaaGreatDoorJ02
import Derived.Deep.RegionHeld3
import Derived.Deep.RegionWith
set_option linter.unusedVariables false
set_option linter.unusedSimpArgs false
namespace Go.Proofs.YtllfaffbaijgfaaGreatDoor
open Go Go.RowKit Go.Shelf Go.BigFrame

theorem areAllB_calls (l : List Bool) (blk off cap n : Nat) (w : World) (hn : n = l.length) (hlen : l.length ≤ 1000) (h : CellsAt w blk off (l.map Value.bool)) :
    Calls Tryz.prog 280 #[.slice (some ⟨blk, off, none⟩) n cap] w (Pu w (.bool (l.all id))) := by
  have Hn := hide hn
  have hn' : n ≤ 1000 := by omega
  clear hn hlen
  have H := hide h
  clear h
  go_enter Tryz.func280, Tryz.ntmps280
  go_wp2
  go_loop [7] (fun k => ∃ i : Nat, i ≤ n ∧ k = .int .i64 i ∧ Hid (∀ (j : Nat) (x : Bool), j < i → l[j]? = some x → x = true)) (fun k => n - (intOf k).toNat)
  case atStart => exact ⟨0, Nat.zero_le _, rfl, hide (fun j x h => absurd h (Nat.not_lt_zero _))⟩
  case round =>
    obtain ⟨i, hi, rfl, hj⟩ := hrel
    by_cases hlt : i < n
    · obtain ⟨b, hx⟩ : ∃ x, l[i]? = some x := ⟨_, List.getElem?_eq_getElem (by rw [← Hn.out]; exact hlt)⟩
      have h1 := H.out.map i b hx
      have Hx := hide hx
      clear hx
      cases b
      · go_wp2
        go_ret
        refine ⟨?_, rfl⟩
        rw [all_false Hx.out rfl]
        rfl
      · go_wp2
        go_round
        case rel =>
          refine ⟨i + 1, by omega, by go_num, hide ?_⟩
          intro j x h hx
          rcases Nat.lt_succ_iff_lt_or_eq.1 h with h | rfl
          · exact hj.out j x h hx
          · rw [Hx.out] at hx; cases hx; rfl
        case measure => simp [intOf]; omega
    · go_wp2
      go_ret
      refine ⟨?_, rfl⟩
      rw [all_true_of (l := l) (p := id) (fun j hj' x hx => hj.out j x (by rw [← Hn.out] at hj'; omega) hx)]
      rfl

def ipnR (e : Eid) : Bool := decide (e.node = []) && decide (e.service = []) && decide (1 ≤ e.a) && decide (e.a ≤ 999999999) && decide (0 ≤ e.b) && decide (e.b ≤ 999999999)
def dtnR (e : Eid) : Bool := decide (e.node ≠ []) && isPart [45, 46] e.node && isPart [45, 46, 47] e.service && decide (e.a = 0) && decide (e.b = 0)

theorem bs_empty : bs [] = ⟨#[]⟩ := rfl
theorem bs_isEmpty (l : List UInt8) : (bs l).data.toList.isEmpty = l.isEmpty := by rw [bs_toList]

theorem toList_isEmpty (l : List UInt8) : (bs l).toList.isEmpty = decide (l = []) := by
  have : (bs l).toList = l := by simp [bs]
  rw [this]
  cases l <;> simp

theorem isIpn_calls (e : Eid) (w : World) : Calls Tryz.prog 212 #[.agg #[.int .i64 e.scheme, .string (bs e.node), .string (bs e.service), .int .i64 e.a, .int .i64 e.b]] w (Rt w (.bool (ipnR e))) := by
  go_enter Tryz.func212, Tryz.ntmps212
  go_wp2_with fail
  refine (areAllB_calls [(bs e.node).toList.isEmpty, (bs e.service).toList.isEmpty, decide (1 ≤ e.a), decide (e.a ≤ 999999999), decide (0 ≤ e.b), decide (e.b ≤ 999999999)] _ _ _ _ _ rfl (by simp) ?h2).mono ?h3
  case h2 => simp [CellsAt]
  case h3 =>
    rintro e1 w1 ⟨rfl, rfl⟩
    go_wp2
    go_ret
    refine ⟨?_, by ((repeat' (first | exact Below.refl _ _ | assumption | (refine Below.drew ?_) | (refine Below.alloc ?_ ?_ _) | (refine Below.setCell ?_ ?_ _) | (refine Below.step (W := ?hW) ?hq ?_ ?_; case hq => assumption))) <;> (first | (simp; done) | (simp; omega) | (simp at *; omega)))⟩
    simp [ipnR, toList_isEmpty, Bool.and_assoc]

theorem isPart2_calls (l : List UInt8) (w : World) (hlen : l.length ≤ 9000000000000000000) : Calls Tryz.prog 281 #[.string (bs l), .string { data := #[45, 46] }] w (Rt w (.bool (isPart [45, 46] l))) :=
  isPart_calls [45, 46] l w (ascii_of (by decide)) hlen
theorem isPart3_calls (l : List UInt8) (w : World) (hlen : l.length ≤ 9000000000000000000) : Calls Tryz.prog 281 #[.string (bs l), .string { data := #[45, 46, 47] }] w (Rt w (.bool (isPart [45, 46, 47] l))) :=
  isPart_calls [45, 46, 47] l w (ascii_of (by decide)) hlen

set_option maxRecDepth 100000 in
set_option maxHeartbeats 1000000 in
theorem isDtn_calls (e : Eid) (w : World) (h1 : e.node.length ≤ 9000000000000000000) (h2 : e.service.length ≤ 9000000000000000000) : Calls Tryz.prog 209 #[.agg #[.int .i64 e.scheme, .string (bs e.node), .string (bs e.service), .int .i64 e.a, .int .i64 e.b]] w (Rt w (.bool (dtnR e))) := by
  go_enter Tryz.func209, Tryz.ntmps209
  go_wp2_with fail
  have hn : w.heap.size + 1 ≤ (w.alloc (.cells #[.int .i64 e.scheme, .string (bs e.node), .string (bs e.service), .int .i64 e.a, .int .i64 e.b] 29)).heap.size := by simp
  obtain ⟨W0, hW0⟩ : ∃ W0, w.alloc (.cells #[.int .i64 e.scheme, .string (bs e.node), .string (bs e.service), .int .i64 e.a, .int .i64 e.b] 29) = W0 := ⟨_, rfl⟩
  have c1 := Ext.cell (n := w.heap.size + 1) (w := W0) (b := w.heap.size) (o := 1) (v := .string (bs e.node)) (by omega) (by rw [← hW0]; simp)
  have c2 := Ext.cell (n := w.heap.size + 1) (w := W0) (b := w.heap.size) (o := 2) (v := .string (bs e.service)) (by omega) (by rw [← hW0]; simp)
  have c3 := Ext.cell (n := w.heap.size + 1) (w := W0) (b := w.heap.size) (o := 3) (v := .int .i64 e.a) (by omega) (by rw [← hW0]; simp)
  have c4 := Ext.cell (n := w.heap.size + 1) (w := W0) (b := w.heap.size) (o := 4) (v := .int .i64 e.b) (by omega) (by rw [← hW0]; simp)
  have hz0 : w.heap.size + 1 ≤ W0.heap.size := by rw [← hW0]; exact hn
  have hB0 : Below w.heap.size w W0 := by rw [← hW0]; exact (Below.refl _ w).alloc (Nat.le_refl _) _
  rw [hW0]
  clear hn hW0
  refine wp_region_tail (C := fun W => ∃ x : Ext (w.heap.size + 1) (W0), W = x.1) 15 (by kernel_rfl) (by kernel_rfl) (inExt_drew _ _) ?_
  simp only [List.take_succ_cons, List.take_zero, List.drop_succ_cons, List.drop_zero]
  repeat (go_big_quiet_step (first | (go_at_call 281; with_reducible exact Ext.call _ hz0 (isPart2_calls _ _ h1)) | (go_at_call 281; with_reducible exact Ext.call _ hz0 (isPart3_calls _ _ h2))))
  refine wpQuiet_nil ?_
  intro w_ hw_
  obtain ⟨⟨w_, hb_⟩, rfl⟩ := hw_
  go_wp2_with fail
  refine (areAllB_calls [!(bs e.node).toList.isEmpty, isPart [45, 46] e.node, isPart [45, 46, 47] e.service, e.a == 0, e.b == 0] _ _ _ _ _ rfl (by simp) ?h2).mono ?h3
  case h2 => simp [CellsAt]
  case h3 =>
    rintro e1 w1 ⟨rfl, rfl⟩
    have hB1 := hB0.trans (hb_.mono (Nat.le_succ _))
    have hz1 := hb_.size
    go_wp2
    go_ret
    refine ⟨?_, hB1.alloc (by omega) _⟩
    simp [dtnR, toList_isEmpty, Bool.and_assoc]
    rfl

/-! the table of schemes -/
def schemeV (word : List UInt8) (f g h : FuncId) : Value := .agg #[.string (bs word), .func (.func f) #[] #[], .func (.func g) #[] #[], .func (.func h) #[] #[]]
def schemeEs : Array MapEntry := #[
  { key := intKey 0, val := .agg #[.string { data := #[100, 116, 110] }, .func (.func 206) #[] #[], .func (.func 207) #[] #[], .func (.func 208) #[] #[]], born := 0 },
  { key := intKey 1, val := .agg #[.string { data := #[100, 116, 110] }, .func (.func 209) #[] #[], .func (.func 210) #[] #[], .func (.func 211) #[] #[]], born := 1 },
  { key := intKey 2, val := .agg #[.string { data := #[105, 112, 110] }, .func (.func 212) #[] #[], .func (.func 213) #[] #[], .func (.func 215) #[] #[]], born := 2 }]
/-- what schemes() answers: a new map, written out -/
def SchemesPost (w : World) (e : Ending) (w' : World) : Prop := e = .returned (.map (some w.heap.size)) ∧ Below w.heap.size w w' ∧ w.heap.size < w'.heap.size ∧ w'.heap[w.heap.size]? = some (.map schemeEs 3)

theorem intKeys_nil : IntKeys [] := fun e h => by cases h
theorem intKeys_cons {e : MapEntry} {l : List MapEntry} (h : ∃ n, e.key = intKey n) (k : IntKeys l) : IntKeys (e :: l) := fun x hx => by
  rcases List.mem_cons.1 hx with rfl | hx
  · exact h
  · exact k x hx

theorem schemes_calls (w : World) : Calls Tryz.prog 145 #[] w (SchemesPost w) := by
  have hmm := @run_makeMap Tryz.prog
  have h0 : (w.alloc (.map #[] 0)).heap[w.heap.size]? = some (.map #[] 0) := World.alloc_heap_new w _
  have hl0 : w.heap.size < (w.alloc (.map #[] 0)).heap.size := by simp
  have u1 := run_mapUpdate_new (P := Tryz.prog) Tryz.underlying187 Tryz.underlying3 h0 0 (.agg #[.string { data := #[100, 116, 110] }, .func (.func 206) #[] #[], .func (.func 207) #[] #[], .func (.func 208) #[] #[]]) intKeys_nil rfl
  have h1 := World.putObj_heap_same (o := .map (#[].push { key := intKey 0, val := .agg #[.string { data := #[100, 116, 110] }, .func (.func 206) #[] #[], .func (.func 207) #[] #[], .func (.func 208) #[] #[]], born := 0 }) (0 + 1)) hl0
  obtain ⟨W1, hW1⟩ : ∃ W1, (w.alloc (.map #[] 0)).putObj w.heap.size (.map (#[].push { key := intKey 0, val := .agg #[.string { data := #[100, 116, 110] }, .func (.func 206) #[] #[], .func (.func 207) #[] #[], .func (.func 208) #[] #[]], born := 0 }) (0 + 1)) = W1 := ⟨_, rfl⟩
  rw [hW1] at u1 h1
  have hl1 : w.heap.size < W1.heap.size := by rw [← hW1]; simp
  have hB1 : Below w.heap.size w W1 := by rw [← hW1]; exact below_putObj ((Below.refl _ w).alloc (Nat.le_refl _) _) (Nat.le_refl _) _
  clear hW1
  have u2 := run_mapUpdate_new (P := Tryz.prog) Tryz.underlying187 Tryz.underlying3 h1 1 (.agg #[.string { data := #[100, 116, 110] }, .func (.func 209) #[] #[], .func (.func 210) #[] #[], .func (.func 211) #[] #[]]) (intKeys_cons ⟨0, rfl⟩ intKeys_nil) rfl
  have h2 : (W1.putObj w.heap.size (.map (schemeEs.extract 0 2) 2)).heap[w.heap.size]? = some (.map (schemeEs.extract 0 2) 2) := World.putObj_heap_same hl1
  replace u2 : _ = Result.ok () (W1.putObj w.heap.size (.map (schemeEs.extract 0 2) 2)) := u2
  obtain ⟨W2, hW2⟩ : ∃ W2, W1.putObj w.heap.size (.map (schemeEs.extract 0 2) 2) = W2 := ⟨_, rfl⟩
  rw [hW2] at u2 h2
  have hl2 : w.heap.size < W2.heap.size := by rw [← hW2]; simpa using hl1
  have hB2 : Below w.heap.size w W2 := by rw [← hW2]; exact below_putObj hB1 (Nat.le_refl _) _
  clear hW2
  have u3 := run_mapUpdate_new (P := Tryz.prog) Tryz.underlying187 Tryz.underlying3 h2 2 (.agg #[.string { data := #[105, 112, 110] }, .func (.func 212) #[] #[], .func (.func 213) #[] #[], .func (.func 215) #[] #[]]) (intKeys_cons ⟨0, rfl⟩ (intKeys_cons ⟨1, rfl⟩ intKeys_nil)) rfl
  have h3 : (W2.putObj w.heap.size (.map schemeEs 3)).heap[w.heap.size]? = some (.map schemeEs 3) := World.putObj_heap_same hl2
  replace u3 : _ = Result.ok () (W2.putObj w.heap.size (.map schemeEs 3)) := u3
  obtain ⟨W3, hW3⟩ : ∃ W3, W2.putObj w.heap.size (.map schemeEs 3) = W3 := ⟨_, rfl⟩
  rw [hW3] at u3 h3
  have hl3 : w.heap.size < W3.heap.size := by rw [← hW3]; simpa using hl2
  have hB3 : Below w.heap.size w W3 := by rw [← hW3]; exact below_putObj hB2 (Nat.le_refl _) _
  clear hW3
  go_enter Tryz.func145, Tryz.ntmps145
  go_wp2
  go_ret
  exact ⟨rfl, hB3, hl3, h3⟩
end Go.Proofs.YtllfaffbaijgfaaGreatDoor

namespace Go.Proofs.YtllfaffbaijgfaaGreatDoor
open Go Go.RowKit

section
variable {P : Program} {ops : Array Oper} {md : Region.Mode}

/-- all head operations are listed, no other -/
def headFull (ops : Array Oper) (n : Nat) : Array Bool := (List.ofFn (n := ops.size) fun i => decide (i.1 < n)).toArray

def edgesBack (ops : Array Oper) : Bool := (List.range ops.size).all fun i => match ops[i]? with | some o => o.after.all fun e => !Region.binds .any e || decide (e.on < i) | none => true
def dstsApart (ops : Array Oper) (n k : Nat) : Bool :=
  (List.range n).all fun i => (List.range n).all fun j => match ops[i]?, ops[j]? with
    | some a, some b => match a.dst, b.dst with
      | some s, some t => (decide (i = j) || decide (s ≠ t)) && decide (s < k)
      | some s, none => decide (s < k)
      | _, _ => true
    | _, _ => true

def predB (ops : Array Oper) (n k : Nat) : Bool :=
  decide (n < ops.size) && Region.sinkB .any ops n && Region.chainB .any ops n && edgesBack ops && dstsApart ops n k && Region.seqB .any ops (ops.size - n) n (headFull ops n)

/-- what operation o reads: the values of the operations on which it waits -/
def seen (ops : Array Oper) (o : Oper) (f : Tmp → Value) (k : Nat) : Value :=
  if (o.after.any fun e => Region.binds .any e && decide (e.on = k)) = true then (match (ops[k]?).bind (·.dst) with | some t => f t | none => undef) else undef
/-- what operation o leaves in its slot -/
def own (o : Oper) (f : Tmp → Value) : Value := match o.dst with | some t => f t | none => undef

structure PInv (C : World → Prop) (V : Nat → Value → (Nat → Value) → World → Prop) (ops : Array Oper) (n : Nat) (a0 : Act) (listed : Array Bool) (a : Act) (w : World) : Prop where
  cls : C w
  size : a.tmps.size = a0.tmps.size
  defers : a.defers = a0.defers
  old : ∀ t, (∀ j oj, j < n → ops[j]? = some oj → listed.getD j false = true → oj.dst ≠ some t) → a.tmps.getD t undef = a0.tmps.getD t undef
  deps : ∀ j oj, j < n → ops[j]? = some oj → listed.getD j false = true → ∀ e ∈ oj.after, Region.binds .any e = true → listed.getD e.on false = true
  val : ∀ j oj, j < n → ops[j]? = some oj → listed.getD j false = true → V j (own oj fun t => a.tmps.getD t undef) (seen ops oj fun t => a.tmps.getD t undef) w

theorem countP_set (p p' : Nat → Bool) (i : Nat) (h : ∀ k, k ≠ i → p k = p' k) (h1 : p i = true) (h2 : p' i = false) : ∀ n, i < n → (List.range n).countP p = (List.range n).countP p' + 1 := by
  have lem : ∀ n, n ≤ i → (List.range n).countP p = (List.range n).countP p' := fun n hn => by
    apply List.countP_congr
    intro x hx
    have := List.mem_range.1 hx
    rw [h x (by omega)]
  intro n
  induction n with
  | zero => intro h; omega
  | succ n ih =>
    intro hi
    rw [List.range_succ, List.countP_append, List.countP_append]
    by_cases e : i = n
    · subst e
      rw [lem i (Nat.le_refl _)]
      simp [h1, h2]
    · rw [ih (by omega)]
      have : p n = p' n := h n (fun e' => e e'.symm)
      simp [List.countP_cons, this]
      omega

theorem getD_put_ne {a : Act} {d : Option Tmp} {v : Value} {t : Tmp} (h : d ≠ some t) : (a.put d v).tmps.getD t undef = a.tmps.getD t undef := by
  cases d with
  | none => rfl
  | some s =>
    have hne : s ≠ t := fun e => h (by rw [e])
    simp [Act.put, Array.getElem?_setIfInBounds_ne hne]
theorem getD_put_same {a : Act} {v : Value} {t : Tmp} (h : t < a.tmps.size) : (a.put (some t) v).tmps.getD t undef = v := by simp [Act.put, h]
theorem size_put (a : Act) (d : Option Tmp) (v : Value) : (a.put d v).tmps.size = a.tmps.size := by cases d <;> simp [Act.put]
theorem defers_put (a : Act) (d : Option Tmp) (v : Value) : (a.put d v).defers = a.defers := by cases d <;> rfl

/-- what an operation of the head is told, and owes -/
def Owes (P : Program) (Q : Exit → Act → World → Prop) (C : World → Prop) (T : World → World → Prop) (V : Nat → Value → (Nat → Value) → World → Prop) (ops : Array Oper) (n : Nat) (a0 : Act) (i : Nat) : Prop :=
  ∀ o, ops[i]? = some o → ∀ (a : Act) (w : World), C w → a.tmps.size = a0.tmps.size → a.defers = a0.defers →
    (∀ t, (∀ j oj, j < n → ops[j]? = some oj → oj.dst ≠ some t) → a.tmps.getD t undef = a0.tmps.getD t undef) →
    (∀ j oj, j < n → ops[j]? = some oj → (∃ e ∈ o.after, Region.binds .any e = true ∧ e.on = j) → V j (own oj fun t => a.tmps.getD t undef) (seen ops oj fun t => a.tmps.getD t undef) w) →
    if Region.wanted o (yielded ops a.tmps) then o.wp P a w (fun a' w' => ∃ v, a' = a.put o.dst v ∧ T w w' ∧ V i (if o.dst.isSome then v else undef) (seen ops o fun t => a.tmps.getD t undef) w') Q
    else V i undef (seen ops o fun t => a.tmps.getD t undef) w

/-- slot t is written by no operation of the head -/
def notDst (ops : Array Oper) (n t : Nat) : Bool := (List.range n).all fun j => decide (((ops[j]?).bind (·.dst)) ≠ some t)
/-- slot t is operation j's, on which operation o waits -/
def depB (ops : Array Oper) (n : Nat) (o : Oper) (j t : Nat) : Bool :=
  decide (j < n) && decide (((ops[j]?).bind (·.dst)) = some t) && o.after.any fun e => Region.binds .any e && decide (e.on = j)

theorem notDst_spec {n t : Nat} (h : notDst ops n t = true) (j : Nat) (oj : Oper) (hj : j < n) (ho : ops[j]? = some oj) : oj.dst ≠ some t := by
  have h1 := List.all_eq_true.1 h j (List.mem_range.2 hj)
  simpa [ho] using h1
theorem depB_spec {n j t : Nat} {o : Oper} (h : depB ops n o j t = true) : j < n ∧ (∃ oj, ops[j]? = some oj ∧ oj.dst = some t) ∧ ∃ e ∈ o.after, Region.binds .any e = true ∧ e.on = j := by
  simp only [depB, Bool.and_eq_true, decide_eq_true_eq] at h
  obtain ⟨⟨h1, h2⟩, h3⟩ := h
  refine ⟨h1, ?_, ?_⟩
  · cases ho : ops[j]? with
    | none => simp [ho] at h2
    | some oj => exact ⟨oj, rfl, by simpa [ho] using h2⟩
  · obtain ⟨e, he, hb⟩ := Array.any_eq_true'.1 h3
    simp only [Bool.and_eq_true, decide_eq_true_eq] at hb
    exact ⟨e, he, hb⟩

theorem seen_at {n j t : Nat} {o : Oper} {f : Tmp → Value} (h : depB ops n o j t = true) : seen ops o f j = f t := by
  simp only [depB, Bool.and_eq_true, decide_eq_true_eq] at h
  obtain ⟨⟨_, h2⟩, h3⟩ := h
  unfold seen
  rw [if_pos h3, h2]

theorem owes_plain {Q : Exit → Act → World → Prop} {C : World → Prop} {T : World → World → Prop} {V : Nat → Value → (Nat → Value) → World → Prop} {n : Nat} {a0 : Act} {i : Nat} {o : Oper} (ho : ops[i]? = some o) (hg : o.guard = none)
    (h : ∀ (a : Act) (w : World), C w → (∀ t, notDst ops n t = true → (a.tmps[t]?).getD undef = a0.tmps.getD t undef) →
      (∀ j t, depB ops n o j t = true → ∃ g, V j ((a.tmps[t]?).getD undef) g w) →
      o.upon P a (fun a' w' => ∃ v, a' = a.put o.dst v ∧ T w w' ∧ V i (if o.dst.isSome then v else undef) (seen ops o fun t => a.tmps.getD t undef) w') Q ((execOp a.eval o).run P w)) : Owes P Q C T V ops n a0 i := by
  intro o' ho' a w hC _ _ hold hdep
  rw [ho] at ho'
  cases ho'
  have hw : Region.wanted o (yielded ops a.tmps) = true := by simp [Region.wanted, hg]
  rw [if_pos hw]
  refine h a w hC (fun t ht => ?_) (fun j t ht => ?_)
  · rw [← Array.getD_eq_getD_getElem?]; exact hold t (notDst_spec ht)
  · obtain ⟨hj, ⟨oj, hoj, hd⟩, he⟩ := depB_spec ht
    have := hdep j oj hj hoj he
    simp only [own, hd, Array.getD_eq_getD_getElem?] at this
    exact ⟨_, this⟩

theorem getD_bool {t : Array Value} {s : Tmp} {b : Bool} (h : t.getD s undef = .bool b) : t[s]? = some (.bool b) := by
  rw [Array.getD_eq_getD_getElem?] at h
  cases hx : t[s]? with
  | none => rw [hx] at h; exact absurd h (by simp [undef])
  | some x => rw [hx] at h; exact congrArg some h

/-- the guard's operation yields what is wanted -/
theorem owes_yes {Q : Exit → Act → World → Prop} {C : World → Prop} {T : World → World → Prop} {V : Nat → Value → (Nat → Value) → World → Prop} {n : Nat} {a0 : Act} {i g s : Nat} {b : Bool} {o : Oper} (ho : ops[i]? = some o) (hg : o.guard = some (g, b))
    (hs : depB ops n o g s = true) (hv : ∀ v gg w, V g v gg w → v = .bool b)
    (h : ∀ (a : Act) (w : World), C w → (∀ t, notDst ops n t = true → (a.tmps[t]?).getD undef = a0.tmps.getD t undef) →
      (∀ j t, depB ops n o j t = true → ∃ g, V j ((a.tmps[t]?).getD undef) g w) →
      o.upon P a (fun a' w' => ∃ v, a' = a.put o.dst v ∧ T w w' ∧ V i (if o.dst.isSome then v else undef) (seen ops o fun t => a.tmps.getD t undef) w') Q ((execOp a.eval o).run P w)) : Owes P Q C T V ops n a0 i := by
  intro o' ho' a w hC _ _ hold hdep
  rw [ho] at ho'
  cases ho'
  obtain ⟨hj, ⟨oj, hoj, hd⟩, he⟩ := depB_spec hs
  have h1 := hv _ _ _ (hdep g oj hj hoj he)
  simp only [own, hd] at h1
  have h2 : a.tmps[s]? = some (.bool b) := getD_bool h1
  have hw : Region.wanted o (yielded ops a.tmps) = true := by simp [Region.wanted, hg, yielded, hoj, hd, h2]
  rw [if_pos hw]
  refine h a w hC (fun t ht => ?_) (fun j t ht => ?_)
  · rw [← Array.getD_eq_getD_getElem?]; exact hold t (notDst_spec ht)
  · obtain ⟨hj, ⟨oj, hoj, hd⟩, he⟩ := depB_spec ht
    have := hdep j oj hj hoj he
    simp only [own, hd, Array.getD_eq_getD_getElem?] at this
    exact ⟨_, this⟩
/-- the guard's operation yields something else -/
theorem owes_no {Q : Exit → Act → World → Prop} {C : World → Prop} {T : World → World → Prop} {V : Nat → Value → (Nat → Value) → World → Prop} {n : Nat} {a0 : Act} {i g s : Nat} {b : Bool} {o : Oper} (ho : ops[i]? = some o) (hg : o.guard = some (g, b))
    (hs : depB ops n o g s = true) (hv : ∀ v gg w, V g v gg w → v = .bool (!b))
    (h : ∀ gg w, V i undef gg w) : Owes P Q C T V ops n a0 i := by
  intro o' ho' a w hC _ _ hold hdep
  rw [ho] at ho'
  cases ho'
  obtain ⟨hj, ⟨oj, hoj, hd⟩, he⟩ := depB_spec hs
  have h1 := hv _ _ _ (hdep g oj hj hoj he)
  simp only [own, hd] at h1
  have h2 : a.tmps[s]? = some (.bool !b) := getD_bool h1
  have hw : ¬ Region.wanted o (yielded ops a.tmps) = true := by cases b <;> simp [Region.wanted, hg, yielded, hoj, hd, h2]
  rw [if_neg hw]
  exact h _ _

theorem dstsApart_spec {n k : Nat} (h : dstsApart ops n k = true) {i j : Nat} {a b : Oper} {s : Tmp} (hi : i < n) (hj : j < n) (ha : ops[i]? = some a) (hb : ops[j]? = some b) (hs : a.dst = some s) : s < k ∧ (i ≠ j → b.dst ≠ some s) := by
  have h1 := List.all_eq_true.1 (List.all_eq_true.1 h i (List.mem_range.2 hi)) j (List.mem_range.2 hj)
  simp only [ha, hb, hs] at h1
  cases hbd : b.dst with
  | none =>
    simp only [hbd] at h1
    exact ⟨by simpa using h1, fun _ e => by cases e⟩
  | some t =>
    simp only [hbd, Bool.and_eq_true, Bool.or_eq_true, decide_eq_true_eq] at h1
    refine ⟨h1.2, fun hne e => ?_⟩
    cases e
    rcases h1.1 with h | h
    · exact hne h
    · exact h rfl

theorem seen_put {o : Oper} {a : Act} {d : Option Tmp} {v : Value} (h : ∀ e ∈ o.after, Region.binds .any e = true → ∀ ok t, ops[e.on]? = some ok → ok.dst = some t → d ≠ some t) :
    (seen ops o fun t => (a.put d v).tmps.getD t undef) = seen ops o fun t => a.tmps.getD t undef := by
  funext k
  unfold seen
  by_cases hk : (o.after.any fun e => Region.binds .any e && decide (e.on = k)) = true
  · rw [if_pos hk, if_pos hk]
    obtain ⟨e, he, hb⟩ := Array.any_eq_true'.1 hk
    simp only [Bool.and_eq_true, decide_eq_true_eq] at hb
    obtain ⟨hb, rfl⟩ := hb
    cases ho : ops[e.on]? with
    | none => rfl
    | some ok =>
      cases hd : ok.dst with
      | none => simp [hd]
      | some t => simp only [Option.bind_some, hd]; exact getD_put_ne (h e he hb ok t ho hd)
  · rw [if_neg hk, if_neg hk]

theorem edgesBack_spec (h : edgesBack ops = true) {i : Nat} {o : Oper} (ho : ops[i]? = some o) {e : Edge} (he : e ∈ o.after) (hb : Region.binds .any e = true) : e.on < i := by
  have hi : i < ops.size := (Array.getElem?_eq_some_iff.1 ho).1
  have h1 := List.all_eq_true.1 h i (List.mem_range.2 hi)
  rw [ho] at h1
  simpa [hb] using Array.all_eq_true'.1 h1 e he

theorem PInv.step {Q : Exit → Act → World → Prop} {C : World → Prop} {T : World → World → Prop} {V : Nat → Value → (Nat → Value) → World → Prop} {n : Nat} {a0 : Act} {listed : Array Bool} {a : Act} {w : World} {i : Nat}
    (hC : ∀ w w', C w → T w w' → C w') (hV : ∀ i v g w w', T w w' → V i v g w → V i v g w') (hTr : ∀ w, T w w) (hd : dstsApart ops n a0.tmps.size = true) (hls : listed.size = ops.size)
    (inv : PInv C V ops n a0 listed a w) (hi : i ∈ Region.ready .any ops listed) (hin : i < n) (how : Owes P Q C T V ops n a0 i) (heb : edgesBack ops = true) :
    wpOp P ops Q i (fun a' w' => PInv C V ops n a0 (listed.setIfInBounds i true) a' w') a w := by
  obtain ⟨hun, o, ho, hall⟩ := mem_ready.1 hi
  have hilt : i < ops.size := (Array.getElem?_eq_some_iff.1 ho).1
  have hset : ∀ j, (listed.setIfInBounds i true).getD j false = true → j = i ∨ listed.getD j false = true := fun j hj => by
    by_cases e : i = j
    · exact .inl e.symm
    · exact .inr (by rw [getD_set_ne false e] at hj; exact hj)
  have hunl : listed.getD i false = false := getD_both hun
  have apart : ∀ k ok t, k < n → listed.getD k false = true → ops[k]? = some ok → ok.dst = some t → o.dst ≠ some t := fun k ok t hk hl hok hdt => by
    have hki : k ≠ i := fun e => by subst e; rw [hunl] at hl; cases hl
    exact (dstsApart_spec hd hk hin hok ho hdt).2 hki
  have fin : ∀ v w', T w w' → V i (if o.dst.isSome then v else undef) (seen ops o fun t => a.tmps.getD t undef) w' → PInv C V ops n a0 (listed.setIfInBounds i true) (a.put o.dst v) w' := fun v w' hT hv => by
    refine ⟨hC _ _ inv.cls hT, by rw [size_put]; exact inv.size, by rw [defers_put]; exact inv.defers, fun t ht => ?_, fun j oj hjn hj hl e he hb => ?_, fun j oj hjn hj hl => ?_⟩
    · have hne : o.dst ≠ some t := ht i o hin ho (by simp [hls, hilt])
      rw [getD_put_ne hne]
      exact inv.old t fun j oj hjn hj hl => ht j oj hjn hj (getD_set_true hl)
    · rcases hset j hl with rfl | hl'
      · rw [ho] at hj; cases hj
        exact getD_set_true (hall e he hb)
      · exact getD_set_true (inv.deps j oj hjn hj hl' e he hb)
    · rcases hset j hl with rfl | hl'
      · rw [ho] at hj; cases hj
        rw [seen_put (ops := ops) (o := o) fun e he hb ok t hok hdt => apart e.on ok t (Nat.lt_trans (edgesBack_spec heb ho he hb) hin) (hall e he hb) hok hdt]
        have : (own o fun t => (a.put o.dst v).tmps.getD t undef) = if o.dst.isSome then v else undef := by
          unfold own
          cases hdt : o.dst with
          | none => rfl
          | some t =>
            have hlt := (dstsApart_spec hd hin hin ho ho hdt).1
            simp only [Option.isSome_some, if_true]
            exact getD_put_same (by rw [inv.size]; exact hlt)
        rw [this]; exact hv
      · rw [seen_put (ops := ops) (o := oj) fun e he hb ok t hok hdt => apart e.on ok t (Nat.lt_trans (edgesBack_spec heb hj he hb) hjn) (inv.deps j oj hjn hj hl' e he hb) hok hdt]
        have : (own oj fun t => (a.put o.dst v).tmps.getD t undef) = own oj fun t => a.tmps.getD t undef := by
          unfold own
          cases hdt : oj.dst with
          | none => rfl
          | some t => exact getD_put_ne (apart j oj t hjn hl' hj hdt)
        rw [this]
        exact hV _ _ _ _ _ hT (inv.val j oj hjn hj hl')
  have h1 := how o ho a w inv.cls inv.size inv.defers (fun t ht => inv.old t fun j oj hjn hj _ => ht j oj hjn hj)
    (fun j oj hjn hj ⟨e, he, hb, hon⟩ => inv.val j oj hjn hj (by rw [← hon]; exact hall e he hb))
  unfold wpOp
  simp only [ho]
  by_cases hw : Region.wanted o (yielded ops a.tmps) = true
  · simp only [hw, if_true] at h1 ⊢
    have : wpOp P ops Q i (fun a' w' => ∃ v, a' = a.put o.dst v ∧ T w w' ∧ V i (if o.dst.isSome then v else undef) (seen ops o fun t => a.tmps.getD t undef) w') a w := by
      unfold wpOp; simp only [ho, hw, if_true]; exact .inl h1
    have := wpOp_mono (K' := fun a' w' => PInv C V ops n a0 (listed.setIfInBounds i true) a' w') (fun a' w' ⟨v, e, hT, hv⟩ => e ▸ fin v w' hT hv) this
    unfold wpOp at this
    simpa only [ho, hw, if_true] using this
  · simp only [hw, Bool.false_eq_true, if_false] at h1 ⊢
    exact fin undef w (hTr w) (by simpa using h1)

theorem headFull_of {n : Nat} {listed : Array Bool} (hs : listed.size = ops.size) (h1 : ∀ i, i < n → listed.getD i true = true) (h2 : ∀ i, n ≤ i → i < ops.size → listed.getD i true = false) : listed = headFull ops n := by
  apply Array.ext
  · simp [headFull, hs]
  · intro i hi1 hi2
    have hlt : i < ops.size := by rw [← hs]; exact hi1
    have hg : (headFull ops n)[i] = decide (i < n) := by simp [headFull]
    rw [hg]
    by_cases hin : i < n
    · have := h1 i hin
      rw [Array.getD_eq_getD_getElem?, Array.getElem?_eq_getElem hi1] at this
      simpa [hin] using this
    · have := h2 i (by omega) hlt
      rw [Array.getD_eq_getD_getElem?, Array.getElem?_eq_getElem hi1] at this
      simpa [hin] using this

theorem wpAny_pred {Q : Exit → Act → World → Prop} {C : World → Prop} {T : World → World → Prop} {V : Nat → Value → (Nat → Value) → World → Prop} {n g : Nat} {a0 : Act}
    (hC : ∀ w w', C w → T w w' → C w') (hV : ∀ i v g w w', T w w' → V i v g w → V i v g w') (hTr : ∀ w, T w w)
    (hn : n < ops.size) (hsk : Region.sinkB .any ops n = true) (hch : Region.chainB .any ops n = true) (heb : edgesBack ops = true) (hd : dstsApart ops n a0.tmps.size = true)
    (how : ∀ i, i < n → Owes P Q C T V ops n a0 i)
    (hfin : ∀ a w, PInv C V ops n a0 (headFull ops n) a w → wpAny P .any ops Q g (headFull ops n) a w) :
    ∀ (f : Nat) (listed : Array Bool) (a : Act) (w : World), (List.range n).countP (fun i => !listed.getD i true) = f → HeadInv .any ops n listed → PInv C V ops n a0 listed a w → wpAny P .any ops Q (f + g) listed a w := by
  intro f
  induction f with
  | zero =>
    intro listed a w hcount hinv inv
    have hall : ∀ i, i < n → listed.getD i true = true := fun i hi => by
      have h0 := List.countP_eq_zero.1 hcount i (List.mem_range.2 hi)
      simpa using h0
    have e := headFull_of hinv.size hall hinv.tail
    rw [Nat.zero_add]
    subst e
    exact hfin a w inv
  | succ f ih =>
    intro listed a w hcount hinv inv
    rw [show f + 1 + g = (f + g) + 1 by omega]
    -- an operation of the head is still to come
    have hex : ∃ i, i < n ∧ listed.getD i true = false := by
      have hpos : 0 < (List.range n).countP (fun i => !listed.getD i true) := by omega
      obtain ⟨i, hi, hp⟩ := List.countP_pos_iff.1 hpos
      exact ⟨i, List.mem_range.1 hi, by simpa using hp⟩
    have hleast : ∃ i, i < n ∧ listed.getD i true = false ∧ ∀ j, j < i → listed.getD j true = true := by
      obtain ⟨i, hi, hu⟩ := hex
      induction i using Nat.strongRecOn with
      | _ i ihh =>
        by_cases h : ∃ j, j < i ∧ listed.getD j true = false
        · obtain ⟨j, hj, hju⟩ := h
          exact ihh j hj (by omega) hju
        · refine ⟨i, hi, hu, fun j hj => ?_⟩
          cases hx : listed.getD j true with
          | true => rfl
          | false => exact absurd ⟨j, hj, hx⟩ h
    obtain ⟨k, hk, hku, hkl⟩ := hleast
    have hkr : k ∈ Region.ready .any ops listed := by
      have hks : k < ops.size := by omega
      refine mem_ready.2 ⟨hku, ops[k], Array.getElem?_eq_getElem hks, fun e he hb => ?_⟩
      have h1 := List.all_eq_true.1 heb k (List.mem_range.2 hks)
      rw [Array.getElem?_eq_getElem hks] at h1
      have h2 : e.on < k := by simpa [hb] using Array.all_eq_true'.1 h1 e he
      have h3 := hkl e.on h2
      have hsz : e.on < listed.size := by rw [hinv.size]; omega
      rw [Array.getD_eq_getD_getElem?, Array.getElem?_eq_getElem hsz] at h3 ⊢
      simpa using h3
    refine ⟨fun h0 => (by rw [h0] at hkr; cases hkr), fun i hi => ?_⟩
    have hin : i < n := by
      rcases Nat.lt_or_ge i n with h | h
      · exact h
      · exact absurd hi (tail_waits hsk hch hn hinv _ k rfl hk hku i h)
    have hun := (mem_ready.1 hi).1
    have hilt : i < listed.size := by rw [hinv.size]; omega
    refine wpOp_mono (fun a' w' inv' => ih (listed.setIfInBounds i true) a' w' ?_ (hinv.set hi hin) inv') (inv.step hC hV hTr hd hinv.size hi hin (how i hin) heb)
    have := countP_set (fun j => !listed.getD j true) (fun j => !(listed.setIfInBounds i true).getD j true) i (fun j hj => by simp only [getD_set_ne true (Ne.symm hj)]) (by simp only [hun, Bool.not_false]) (by simp [hilt]) n hin
    omega

theorem act_of (a : Act) {n : Nat} {d} (h : a.tmps.size = n) (hd : a.defers = d) : (⟨((List.range n).map fun t => a.tmps.getD t undef).toArray, d⟩ : Act) = a := by
  obtain ⟨ts, ds⟩ := a
  simp only at h hd
  subst h hd
  congr 1
  apply Array.ext
  · simp
  · intro i h1 h2
    simp [h2]

/-- **The region by assertions.** -/
theorem wp_region_pred {id : Nat} {Q : Exit → Act → World → Prop} {a : Act} {w : World} {l : List Oper} (n : Nat) (C : World → Prop) (T : World → World → Prop) (V : Nat → Value → (Nat → Value) → World → Prop)
    (hm : P.follows .mixedOrders = true) (hB : predB l.toArray n a.tmps.size = true) (hC0 : C w.drew) (hC : ∀ w w', C w → T w w' → C w') (hV : ∀ i v g w w', T w w' → V i v g w → V i v g w') (hTr : ∀ w, T w w)
    (how : ∀ i, i < n → Owes P Q C T V l.toArray n a i)
    (hfin : ∀ f w', C w' → (∀ t, notDst l.toArray n t = true → f t = a.tmps.getD t undef) →
      (∀ j oj, j < n → l[j]? = some oj → V j (own oj f) (seen l.toArray oj f) w') → wpList P l.toArray Q (l.drop n) ⟨((List.range a.tmps.size).map f).toArray, a.defers⟩ w') :
    (Code.region id l.toArray true).wp P Q a w := by
  simp only [predB, Bool.and_eq_true, decide_eq_true_eq] at hB
  obtain ⟨⟨⟨⟨⟨hn, hsk⟩, hch⟩, heb⟩, hd⟩, hseq⟩ := hB
  refine wp_region_any hm ?_
  have inv0 : HeadInv .any l.toArray n (Array.replicate l.toArray.size false) :=
    ⟨by simp, fun j oj _ hl => (by rw [getD_replicate_false] at hl; cases hl), fun t _ ht => getD_in (by simpa using ht) (getD_replicate_false _ _)⟩
  have pinv0 : PInv C V l.toArray n a (Array.replicate l.toArray.size false) a w.drew :=
    ⟨hC0, rfl, rfl, fun _ _ => rfl, fun j oj _ _ hl => (by rw [getD_replicate_false] at hl; cases hl), fun j oj _ _ hl => (by rw [getD_replicate_false] at hl; cases hl)⟩
  have hcount : (List.range n).countP (fun i => !(Array.replicate l.toArray.size false).getD i true) = n := by
    have : (List.range n).countP (fun i => !(Array.replicate l.toArray.size false).getD i true) = (List.range n).length := by
      rw [List.countP_eq_length]
      intro i hi
      have hi' := List.mem_range.1 hi
      have hlt : i < l.length := by have : l.toArray.size = l.length := by simp
                                    omega
      simp [hlt]
    rw [this, List.length_range]
  have hdl : (l.drop n).length = l.toArray.size - n := by simp
  have H := wpAny_pred (P := P) (Q := Q) (g := l.toArray.size - n) hC hV hTr hn hsk hch heb hd how (fun a' w' inv => by
    have hw := hfin (fun t => a'.tmps.getD t undef) w' inv.cls (fun t ht => inv.old t fun j oj hjn hj _ => notDst_spec ht j oj hjn hj)
      (fun j oj hjn hj => inv.val j oj hjn (by simpa using hj) (by
        have hlt : j < l.toArray.size := by omega
        have hg : (headFull l.toArray n).getD j false = decide (j < n) := by
          rw [Array.getD_eq_getD_getElem?, Array.getElem?_eq_getElem (by simpa [headFull] using hlt)]
          simp [headFull]
        rw [hg]; simpa using hjn))
    rw [act_of a' inv.size inv.defers] at hw
    have := wpAny_of_seq (md := .any) (Q' := Q) (l.drop n) n (headFull l.toArray n) a' w' (fun j => by simp [List.getElem?_drop]) (by rw [hdl]; exact hseq) hw
    rwa [hdl] at this) n _ a w.drew hcount inv0 pinv0
  rw [show n + (l.toArray.size - n) = l.toArray.size by omega] at H
  exact H
end

end Go.Proofs.YtllfaffbaijgfaaGreatDoor
