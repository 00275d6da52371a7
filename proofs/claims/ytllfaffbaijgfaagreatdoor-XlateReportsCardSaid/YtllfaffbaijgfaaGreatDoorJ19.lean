/- errors.As at the package's own error, a struct (after the kit's worked text at a pointer). xlate's steps: done one after the other, up to the first error. -/
import Derived.Test.YtllfaffbaijgfaaGreatDoorJ02
import Derived.Test.YtllfaffbaijgfaaGreatDoorJ18
import Derived.ScopeJumps
set_option linter.unusedVariables false
set_option linter.unusedSimpArgs false
namespace Go.Proofs.YtllfaffbaijgfaaGreatDoor
open Go Go.RowKit Go.Extern.Stop Go.Stop Go.Extern

/-- the variable errors.errorType, laid -/
def ErrAt (w : World) : Prop := w.cell? ⟨7, 0, none⟩ = some (.iface 335 (.agg #[.pointer (some ⟨33, 78, none⟩)]))
abbrev asP : Value := .pointer (some ⟨33, 148, none⟩)
abbrev asT : Value := .pointer (some ⟨33, 139, none⟩)

theorem as_valueOfP (t : Addr) (w : World) : (ReflectliteValue.unpack (.iface 148 (.pointer (some t)))).run Tryz.prog w
    = .ok (.agg #[asP, .pointer (some ⟨w.heap.size, 0, none⟩), .int .u64 150]) (w.alloc (.cells #[.pointer (some t)] 148)) := by kernel_rfl
theorem as_typeP (a : Addr) (w : World) : (ReflectliteValue.methodAny (ReflectliteValue.valueError "reflectlite.Value.Type" 0) (fun t _ _ _ => ReflectliteType.toType t) #[.agg #[asP, .pointer (some a), .int .u64 150]]).run Tryz.prog w
    = .ok (.iface 335 (.agg #[asP])) w := by kernel_rfl
theorem as_methodKind (h : Value) (w : World) : (Go.method 656 335 (.agg #[h]) "Kind").run Tryz.prog w = .ok (407, h) w := by kernel_rfl
theorem as_kindP (w : World) : ((ReflectliteType.abiMethod fun t => (fun a : Nat => Value.int IntKind.u8 (a : Int)) <$> Rtype.kind t) #[asP]).run Tryz.prog w = .ok (.int .u8 22) w := by kernel_rfl
theorem as_kindT (w : World) : ((ReflectliteType.abiMethod fun t => (fun a : Nat => Value.int IntKind.u8 (a : Int)) <$> Rtype.kind t) #[asT]).run Tryz.prog w = .ok (.int .u8 25) w := by kernel_rfl
theorem as_rlm (z : Sem Value) (f : TypeId → Addr → Nat → Nat → Sem Value) (v : Value) :
    ReflectliteValue.method z f #[v] = (do match ← ReflectliteValue.parts v with | none => z | some (t, a, fl) => f t a fl (fl % 32)) := rfl
theorem as_partsP (a : Addr) (w : World) : (ReflectliteValue.parts (.agg #[asP, .pointer (some a), .int .u64 150])).run Tryz.prog w = .ok (some (148, a, 150)) w := by kernel_rfl
theorem as_isNilP (a p : Addr) (W : World) (ha : W.cell? a = some (.pointer (some p))) :
    (ReflectliteValue.method (ReflectliteValue.valueError "reflectlite.Value.IsNil" 0) ReflectliteValue.isNil #[.agg #[asP, .pointer (some a), .int .u64 150]]).run Tryz.prog W = .ok (.bool false) W := by
  rw [as_rlm]
  simp only [Sem.run_bind, as_partsP, Result.andThen]
  simp [ReflectliteValue.isNil, loadVar, isAgg, underlying, Tryz.underlying148, ha, Result.andThen]
theorem as_methodElem (h : Value) (w : World) : (Go.method 656 335 (.agg #[h]) "Elem").run Tryz.prog w = .ok (422, .agg #[h]) w := by kernel_rfl
theorem as_methodImplements (h : Value) (w : World) : (Go.method 656 335 (.agg #[h]) "Implements").run Tryz.prog w = .ok (423, .agg #[h]) w := by kernel_rfl
theorem as_methodAssignable (h : Value) (w : World) : (Go.method 656 335 (.agg #[h]) "AssignableTo").run Tryz.prog w = .ok (420, .agg #[h]) w := by kernel_rfl
theorem as_elemP (w : World) : (ReflectliteType.method ReflectliteType.elem #[.agg #[asP]]).run Tryz.prog w = .ok (.iface 335 (.agg #[asT])) w := by kernel_rfl
theorem as_implementsT (w : World) : (ReflectliteType.relation "Implements" ReflectliteType.implements_ #[.agg #[asT], .iface 335 (.agg #[.pointer (some ⟨33, 78, none⟩)])]).run Tryz.prog w = .ok (.bool true) w := by kernel_rfl
theorem as_typeOfT (v : Value) (w : World) : (ReflectliteType.typeOf #[.iface 139 v]).run Tryz.prog w = .ok (.iface 335 (.agg #[asT])) w := by kernel_rfl
theorem as_assignableT (w : World) : (ReflectliteType.relation "AssignableTo" ReflectliteType.assignableTo #[.agg #[asT], .iface 335 (.agg #[asT])]).run Tryz.prog w = .ok (.bool true) w := by kernel_rfl
theorem as_valueOfT (e : Int) (w : World) : (ReflectliteValue.unpack (.iface 139 (.agg #[.int .i64 e]))).run Tryz.prog w
    = .ok (.agg #[asT, .pointer (some ⟨w.heap.size, 0, none⟩), .int .u64 153]) (w.alloc (.cells #[.int .i64 e] 139)) := by kernel_rfl
theorem as_elemOfP (w : World) : (Rtype.elem? 148).run Tryz.prog w = .ok (some 139) w := by kernel_rfl
theorem as_mkT (p : Addr) (w : World) : (ReflectliteValue.mk 139 p ReflectliteValue.flagAddr).run Tryz.prog w = .ok (.agg #[asT, .pointer (some p), .int .u64 409]) w := by kernel_rfl
theorem as_elemVP (a p : Addr) (W : World) (ha : W.cell? a = some (.pointer (some p))) :
    (ReflectliteValue.method (ReflectliteValue.valueError "reflectlite.Value.Elem" 0) ReflectliteValue.elem #[.agg #[asP, .pointer (some a), .int .u64 150]]).run Tryz.prog W
      = .ok (.agg #[asT, .pointer (some p), .int .u64 409]) W := by
  rw [as_rlm]
  simp only [Sem.run_bind, as_partsP, Result.andThen]
  simp [ReflectliteValue.elem, loadVar, isAgg, underlying, Tryz.underlying148, ha, Result.andThen, as_elemOfP, as_mkT]
theorem as_rls (v x : Value) : ReflectliteValue.set #[v, x] = (do
    let (some (dst, a, fl), some (src, b, _)) := (← ReflectliteValue.parts v, ← ReflectliteValue.parts x)
      | unsupported (.noEntry "extern/(internal/reflectlite.Value).Set.zeroValue")
    if fl / ReflectliteValue.flagAddr % 2 == 0 then unsupported (.noEntry "extern/(internal/reflectlite.Value).Set.unaddressable")
    let val ← loadVar src b
    if ← Rtype.directlyAssignable dst src then storeVar dst a val
    else if ← Rtype.implements dst src then
      if (← Rtype.kind src) == 20 then
        match val with
        | .nilIface => unsupported (.noEntry "extern/reflectlite: a nil value of one interface type handed on as a value of another")
        | _ => storeVar dst a val
      else storeVar dst a (.iface src val)
    else panicString ("reflectlite.Set: value of type " ++ (← Rtype.spelt src) ++ " is not assignable to type " ++ (← Rtype.spelt dst))
    pure (.tuple #[])) := rfl
theorem as_partsTa (a : Addr) (w : World) : (ReflectliteValue.parts (.agg #[asT, .pointer (some a), .int .u64 409])).run Tryz.prog w = .ok (some (139, a, 409)) w := by kernel_rfl
theorem as_partsT (a : Addr) (w : World) : (ReflectliteValue.parts (.agg #[asT, .pointer (some a), .int .u64 153])).run Tryz.prog w = .ok (some (139, a, 153)) w := by kernel_rfl
theorem as_directT (w : World) : (Rtype.directlyAssignable 139 139).run Tryz.prog w = .ok true w := by kernel_rfl
/-- (Value).Set: the variable at 'ta' gets what the Value's own variable 'b' holds. -/
theorem as_setT (ta tb : Nat) (e : Int) (old : Value) (W : World) (hb : W.heap[tb]? = some (.cells #[.int .i64 e] 139 (0, 0))) (ht : W.heap[ta]? = some (.cells #[old] 139 (0, 0))) :
    (ReflectliteValue.set #[.agg #[asT, .pointer (some ⟨ta, 0, none⟩), .int .u64 409], .agg #[asT, .pointer (some ⟨tb, 0, none⟩), .int .u64 153]]).run Tryz.prog W
      = .ok (.tuple #[]) (W.setCell ⟨ta, 0, none⟩ (.int .i64 e)) := by
  have hl : (loadVar 139 ⟨tb, 0, none⟩).run Tryz.prog W = .ok (.agg #[.int .i64 e]) W := load_row (n := 1) (hheap := hb) (hu := Tryz.underlying139) (hd := rfl) (hi := by kernel_rfl) (hc := rfl)
  rw [as_rls]
  simp only [Sem.run_bind, as_partsTa, as_partsT, Result.andThen]
  simp [ReflectliteValue.flagAddr, hl, Result.andThen, as_directT, storeVar, Value.cells, storeCells, Addr.add]
  have hc : W.cell? ⟨ta, 0, none⟩ = some old := cellsOf ht 0
  have hf : W.frozen? ⟨ta, 0, none⟩ = false := by simp [World.frozen?, ht]
  rw [run_store Tryz.prog W ⟨ta, 0, none⟩ _ _ (by rfl)]
  simp [hc, hf]

abbrev asVP (b : Nat) : Array Value := #[asP, .pointer (some ⟨b, 0, none⟩), .int .u64 150]
set_option maxRecDepth 100000 in
set_option maxHeartbeats 4000000 in
theorem as_hit (e : Int) (t : Nat) (old : Value) (w : World) (hE : ErrAt w) (ht : w.heap[t]? = some (.cells #[old] 139 (0, 0))) :
    Calls Tryz.prog 108 #[.iface 139 (.agg #[.int .i64 e]), .iface 148 (.pointer (some ⟨t, 0, none⟩))] w (fun ev w' => ev = .returned (.bool true) ∧ ∃ W, Below w.heap.size w W ∧ w' = W.setCell ⟨t, 0, none⟩ (.int .i64 e)) := by
  have h6 := @run_callFunc_extern Tryz.prog 175 _ (fun args => ReflectliteValue.unpack (args.getD 0 (.tuple #[]))) Tryz.func175 (by kernel_rfl) (by kernel_rfl) (by kernel_rfl) (by kernel_rfl)
  have h7 := @run_callFunc_extern Tryz.prog 176 _ (ReflectliteValue.methodAny (ReflectliteValue.valueError "reflectlite.Value.Type" 0) (fun t _ _ _ => ReflectliteType.toType t)) Tryz.func176 (by kernel_rfl) (by kernel_rfl) (by kernel_rfl) (by kernel_rfl)
  have h8 := @run_callFunc_extern Tryz.prog 177 _ (ReflectliteValue.method (ReflectliteValue.valueError "reflectlite.Value.IsNil" 0) ReflectliteValue.isNil) Tryz.func177 (by kernel_rfl) (by kernel_rfl) (by kernel_rfl) (by kernel_rfl)
  have h27 := @run_callFunc_extern Tryz.prog 407 _ (ReflectliteType.abiMethod fun t => do pure (.int .u8 (← Rtype.kind t))) Tryz.func407 (by kernel_rfl) (by kernel_rfl) (by kernel_rfl) (by kernel_rfl)
  have h37 := @run_callFunc_extern Tryz.prog 422 _ (ReflectliteType.method ReflectliteType.elem) Tryz.func422 (by kernel_rfl) (by kernel_rfl) (by kernel_rfl) (by kernel_rfl)
  have h38 := @run_callFunc_extern Tryz.prog 423 _ (ReflectliteType.relation "Implements" ReflectliteType.implements_) Tryz.func423 (by kernel_rfl) (by kernel_rfl) (by kernel_rfl) (by kernel_rfl)
  have h10 := @run_callFunc_extern Tryz.prog 189 _ ReflectliteType.typeOf Tryz.func189 (by kernel_rfl) (by kernel_rfl) (by kernel_rfl) (by kernel_rfl)
  have h35 := @run_callFunc_extern Tryz.prog 420 _ (ReflectliteType.relation "AssignableTo" ReflectliteType.assignableTo) Tryz.func420 (by kernel_rfl) (by kernel_rfl) (by kernel_rfl) (by kernel_rfl)
  have h11 := @run_callFunc_extern Tryz.prog 258 _ (ReflectliteValue.method (ReflectliteValue.valueError "reflectlite.Value.Elem" 0) ReflectliteValue.elem) Tryz.func258 (by kernel_rfl) (by kernel_rfl) (by kernel_rfl) (by kernel_rfl)
  have h12 := @run_callFunc_extern Tryz.prog 259 _ ReflectliteValue.set Tryz.func259 (by kernel_rfl) (by kernel_rfl) (by kernel_rfl) (by kernel_rfl)
  have tO := as_typeOfT
  have mA := as_methodAssignable
  have a25 := as_assignableT
  have v25 := as_valueOfT
  have f6 := as_valueOfP
  have f7 := as_typeP
  have mK := as_methodKind
  have mE := as_methodElem
  have mI := as_methodImplements
  have k27 := as_kindP
  have k25 := as_kindT
  have e27 := as_elemP
  have i25 := as_implementsT
  have tl : t < w.heap.size := (Array.getElem?_eq_some_iff.1 ht).1
  obtain ⟨w1, hw1⟩ : ∃ w1, w1 = (w.alloc (.cells #[.pointer (some ⟨t, 0, none⟩)] 148)).alloc (.cells (asVP w.heap.size) 229) := ⟨_, rfl⟩
  have n8 := as_isNilP ⟨w.heap.size, 0, none⟩ ⟨t, 0, none⟩ ((w.alloc (.cells #[.pointer (some ⟨t, 0, none⟩)] 148)).alloc (.cells (asVP w.heap.size) 229)) (by simp)
  have hg2 : ((w.alloc (.cells #[.pointer (some ⟨t, 0, none⟩)] 148)).alloc (.cells (asVP w.heap.size) 229)).cell? ⟨7, 0, none⟩ = some (.iface 335 (.agg #[.pointer (some ⟨33, 78, none⟩)])) := by
    have hl := cellLt hE
    replace hl : 7 < w.heap.size := hl
    rw [World.cell?_alloc_lt _ _ ⟨7, 0, none⟩ (by simp; omega), World.cell?_alloc_lt _ _ ⟨7, 0, none⟩ hl]; exact hE
  have el := as_elemVP ⟨w.heap.size, 0, none⟩ ⟨t, 0, none⟩ (((w.alloc (.cells #[.pointer (some ⟨t, 0, none⟩)] 148)).alloc (.cells (asVP w.heap.size) 229)).alloc (.cells (asVP w.heap.size) 229)) (by rw [World.cell?_alloc_lt _ _ ⟨w.heap.size, 0, none⟩ (by simp; omega)]; simp)
  have st := as_setT t (w.heap.size + 1 + 1 + 1) e old ((((w.alloc (.cells #[.pointer (some ⟨t, 0, none⟩)] 148)).alloc (.cells (asVP w.heap.size) 229)).alloc (.cells (asVP w.heap.size) 229)).alloc (.cells #[.int .i64 e] 139))
    (by have := World.alloc_heap_new (((w.alloc (.cells #[.pointer (some ⟨t, 0, none⟩)] 148)).alloc (.cells (asVP w.heap.size) 229)).alloc (.cells (asVP w.heap.size) 229)) (.cells #[.int .i64 e] 139); simpa using this)
    (by refine heapKept ht ?_; ((repeat' (first | exact Below.refl _ _ | assumption | (refine Below.drew ?_) | (refine Below.alloc ?_ ?_ _) | (refine Below.setCell ?_ ?_ _) | (refine Below.step (W := ?hW) ?hq ?_ ?_; case hq => assumption))) <;> (first | (simp; done) | (simp; omega) | (simp at *; omega))))
  go_enter Tryz.func108, Tryz.ntmps108
  go_wp2
  refine wp_loop_rounds 1 ?_
  rw [rounds_succ]
  go_wp2
  go_ret
  exact ⟨rfl, _, by ((repeat' (first | exact Below.refl _ _ | assumption | (refine Below.drew ?_) | (refine Below.alloc ?_ ?_ _) | (refine Below.setCell ?_ ?_ _) | (refine Below.step (W := ?hW) ?hq ?_ ?_; case hq => assumption))) <;> (first | (simp; done) | (simp; omega) | (simp at *; omega))), rfl⟩
end Go.Proofs.YtllfaffbaijgfaaGreatDoor

namespace Go.Proofs.YtllfaffbaijgfaaGreatDoor
open Go Go.RowKit Go.Shelf

/-- what the steps come to -/
def StepsTo (b : Nat) (post : Value → World → Prop) : List Value → World → Prop
  | [], w => post .nilIface w
  | f :: r, w => ∃ g fs cs, f = .func (.func g) fs cs ∧ (∀ args W, (callFunc g args).run Tryz.prog W = .ok (.enter g args) W) ∧
    Calls Tryz.prog g (fs ++ cs) w (fun e w' => (e = .returned .nilIface ∧ w'.heap[b]? = w.heap[b]? ∧ StepsTo b post r w') ∨ ∃ c, e = .returned (.iface 139 (.agg #[.int .i64 c])) ∧ post (.iface 139 (.agg #[.int .i64 c])) w')
theorem StepsTo.drop {b : Nat} {post : Value → World → Prop} {l : List Value} {i : Nat} {w : World} (h : StepsTo b post (l.drop i) w) {f : Value} (hf : l[i]? = some f) : ∃ g fs cs, f = .func (.func g) fs cs ∧ (∀ args W, (callFunc g args).run Tryz.prog W = .ok (.enter g args) W) ∧
    Calls Tryz.prog g (fs ++ cs) w (fun e w' => (e = .returned .nilIface ∧ w'.heap[b]? = w.heap[b]? ∧ StepsTo b post (l.drop (i + 1)) w') ∨ ∃ c, e = .returned (.iface 139 (.agg #[.int .i64 c])) ∧ post (.iface 139 (.agg #[.int .i64 c])) w') := by
  obtain ⟨hi, rfl⟩ := List.getElem?_eq_some_iff.1 hf
  rw [List.drop_eq_getElem_cons hi] at h
  exact h

set_option maxRecDepth 100000 in
set_option maxHeartbeats 4000000 in
theorem stepsSix_calls (b : Nat) (post : Value → World → Prop) (l : List Value) (p : Value) (w : World) (hl : l.length ≤ 1000) (hb : w.heap[b]? = some (.cells l.toArray 80 (0, 0))) (h : StepsTo b post l w) :
    Calls Tryz.prog 37 #[p, .slice (some ⟨b, 0, none⟩) l.length l.length] w (fun e w' => ∃ v, e = .returned v ∧ post v w') := by
  obtain ⟨n, hn⟩ : ∃ n, n = l.length := ⟨_, rfl⟩
  rw [← hn] at hl ⊢
  have Hn := hide hn
  have H := hide (And.intro hb h)
  clear hn hb h
  go_enter Tryz.func37, Tryz.ntmps37
  go_wp2
  refine wp_scope_jumps 0 (fun a' w' => ∃ (v u1 u6 u7 u8 u9 u10 u11 u12 u13 u14 u15 u16 u17 u18 u19 : Value), a' = { tmps := #[p, u1, undef, undef, .nilIface, v, u6, u7, u8, u9, u10, u11, u12, u13, u14, u15, u16, u17, u18, u19], defers := [] } ∧ post v w') (fun _ _ => 0) rfl ?_ ?_
  · go_wp2
    go_loopw [10, 5] (fun k v5 wr => v5 = .nilIface ∧ ∃ i : Nat, i ≤ n ∧ k = .int .i64 i ∧ Hid (wr.heap[b]? = some (.cells l.toArray 80 (0, 0)) ∧ StepsTo b post (l.drop i) wr)) (fun k _ _ => n - (intOf k).toNat)
    case atStart => exact ⟨rfl, 0, Nat.zero_le _, rfl, hide ⟨H.out.1, by simpa using H.out.2⟩⟩
    case round =>
      obtain ⟨rfl, i, hi, rfl, h⟩ := hrel
      by_cases hlt : i < n
      · obtain ⟨f, hx⟩ : ∃ x, l[i]? = some x := ⟨_, List.getElem?_eq_getElem (by rw [← Hn.out]; exact hlt)⟩
        obtain ⟨g, fs, cs, rfl, hg, hc⟩ := h.out.2.drop hx
        have c1 := cellsOf h.out.1 i
        rw [List.getElem?_toArray, hx] at c1
        have Hc := hide hc
        have Hb := hide h.out.1
        clear hc h hx
        go_wp2
        refine (show Calls _ _ _ _ _ from (by simpa using Hc.out)).mono ?_
        rintro e w' (⟨rfl, hk, hs⟩ | ⟨c, rfl, hp⟩)
        · have Hs := hide (And.intro (hk.trans Hb.out) hs)
          clear hk hs c1
          go_wp2
          refine ⟨⟨rfl, i + 1, hlt, rfl, Hs⟩, ?_⟩
          simp only [intOf]
          omega
        · have Hp := hide hp
          clear hp c1
          go_wp2
          apply wp_goto
          exact ⟨rfl, _, _, _, _, _, _, _, _, _, _, _, _, _, _, _, _, rfl, Hp.out⟩
      · go_wp2
        apply wp_label
        have Hq := hide h
        clear h
        go_wp2
        simp only [Exit.jump]
        go_ret
        obtain rfl : i = n := by omega
        have := Hq.out.2
        rw [Hn.out, List.drop_length] at this
        exact ⟨_, rfl, this⟩
  · rintro a' w' ⟨v, u1, u6, u7, u8, u9, u10, u11, u12, u13, u14, u15, u16, u17, u18, u19, rfl, hp⟩
    have Hp := hide hp
    clear hp
    go_wp2
    simp only [Exit.jump]
    go_ret
    exact ⟨v, rfl, Hp.out⟩
set_option maxRecDepth 100000 in
set_option maxHeartbeats 4000000 in
theorem stepsSeven_calls (b : Nat) (post : Value → World → Prop) (l : List Value) (p : Value) (w : World) (hl : l.length ≤ 1000) (hb : w.heap[b]? = some (.cells l.toArray 80 (0, 0))) (h : StepsTo b post l w) :
    Calls Tryz.prog 46 #[p, .slice (some ⟨b, 0, none⟩) l.length l.length] w (fun e w' => ∃ v, e = .returned v ∧ post v w') := by
  obtain ⟨n, hn⟩ : ∃ n, n = l.length := ⟨_, rfl⟩
  rw [← hn] at hl ⊢
  have Hn := hide hn
  have H := hide (And.intro hb h)
  clear hn hb h
  go_enter Tryz.func46, Tryz.ntmps46
  go_wp2
  refine wp_scope_jumps 0 (fun a' w' => ∃ (v u1 u6 u7 u8 u9 u10 u11 u12 u13 u14 u15 u16 u17 u18 u19 : Value), a' = { tmps := #[p, u1, undef, undef, .nilIface, v, u6, u7, u8, u9, u10, u11, u12, u13, u14, u15, u16, u17, u18, u19], defers := [] } ∧ post v w') (fun _ _ => 0) rfl ?_ ?_
  · go_wp2
    go_loopw [10, 5] (fun k v5 wr => v5 = .nilIface ∧ ∃ i : Nat, i ≤ n ∧ k = .int .i64 i ∧ Hid (wr.heap[b]? = some (.cells l.toArray 80 (0, 0)) ∧ StepsTo b post (l.drop i) wr)) (fun k _ _ => n - (intOf k).toNat)
    case atStart => exact ⟨rfl, 0, Nat.zero_le _, rfl, hide ⟨H.out.1, by simpa using H.out.2⟩⟩
    case round =>
      obtain ⟨rfl, i, hi, rfl, h⟩ := hrel
      by_cases hlt : i < n
      · obtain ⟨f, hx⟩ : ∃ x, l[i]? = some x := ⟨_, List.getElem?_eq_getElem (by rw [← Hn.out]; exact hlt)⟩
        obtain ⟨g, fs, cs, rfl, hg, hc⟩ := h.out.2.drop hx
        have c1 := cellsOf h.out.1 i
        rw [List.getElem?_toArray, hx] at c1
        have Hc := hide hc
        have Hb := hide h.out.1
        clear hc h hx
        go_wp2
        refine (show Calls _ _ _ _ _ from (by simpa using Hc.out)).mono ?_
        rintro e w' (⟨rfl, hk, hs⟩ | ⟨c, rfl, hp⟩)
        · have Hs := hide (And.intro (hk.trans Hb.out) hs)
          clear hk hs c1
          go_wp2
          refine ⟨⟨rfl, i + 1, hlt, rfl, Hs⟩, ?_⟩
          simp only [intOf]
          omega
        · have Hp := hide hp
          clear hp c1
          go_wp2
          apply wp_goto
          exact ⟨rfl, _, _, _, _, _, _, _, _, _, _, _, _, _, _, _, _, rfl, Hp.out⟩
      · go_wp2
        apply wp_label
        have Hq := hide h
        clear h
        go_wp2
        simp only [Exit.jump]
        go_ret
        obtain rfl : i = n := by omega
        have := Hq.out.2
        rw [Hn.out, List.drop_length] at this
        exact ⟨_, rfl, this⟩
  · rintro a' w' ⟨v, u1, u6, u7, u8, u9, u10, u11, u12, u13, u14, u15, u16, u17, u18, u19, rfl, hp⟩
    have Hp := hide hp
    clear hp
    go_wp2
    simp only [Exit.jump]
    go_ret
    exact ⟨v, rfl, Hp.out⟩
end Go.Proofs.YtllfaffbaijgfaaGreatDoor
