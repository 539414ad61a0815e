/- Calls; each operation. -/
import Derived.Test.YtnlllfokomenfaaGreatDoorE13
namespace Go.Proofs.Abs
open Go

section
variable {P : Program} {G : Glob} {call : Caller} {w : World} {I : Nat → Prop} {α : Nat → Option Nat} {H : Heap} {rid nx : Nat}

theorem run_method {t : TypeId} {v' : Value} {name : String} {f : FuncId} (h : methodA P t name = some f) : ∀ n, (method (n + 1) t v' name).run P w = .ok (f, v') w := by
  intro n
  unfold methodA at h
  split at h
  · rename_i i hi
    split at h
    · rename_i m hm
      split at h
      · rename_i hp
        have hp : m.path = #[] := by simpa using hp
        split at h
        · rename_i f' e hf ht
          simp only [Option.some.injEq] at h; subst h
          simp [method, run_typeInfo' hi, hm, hp, follow, hf, receiverAt, run_underlying' ht, Place.get]
        · simp at h
        · rename_i f' d hne hf ht
          simp only [Option.some.injEq] at h; subst h
          cases d <;> first
            | (exact (hne _ rfl).elim)
            | simp [method, run_typeInfo' hi, hm, hp, follow, hf, receiverAt, run_underlying' ht, Place.get]
        · simp at h
      · simp at h
    · simp at h
  · simp at h

theorem run_callMethod {t : TypeId} {v' : Value} {name : String} {f : FuncId} {args : Array Value} (h : methodA P t name = some f) :
    (callMethod (.iface t v') name args).run P w = (callFunc f (#[v'] ++ args)).run P w := by
  have hd : P.types.size + Made.depth = (P.types.size + Made.depth - 1) + 1 := by
    have : 0 < Made.depth := by decide
    omega
  simp only [callMethod, Sem.run_bind, run_program, Result.andThen_ok]
  rw [hd, run_method h]
  rfl

def loadThrough (e : TypeId) (v : Value) : Sem Value := do loadVar e (← asAddr v)

theorem run_wrapNil {t : TypeId} {a : Addr} {s : String} : (Builtin.ssaWrapNilChk_ #[t] t #[.pointer (some a), strVal "", strVal s]).run P w = .ok (.pointer (some a)) w := rfl

theorem run_callDeref {t e : TypeId} {v' u' : Value} {name : String} {f : FuncId} {args : Array Value} (h : derefA P t name = some (e, f)) (hl : (loadThrough e v').run P w = .ok u' w) :
    (callMethod (.iface t v') name args).run P w = (callFunc f (#[u'] ++ args)).run P w := by
  have hd : P.types.size + Made.depth = (P.types.size + Made.depth - 1) + 1 := by
    have : 0 < Made.depth := by decide
    omega
  have hp : ∃ a, v' = .pointer (some a) := by
    unfold loadThrough at hl
    cases v' with
    | pointer p => cases p with
      | none => simp [asAddr, runtimePanic] at hl
      | some a => exact ⟨a, rfl⟩
    | _ => simp [asAddr, stuck] at hl
  obtain ⟨a, rfl⟩ := hp
  simp only [loadThrough, asAddr, pure_bind] at hl
  have hm : ∀ n, (method (n + 1) t (.pointer (some a)) name).run P w = .ok (f, u') w := by
    intro n
    unfold derefA at h
    split at h
    · rename_i i hi
      split at h
      · rename_i m hm
        split at h
        · rename_i hp
          have hp : m.path = #[] := by simpa using hp
          split at h
          · rename_i f' e' hf ht
            simp only [Option.some.injEq, Prod.mk.injEq] at h
            obtain ⟨rfl, rfl⟩ := h
            simp [method, run_typeInfo' hi, hm, hp, follow, hf, receiverAt, run_underlying' ht, Place.get, run_wrapNil, asAddr, hl]
          · simp at h
        · simp at h
      · simp at h
    · simp at h
  simp only [callMethod, Sem.run_bind, run_program, Result.andThen_ok]
  rw [hd, hm]
  rfl

theorem impl_callA {fn : Fn} {args cap : List AV} {args' cap' : Array Value} {e : Eff} (c : Ctx P G call w I α H rid nx) (ha : RepL w I α args args'.toList) (hc : RepL w I α cap cap'.toList)
    (h : callA P G fn args cap = some e) : Impl P G call w I α H rid nx ((invoke (.fn fn cap') args').run P w) e := by
  have via : ∀ (t : TypeId) (v : AV) (v' : Value) (name : String) (rest : List AV) (rest' : Array Value), Rep w I α v v' → RepL w I α rest rest'.toList → viaMethod P G t v name rest = some e →
      Impl P G call w I α H rid nx ((callMethod (.iface t v') name rest').run P w) e := by
    intro t v v' name rest rest' hv hr hh
    unfold viaMethod at hh
    split at hh
    · rename_i f hf
      simp only [Option.some.injEq] at hh; subst hh
      exact impl_call c (run_callMethod hf) (by simpa using RepL.cons hv hr)
    · split at hh
      · rename_i e0 f hd
        have fin : ∀ u u', (loadThrough e0 v').run P w = .ok u' w → Rep w I α u u' → Impl P G call w I α H rid nx ((callMethod (.iface t v') name rest').run P w) (.call f (u :: rest)) := fun u u' h1 h2 =>
          impl_call c (run_callDeref hd h1) (by simpa using RepL.cons h2 hr)
        unfold loadA at hh
        split at hh
        · rename_i x hx
          split at hx
          · cases hx
          · simp only [Option.map_eq_some_iff] at hx
            obtain ⟨u, hu, e1⟩ := hx
            cases e1
            simp only [Option.some.injEq] at hh; subst hh
            obtain ⟨b, base, rfl, hI, hrow⟩ := hv.fptr_row
            obtain ⟨u', h1, h2⟩ := hrow.part (P := P) hu
            exact fin _ u' (by simp [loadThrough, asAddr, h1]) h2
          · rename_i g off
            split at hx
            · rename_i l hl
              simp only [Option.map_eq_some_iff] at hx
              obtain ⟨u, hu, e1⟩ := hx
              cases e1
              simp only [Option.some.injEq] at hh; subst hh
              cases hv
              have hrow : Row w I α g 0 l := fun j x hx => by
                obtain ⟨y, h1, h2⟩ := (c.rel.glob g l hl).2 j x hx
                exact ⟨y, by rw [Nat.zero_add]; exact h1, h2⟩
              obtain ⟨u', h1, h2⟩ := hrow.part (P := P) hu
              rw [Nat.zero_add] at h1
              exact fin _ u' (by simp [loadThrough, asAddr, h1]) h2
            · cases hx
          · cases hx
        · rename_i id k hx
          simp only [Option.some.injEq] at hh; subst hh
          split at hx
          · simp only [Option.some.injEq, Eff.read.injEq] at hx
            obtain ⟨rfl, rfl⟩ := hx
            cases hv with
            | ptr _ off b hb =>
              refine impl_read c fun blk b' e' hg hα hB hk => ?_
              rw [hb] at hα; cases hα
              simp only [Option.bind_eq_some_iff] at hk
              obtain ⟨e1, hk1, hk2⟩ := hk
              split at hk1
              · simp only [Option.map_eq_some_iff] at hk1
                obtain ⟨u, hu, rfl⟩ := hk1
                simp only [callWith, Option.some.injEq] at hk2; subst hk2
                obtain ⟨u', h1, h2⟩ := hB.row.part (P := P) hu
                rw [Nat.zero_add] at h1
                exact fin _ u' (by simp [loadThrough, asAddr, h1]) h2
              · cases hk1
          · simp only [Option.map_eq_some_iff] at hx
            obtain ⟨u, _, hx⟩ := hx; cases hx
          · split at hx
            · simp only [Option.map_eq_some_iff] at hx
              obtain ⟨u, _, hx⟩ := hx; cases hx
            · cases hx
          · cases hx
        · cases hh
      · cases hh
  unfold callA at h
  split at h
  · simp only [Option.some.injEq] at h; subst h
    exact impl_call (vs := args' ++ cap') c (by simp [invoke]) (by simpa using ha.append hc)
  · rename_i name
    split at h
    · rename_i t v rest
      obtain ⟨y, r', e1, h1, h2⟩ := ha.cons_inv
      cases h1 with
      | iface _ _ v' hv =>
        have e2 : args' = (Value.iface t v' :: r').toArray := by rw [← e1]
        have h0 : args'[0]? = some (.iface t v') := by rw [e2]; rfl
        have h3 : (args'.extract 1 args'.size).toList = r' := by rw [e2]; simp
        have := via t v v' name rest (args'.extract 1 args'.size) hv (by rw [h3]; exact h2) h
        simpa [invoke, h0] using this
    · simp at h
  · rename_i t name
    split at h
    · rename_i r rest
      obtain ⟨y, r', e1, h1, h2⟩ := ha.cons_inv
      have e2 : args' = (y :: r').toArray := by rw [← e1]
      have h0 : args'[0]? = some y := by rw [e2]; rfl
      have h3 : (args'.extract 1 args'.size).toList = r' := by rw [e2]; simp
      split at h
      · rename_i ms ht
        split at h
        · rename_i t' v
          cases h1 with
          | iface _ _ v' hv =>
            have := via t' v v' name rest (args'.extract 1 args'.size) hv (by rw [h3]; exact h2) h
            simpa [invoke, h0, run_underlying' ht] using this
        · simp at h
      · rename_i d hni ht
        have := via t r y name rest (args'.extract 1 args'.size) h1 (by rw [h3]; exact h2) h
        cases d <;> first
          | (exact (hni _ rfl).elim)
          | simpa [invoke, h0, run_underlying' ht] using this
      · simp at h
    · simp at h
  · simp at h

theorem impl_builtin {b : Builtin} {at' : Array TypeId} {ty : TypeId} {consts : Array Bool} {args : List AV} {args' : Array Value} {e : Eff} (c : Ctx P G call w I α H rid nx) (ha : RepL w I α args args'.toList)
    (h : builtinA P b at' args = some e) : Impl P G call w I α H rid nx ((builtin b at' ty consts args').run P w) e := by
  unfold builtinA at h
  split at h
  · rename_i s x
    obtain ⟨y, r', e1, h1, h2⟩ := ha.cons_inv
    obtain ⟨z, r'', e2, h3, h4⟩ := h2.cons_inv
    have e3 : args' = #[y, z] := by
      apply Array.ext'; rw [e1, e2, h4.nil_inv]
    subst e3
    have := implV_append (ty := ty) c h1 h3 h
    simpa [builtin, ImplV] using this
  · obtain ⟨y, r', e1, h1, h2⟩ := ha.cons_inv
    have e3 : args' = #[y] := by apply Array.ext'; rw [e1, h2.nil_inv]
    subst e3
    have := implV_len (ty := ty) c h1 h
    simpa [builtin, ImplV] using this
  · rename_i d x
    obtain ⟨y, r', e1, h1, h2⟩ := ha.cons_inv
    obtain ⟨z, r'', e2, h3, h4⟩ := h2.cons_inv
    have e3 : args' = #[y, z] := by
      apply Array.ext'; rw [e1, e2, h4.nil_inv]
    subst e3
    have := implV_copy (ty := ty) c h1 h3 h
    simpa [builtin, ImplV] using this
  · obtain ⟨y, r', e1, h1, h2⟩ := ha.cons_inv
    have e3 : args' = #[y] := by apply Array.ext'; rw [e1, h2.nil_inv]
    subst e3
    have := implV_clear (ty := ty) c h1 h
    simpa [builtin, ImplV] using this
  · rename_i m k
    obtain ⟨y, r', e1, h1, h2⟩ := ha.cons_inv
    obtain ⟨z, r'', e2, h3, h4⟩ := h2.cons_inv
    have e3 : args' = #[y, z] := by
      apply Array.ext'; rw [e1, e2, h4.nil_inv]
    subst e3
    have := implV_delete (ty := ty) c h1 h3 h
    simpa [builtin, ImplV] using this
  · simp only [Option.map_eq_some_iff] at h
    obtain ⟨v, hv, rfl⟩ := h
    obtain ⟨v', h1, h2⟩ := run_min (P := P) (at' := at') (ty := ty) ha hv
    exact impl_val c (by simp only [builtin, Sem.run_bind]; rw [show args'.toList.toArray = args' from by simp] at h1; rw [h1]; rfl) h2
  · simp only [Option.map_eq_some_iff] at h
    obtain ⟨v, hv, rfl⟩ := h
    obtain ⟨v', h1, h2⟩ := run_max (P := P) (at' := at') (ty := ty) ha hv
    exact impl_val c (by simp only [builtin, Sem.run_bind]; rw [show args'.toList.toArray = args' from by simp] at h1; rw [h1]; rfl) h2
  · simp at h

theorem valO_some {o : Option AV} {e : Eff} (h : valO o = some e) : ∃ v, o = some v ∧ e = .val v := by
  cases o with
  | none => simp [valO] at h
  | some v => simp [valO] at h; exact ⟨v, rfl, h.symm⟩

theorem e1_some {ev : Operand → Option AV} {x : Operand} {k : AV → Option Eff} {e : Eff} (h : e1 ev x k = some e) : ∃ v, ev x = some v ∧ k v = some e := by
  unfold e1 at h; split at h
  · rename_i v hv; exact ⟨v, hv, h⟩
  · simp at h
theorem e2_some {ev : Operand → Option AV} {x y : Operand} {k : AV → AV → Option Eff} {e : Eff} (h : e2 ev x y k = some e) : ∃ v u, ev x = some v ∧ ev y = some u ∧ k v u = some e := by
  unfold e2 at h; split at h
  · rename_i v u hv hu; exact ⟨v, u, hv, hu, h⟩
  · simp at h
theorem e3_some {ev : Operand → Option AV} {x y z : Operand} {k : AV → AV → AV → Option Eff} {e : Eff} (h : e3 ev x y z k = some e) : ∃ v u t, ev x = some v ∧ ev y = some u ∧ ev z = some t ∧ k v u t = some e := by
  unfold e3 at h; split at h
  · rename_i v u t hv hu ht; exact ⟨v, u, t, hv, hu, ht, h⟩
  · simp at h

theorem Rep.bool_val {b : Bool} {v : Value} (h : Rep w I α (.bool b) v) : v = .bool b := by cases h; rfl

theorem run_nilCheck {o : Oper} {ρ : Operand → Value} {x : Operand} {v u : AV} (ho : o.op = .nilCheck x) (hr : Rep w I α v (ρ x)) (hu : nilCheckA v = some u) :
    u = v ∧ (execOp ρ o).run P w = .ok (.value (ρ x)) w := by
  generalize hy : ρ x = y at hr
  unfold execOp
  simp only [ho, hy]
  unfold nilCheckA at hu
  split at hu <;> (try (simp at hu; done)) <;> (simp only [Option.some.injEq] at hu; subst hu)
  · cases hr; exact ⟨rfl, rfl⟩
  · obtain ⟨b, base, rfl, _⟩ := hr.fptr_row; exact ⟨rfl, rfl⟩
  · cases hr; exact ⟨rfl, rfl⟩
  · cases hr; exact ⟨rfl, rfl⟩
  · obtain ⟨a', c', rfl, _⟩ := Rep.func_iff.1 hr; exact ⟨rfl, rfl⟩

set_option maxHeartbeats 400000 in
theorem eff_sound {o : Oper} {s : Tr} {a : Act} {e : Eff} (c : Ctx P G call w I α H rid nx) (hs : SlotsRel w I α s a.tmps) (h : effA P G (evA s) o = some e) :
    Impl P G call w I α H rid nx ((execOp a.eval o).run P w) e := by
  have V : ∀ {s' : Sem Value} {e' : Eff}, ImplV P G call w I α H rid nx s' e' → Impl P G call w I α H rid nx ((do pure (Next.value (← s')) : Sem Next).run P w) e' := fun h => by
    simpa [ImplV] using h
  have U : ∀ {s' : Sem Unit} {e' : Eff}, ImplU P G call w I α H rid nx s' e' → Impl P G call w I α H rid nx ((do s'; pure Next.skip : Sem Next).run P w) e' := fun h => by
    simpa [ImplU] using h
  unfold effA at h
  unfold execOp
  split at h
  · rename_i x ho
    obtain ⟨v, hv, rfl⟩ := valO_some h
    simp only [ho]
    exact impl_val c rfl (rep_ev hs hv)
  · rename_i x ho
    obtain ⟨v, hv, rfl⟩ := valO_some h
    simp only [ho]
    exact impl_val c rfl (rep_ev hs hv)
  · rename_i cnd x y ho
    simp only [ho]
    unfold ePick at h
    split at h
    · rename_i hc
      obtain ⟨v, hv, rfl⟩ := valO_some h
      have hb : a.eval cnd = .bool true := (rep_ev hs hc).bool_val
      exact impl_val c (by simp [hb, asBool]) (rep_ev hs hv)
    · rename_i hc
      obtain ⟨v, hv, rfl⟩ := valO_some h
      have hb : a.eval cnd = .bool false := (rep_ev hs hc).bool_val
      exact impl_val c (by simp [hb, asBool]) (rep_ev hs hv)
    · simp at h
  · rename_i t ho
    simp only [ho]
    unfold eAlloc at h
    split at h
    · rename_i z hz
      simp only [boxEff, Option.some.injEq] at h; subst h
      exact V (implV_alloc c hz)
    · simp at h
  · rename_i t x ho
    simp only [ho]
    obtain ⟨v, hv, h⟩ := e1_some h
    simp only [boxEff, Option.some.injEq] at h; subst h
    exact V (implV_box (t := t) c (rep_ev hs hv) (by simp [Instr.box, newVar, newRow]))
  · rename_i t parts ho
    simp only [ho]
    unfold eBuild at h
    split at h
    · rename_i ps hps
      obtain ⟨v, hv, rfl⟩ := valO_some h
      obtain ⟨v', h1, h2⟩ := rep_buildA (P := P) (parts' := parts.map fun (i, x) => (i, a.eval x)) (by simpa using rep_mapParts hs hps) hv
      exact V (implV_val c h1 h2)
    · simp at h
  · rename_i t n parts ho
    simp only [ho]
    unfold eBuildSlice at h
    split at h
    · rename_i ps hps
      obtain ⟨v, hv, rfl⟩ := valO_some h
      have hp : RepP w I α ps (parts.map fun (i, x) => (i, a.eval x)).toList := by
        rw [Array.toList_map]; exact rep_mapParts hs hps
      have hfin := implV_buildSlice (t := t) (n := n) c hp hv
      exact V hfin
    · simp at h
  · rename_i t x ho
    simp only [ho]
    obtain ⟨v, hv, h⟩ := e1_some h
    exact V (implV_load c (rep_ev hs hv) h)
  · rename_i t x y ho
    simp only [ho]
    obtain ⟨v, u, hv, hu, h⟩ := e2_some h
    exact U (implU_store c (rep_ev hs hv) (rep_ev hs hu) h)
  · rename_i x ho
    obtain ⟨v, hv, h⟩ := e1_some h
    obtain ⟨u, hu, rfl⟩ := valO_some h
    obtain ⟨rfl, h1⟩ := run_nilCheck (P := P) ho (rep_ev hs hv) hu
    unfold execOp at h1
    exact impl_val c h1 (rep_ev hs hv)
  · rename_i op t x y t' ho
    simp only [ho]
    obtain ⟨v, u, hv, hu, h⟩ := e2_some h
    obtain ⟨r, hr, rfl⟩ := valO_some h
    obtain ⟨v', h1, h2⟩ := run_bin (xo := x) (yo := y) (rep_ev hs hv) (rep_ev hs hu) hr
    exact V (implV_val c h1 h2)
  · rename_i op t x ho
    simp only [ho]
    obtain ⟨v, hv, h⟩ := e1_some h
    obtain ⟨u, hu, rfl⟩ := valO_some h
    obtain ⟨v', h1, h2⟩ := run_un (P := P) (rep_ev hs hv) hu
    exact V (implV_val c h1 h2)
  · rename_i s' d x ho
    simp only [ho]
    obtain ⟨v, hv, h⟩ := e1_some h
    exact V (implV_convert c (rep_ev hs hv) h)
  · rename_i t x ho
    simp only [ho]
    unfold eMkIface at h
    split at h
    · simp at h
    · rename_i d hni ht
      split at h
      · rename_i v hv
        simp only [Option.some.injEq] at h; subst h
        refine V (implV_val c (v' := .iface t (a.eval x)) ?_ (.iface t _ _ (rep_ev hs hv)))
        cases d <;> first | (exact (hni _ rfl).elim) | simp [Instr.makeInterface, run_underlying' ht]
      · simp at h
    · simp at h
  · rename_i fn x y ho
    simp only [ho]
    unfold eMkFunc at h
    split at h
    · rename_i x' y' hx hy
      simp only [Option.some.injEq] at h; subst h
      exact V (implV_val c (v' := .func fn (x.map a.eval) (y.map a.eval)) (by simp [Instr.makeFunc]) (Rep.func_iff.2 ⟨_, _, rfl, by simpa using rep_mapOp hs hx, by simpa using rep_mapOp hs hy⟩))
    · simp at h
  · rename_i t ho
    simp only [ho]
    simp only [Option.some.injEq] at h; subst h
    refine V (impl_new c (w' := { w with heap := w.heap.push (.map #[] 0) }) (v' := .map (some w.heap.size)) (by simp [Instr.makeMap]) rfl (fun α' hα rel => ⟨#[], by simp, rfl, rfl, by simp⟩) (fun α' hα => .map _ _ hα))
  · rename_i t l k ho
    simp only [ho]
    obtain ⟨v, u, hv, hu, h⟩ := e2_some h
    exact V (implV_makeSlice c (rep_ev hs hv) (rep_ev hs hu) h)
  · rename_i t x lo hi mx ho
    simp only [ho]
    unfold eSlice at h
    split at h
    · rename_i x' lo' hi' mx' h1 h2 h3 h4
      exact V (implV_slice c (rep_ev hs h1) (rep_mapOpt hs h2) (rep_mapOpt hs h3) (rep_mapOpt hs h4) h)
    · simp at h
  · rename_i t x f ho
    simp only [ho]
    obtain ⟨v, hv, h⟩ := e1_some h
    obtain ⟨u, hu, rfl⟩ := valO_some h
    obtain ⟨v', h1, h2⟩ := run_fieldAt (P := P) (rep_ev hs hv) hu
    exact V (implV_val c h1 h2)
  · rename_i t x f ho
    simp only [ho]
    unfold eField at h
    split at h
    · rename_i fd cs hf hx
      obtain ⟨v, hv, rfl⟩ := valO_some h
      obtain ⟨v', h1, h2⟩ := run_field (P := P) (rep_ev hs hx) hf hv
      exact V (implV_val c h1 h2)
    · simp at h
  · rename_i t x i ho
    simp only [ho]
    obtain ⟨v, u, hv, hu, h⟩ := e2_some h
    obtain ⟨r, hr, rfl⟩ := valO_some h
    obtain ⟨v', h1, h2⟩ := run_indexAt (P := P) (rep_ev hs hv) (rep_ev hs hu) hr
    exact V (implV_val c h1 h2)
  · rename_i t x i ho
    simp only [ho]
    obtain ⟨v, u, hv, hu, h⟩ := e2_some h
    obtain ⟨r, hr, rfl⟩ := valO_some h
    obtain ⟨v', h1, h2⟩ := run_indexA (P := P) (rep_ev hs hv) (rep_ev hs hu) hr
    exact V (implV_val c h1 h2)
  · rename_i t m k ok ho
    simp only [ho]
    obtain ⟨v, u, hv, hu, h⟩ := e2_some h
    exact V (implV_lookup c (rep_ev hs hv) (rep_ev hs hu) h)
  · rename_i t m k x ho
    simp only [ho]
    obtain ⟨v, u, r, hv, hu, hr, h⟩ := e3_some h
    exact U (implU_mapUpdate c (rep_ev hs hv) (rep_ev hs hu) (rep_ev hs hr) h)
  · rename_i x t t' ok ho
    simp only [ho]
    obtain ⟨v, hv, h⟩ := e1_some h
    obtain ⟨u, hu, rfl⟩ := valO_some h
    obtain ⟨v', h1, h2⟩ := run_typeAssert (P := P) (xt := t) (rep_ev hs hv) hu
    exact V (implV_val c h1 h2)
  · rename_i x i ho
    simp only [ho]
    unfold eExtract at h
    split at h
    · rename_i vs hvs
      obtain ⟨v, hv, rfl⟩ := valO_some h
      obtain ⟨vs', hq, hr⟩ := Rep.tuple_iff.1 (rep_ev hs hvs)
      rw [getN_eq] at hv
      obtain ⟨y, h1, h2⟩ := hr.get hv
      refine V (implV_val c (v' := y) ?_ h2)
      rw [hq]
      have : vs'[i]? = some y := by simpa using h1
      simp [Instr.extract, this]
    · simp at h
  · rename_i t x ho
    simp only [ho]
    obtain ⟨v, hv, h⟩ := e1_some h
    exact V (implV_range c (rep_ev hs hv) h)
  · rename_i x b ho
    simp only [ho]
    obtain ⟨v, hv, h⟩ := e1_some h
    exact V (implV_next c (rep_ev hs hv) h)
  · rename_i x ho
    simp only [ho]
    obtain ⟨v, hv, h⟩ := e1_some h
    exact V (implV_entry c (rep_ev hs hv) h)
  · rename_i cl ho
    simp only [ho]
    unfold eCall at h
    split at h
    · simp at h
    · rename_i args hargs
      have hra : RepL w I α args (cl.args.map a.eval).toList := by simpa using rep_mapOp hs hargs
      split at h
      · rename_i b hcb
        simp only [resolve, hcb, Sem.run_bind, Sem.run_pure, Result.andThen_ok, invoke]
        exact impl_builtin c hra h
      · rename_i f hcf
        split at h
        · rename_i fn first cap hf
          obtain ⟨first', cap', hq, h1, h2⟩ := Rep.func_iff.1 (rep_ev hs hf)
          have := impl_callA c (args' := first' ++ cl.args.map a.eval) (by simpa using h1.append hra) h2 h
          simpa [resolve, hcf, hq, Deferred.ofValue] using this
        · simp at h
      · rename_i r name hcr
        split at h
        · rename_i v hv
          have := impl_callA c (args' := #[a.eval r] ++ cl.args.map a.eval) (cap' := #[]) (by simpa using RepL.cons (rep_ev hs hv) hra) .nil h
          simpa [resolve, hcr] using this
        · simp at h
  · simp at h

end
end Go.Proofs.Abs
