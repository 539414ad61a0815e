/- A law with arguments; tables that lie ready. -/
import Derived.Test.YtnlllfokomenfaaGreatDoorE26
import Derived.OpenShut
import Derived.LaidMore
namespace Go.Proofs.Abs
open Go

theorem rel_tables {G : Glob} {w : World} (h : ∀ g l, G g = some l → g < w.heap.size ∧ ∀ (j : Nat) x, l[j]? = some x → ∃ y, w.cell? ⟨g, j, none⟩ = some y ∧ Rep w (fun b => b < w.heap.size) (fun _ => none) x y) :
    Rel G w (fun b => b < w.heap.size) (fun _ => none) [] where
  live id blk h := by simp [hget] at h
  inj id id' b h := absurd rfl h
  imm b h := h
  dom id b h := by simp at h
  glob g l hg := h g l hg

theorem calls_law {P : Program} {O : Opts} {n : Nat} {f : FuncId} {w : World} {args : List AV} {vs : Array Value} {H' : Heap} {nx' : Nat} (hm : P.follows .mixedOrders = true) (hsum : ∀ f args, O.summ f args = none) (hcx : O.cx = fun _ _ _ _ _ => none := by rfl)
    (hg : ∀ g l, O.glob g = some l → closedAll l = true) (hrel : Rel O.glob w (fun b => b < w.heap.size) (fun _ => none) []) (ha : RepL w (fun b => b < w.heap.size) (fun _ => none) args vs.toList)
    (h : runBody P O (callN P O n) f args [] 0 = some (.bool true, H', nx')) : Calls P f vs w fun e w' => e = .returned (.bool true) ∧ RowKit.Below w.heap.size w w' := by
  obtain ⟨h1, h2⟩ := calls_sound (P := P) (O := O) hm (fun f args v h => by rw [hsum] at h; cases h) hg (by rw [hcx]; exact noCall_ok') n
  obtain ⟨_, h3⟩ := body_sound (w := w) (vs := vs) hm h1 h2 h hrel ha (fun _ _ => rfl)
  refine Calls.mono h3 ?_
  rintro e w' ⟨u, rfl, ⟨⟨I', α', ev, _, hv, _⟩, _⟩⟩
  cases hv
  exact ⟨rfl, ev.os.1, ev.os.2.1, ev.os.2.2, ev.size, fun k hk => ev.frame k hk not_owned_nil⟩

/-- A table of texts, read off its datum. -/
theorem table_strings {H : Type} {enc : TypeId × Value → H} {P : Program} {w : World} {base : Nat} {spare : Nat → Bool} {held : Bool} {fuel n : Nat} {t e : TypeId} {cs : Array Value} {l : List (List UInt8)} {p : List MemPlace}
    (ht : P.underlying t = some (.array n e)) (he : P.underlying e = some .string) (hc : P.cellsOf e = 1) (hl : l.length = n) (h : DataW.trod enc P w base spare held fuel t cs.toList = some (.agg (l.map fun s => .lit (.string s)), p)) :
    ∀ (j : Nat) s, l[j]? = some s → ∃ b : ByteArray, cs[j]? = some (.string b) ∧ b.data.toList = s := by
  intro j s hj
  obtain ⟨xs, m, _, ex, hlen, hxl, hel⟩ := DataW.trod_array ht h
  have hjn : j < n := by
    rw [← hl]
    rcases Nat.lt_or_ge j l.length with h' | h'
    · exact h'
    · rw [List.getElem?_eq_none h'] at hj; cases hj
  have hE := hel j hjn
  rw [hc, Nat.mul_one, List.getElem?_eq_getElem (by omega)] at hE
  have e3 : xs.map (·.1) = l.map fun s => .lit (.string s) := (DataW.agg.inj (Prod.mk.inj ex).1).symm
  have e4 : (xs.map (·.1))[j]? = some (.lit (.string s)) := by rw [e3, List.getElem?_map, hj]; rfl
  rw [List.getElem?_map, List.getElem?_eq_getElem (by omega : j < xs.length), Option.map_some, Option.some.injEq] at e4
  obtain ⟨b, e5, e6, _⟩ := DataW.trod_string he hE
  rw [e6] at e4
  simp only [DataW.lit.injEq, Lit.string.injEq] at e4
  have e7 : ((cs.toList.drop j).take 1)[0]? = some (.string b) := by rw [e5]; rfl
  refine ⟨b, ?_, e4⟩
  rw [List.getElem?_take_of_lt (by omega), List.getElem?_drop] at e7
  simpa using e7

/-- An argument of four numbers. -/
theorem open_four {H : Type} {enc : TypeId × Value → H} {P : Program} {w : World} {base : Nat} {spare : Nat → Bool} {held : Bool} {t : TypeId} {k : IntKind} {e : TypeId} {v : Value} {d : DataW H} {ps : List MemPlace} {f0 f1 f2 f3 : Field}
    (ht : P.underlying t = some (.struct #[f0, f1, f2, f3])) (h0 : f0.type = e ∧ f0.offset = 0) (h1 : f1.type = e ∧ f1.offset = 1) (h2 : f2.type = e ∧ f2.offset = 2) (h3 : f3.type = e ∧ f3.offset = 3) (he : P.underlying e = some (.int k)) (hc : P.cellsOf e = 1) (hs : P.cellsOf t = 4)
    (hok : Value.okWide P w .any base t v) (h : DataW.Trod enc P w 0 spare held t v d ps) : ∃ a b c z : Int, v = .agg #[.int k a, .int k b, .int k c, .int k z] := by
  obtain ⟨cs, rfl, hsz⟩ := Go.WideShapes.okWide_struct ht hok
  obtain ⟨fuel, hd⟩ := h
  obtain ⟨xs, n, _, _, _, hl, hel⟩ := DataW.trod_struct ht hd
  have at' : ∀ (i : Nat) (f : Field), i < 4 → #[f0, f1, f2, f3][i]? = some f → f.type = e → f.offset = i → ∃ z, cs[i]? = some (.int k z) := fun i f hi hf hte ho => by
    have hE := hel i f hf
    rw [hte, hc, ho, List.getElem?_eq_getElem (by rw [hl]; simpa using hi)] at hE
    obtain ⟨z, e1, _, _⟩ := DataW.trod_int he hE
    have e7 : ((cs.toList.drop i).take 1)[0]? = some (.int k z) := by
      have : (Value.agg cs).cells.toList = cs.toList := rfl
      rw [← this, e1]; rfl
    rw [List.getElem?_take_of_lt (by omega), List.getElem?_drop] at e7
    exact ⟨z, by simpa using e7⟩
  obtain ⟨a, ha⟩ := at' 0 f0 (by omega) rfl h0.1 h0.2
  obtain ⟨b, hb⟩ := at' 1 f1 (by omega) rfl h1.1 h1.2
  obtain ⟨c, hc'⟩ := at' 2 f2 (by omega) rfl h2.1 h2.2
  obtain ⟨z, hz⟩ := at' 3 f3 (by omega) rfl h3.1 h3.2
  rw [hs] at hsz
  refine ⟨a, b, c, z, ?_⟩
  congr 1
  apply Array.ext_getElem?
  intro i
  match i with
  | 0 => exact ha
  | 1 => exact hb
  | 2 => exact hc'
  | 3 => exact hz
  | i + 4 => rw [Array.getElem?_eq_none (by omega), Array.getElem?_eq_none (by simp)]

end Go.Proofs.Abs
