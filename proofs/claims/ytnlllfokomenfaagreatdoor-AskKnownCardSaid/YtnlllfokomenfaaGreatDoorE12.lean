/- Conversions, make, copy, clear, len, min, max, maps. -/
import Derived.Test.YtnlllfokomenfaaGreatDoorE11
namespace Go.Proofs.Abs
open Go

section
variable {P : Program} {G : Glob} {call : Caller} {w : World} {I : Nat → Prop} {α : Nat → Option Nat} {H : Heap} {rid nx : Nat}

theorem bytesOf_rep : ∀ {cs : List AV} {vs : List Value} {s : List UInt8}, RepL w I α cs vs → bytesOf cs = some s → ∃ ns : List Int, vs = ns.map (Value.int .u8) ∧ s = ns.map fun n => UInt8.ofNat n.toNat
  | [], vs, s, h, hb => by
    rw [h.nil_inv]
    simp [bytesOf] at hb; subst hb
    exact ⟨[], rfl, rfl⟩
  | x :: t, vs, s, h, hb => by
    obtain ⟨y, v', rfl, h1, h2⟩ := h.cons_inv
    unfold bytesOf at hb
    split at hb
    · rename_i heq; cases heq
    · rename_i n t' heq
      cases heq
      simp only [Option.map_eq_some_iff] at hb
      obtain ⟨s', h3, rfl⟩ := hb
      obtain ⟨ns, rfl, rfl⟩ := bytesOf_rep h2 h3
      cases h1
      exact ⟨n :: ns, rfl, rfl⟩
    · simp at hb

theorem foldl_push : ∀ (ns : List Int) (b : ByteArray), (ns.foldl (fun r n => r.push (UInt8.ofNat n.toNat)) b).data.toList = b.data.toList ++ ns.map fun n => UInt8.ofNat n.toNat
  | [], b => by simp
  | n :: ns, b => by
    simp only [List.foldl_cons]
    rw [foldl_push ns]
    simp [ByteArray.push]

theorem bytes_cells {es : List AV} : ∀ {s : List UInt8}, bytesOf es = some s → flat es = es ∧ (∀ e ∈ es, e.cells.length = 1) := by
  induction es with
  | nil => intro s _; exact ⟨rfl, by simp⟩
  | cons x t ih =>
    intro s h
    unfold bytesOf at h
    split at h
    · rename_i heq; cases heq
    · rename_i n t' heq
      cases heq
      simp only [Option.map_eq_some_iff] at h
      obtain ⟨s', h3, rfl⟩ := h
      obtain ⟨h1, h2⟩ := ih h3
      refine ⟨by simp [flat, AV.cells, h1], fun e he => ?_⟩
      rcases List.mem_cons.1 he with rfl | he
      · rfl
      · exact h2 e he
    · simp at h

theorem allSize_of {sz : Nat} : ∀ {l : List AV}, (∀ a ∈ l, a.cells.length = sz) → allSize sz l = true
  | [], _ => rfl
  | x :: t, h => by
    simp only [allSize, Bool.and_eq_true]
    exact ⟨by rw [lenN_eq]; exact beq_iff.2 (h x (by simp)), allSize_of fun a ha => h a (by simp [ha])⟩

theorem toBytes_flat : ∀ (s : List UInt8), flat (toBytes s) = toBytes s ∧ (∀ e ∈ toBytes s, e.cells.length = 1) ∧ (toBytes s).length = s.length
  | [] => ⟨rfl, by simp [toBytes], rfl⟩
  | b :: t => by
    obtain ⟨h1, h2, h3⟩ := toBytes_flat t
    refine ⟨by simp [toBytes, flat, AV.cells, h1], fun e he => ?_, by simp [toBytes, h3]⟩
    simp only [toBytes, List.mem_cons] at he
    rcases he with rfl | he
    · rfl
    · exact h2 e he

theorem isByteType_eq {e : TypeId} (h : isByteType P e = true) : P.underlying e = some (.int .u8) := by
  unfold isByteType at h
  split at h
  · assumption
  · simp at h

theorem freeze_heap (w : World) (b n : Nat) (c : Array Value) (e : TypeId) (hb : w.heap[b]? = some (.cells c e (0, 0))) :
    ∃ fr, (w.freeze ⟨b, n, none⟩ 1).heap[b]? = some (.cells c e fr) ∧ (w.freeze ⟨b, n, none⟩ 1).heap.size = w.heap.size ∧ ∀ k, k ≠ b → (w.freeze ⟨b, n, none⟩ 1).heap[k]? = w.heap[k]? := by
  refine ⟨(n, n + 1), ?_, by simp [World.freeze], fun k hk => by simp [World.freeze, Array.getElem?_modify, Ne.symm hk]⟩
  simp [World.freeze, Array.getElem?_modify, hb]

theorem one_cells {a : AV} (h : a.one = true) : a.cells = [a] := by cases a <;> simp_all [AV.one, AV.cells]
theorem flat_allOne : ∀ {l : List AV}, allOne l = true → flat l = l
  | [], _ => rfl
  | a :: t, h => by
    simp only [allOne, Bool.and_eq_true] at h
    simp only [flat, one_cells h.1, flat_allOne h.2]
    rfl

theorem implV_convert {src dst : TypeId} {x : AV} {x' : Value} {e : Eff} (c : Ctx P G call w I α H rid nx) (hx : Rep w I α x x') (h : convA P src dst x = some e) :
    ImplV P G call w I α H rid nx (convert src dst x') e := by
  unfold convA at h
  split at h
  · rename_i d k k' n hs hd
    simp only [Option.some.injEq] at h; subst h
    cases hx
    exact implV_val c (by simp [convert, run_underlying' hs, run_underlying' hd, Conv.intToInt, wrapA_eq]) (.int _ _)
  · rename_i d s hs hd
    simp only [Option.some.injEq] at h; subst h
    cases hx with
    | str _ b hb => exact implV_val c (by simp [convert, run_underlying' hs, run_underlying' hd]) (.str _ b hb)
  · rename_i d e0 s hs hd
    split at h
    · rename_i hbt
      have hu := isByteType_eq hbt
      simp only [Option.some.injEq] at h; subst h
      cases hx with
      | str _ b hb =>
        have hsz : b.size = s.length := by rw [← hb]; exact Array.length_toList.symm
        obtain ⟨cap, hcapd⟩ : ∃ cap, cap = (Question.appendCap b.size 0 e0).cut (w.tape w.drawn (.appendCap b.size 0 e0)) := ⟨_, rfl⟩
        obtain ⟨cells, hcells⟩ : ∃ cells : Array Value, cells = (b.data.map fun b => Value.int .u8 b.toNat) ++ Array.replicate (cap - b.size) (.int .u8 0) := ⟨_, rfl⟩
        have hcap : b.size ≤ cap := by rw [hcapd]; exact grownCap_ge w b.size 0 e0
        have hcs : cells.size = cap := by
          rw [hcells]
          simp only [Array.size_append, Array.size_map, Array.size_replicate]
          have : b.data.size = b.size := rfl
          omega
        have hpush : (w.drew.alloc (.cells cells e0)).heap = w.heap.push (.cells cells e0) := rfl
        have hnew : (w.drew.alloc (.cells cells e0)).heap[w.heap.size]? = some (.cells cells e0) := by rw [hpush]; simp
        obtain ⟨fr, f1, f2, f3⟩ := freeze_heap (w.drew.alloc (.cells cells e0)) w.heap.size cap cells e0 hnew
        have hheap : ((w.drew.alloc (.cells cells e0)).freeze ⟨w.heap.size, cap, none⟩ 1).heap = w.heap.push (.cells cells e0 fr) := by
          apply Array.ext_getElem?
          intro k
          by_cases hk : k = w.heap.size
          · subst hk; rw [f1]; simp
          · rw [f3 k hk, Array.getElem?_push, if_neg hk, hpush, Array.getElem?_push, if_neg hk]
        have hms : (markStringish ⟨w.heap.size, 0, none⟩).run P (w.drew.alloc (.cells cells e0)) = .ok () ((w.drew.alloc (.cells cells e0)).freeze ⟨w.heap.size, cap, none⟩ 1) := by
          have hsh : (w.drew.alloc (.cells cells e0)).shape? w.heap.size = some (e0, cap) := by
            simp only [World.shape?, hnew, hcs]
          simp [markStringish, hsh]
        have hrun : (convert src dst (.string b)).run P w = .ok (.slice (some ⟨w.heap.size, 0, none⟩) b.size cap) ((w.drew.alloc (.cells cells e0)).freeze ⟨w.heap.size, cap, none⟩ 1) := by
          simp [convert, run_underlying' hs, run_underlying' hd, run_underlying' hu, Conv.stringToBytes, Question.forced, newRow, ← hcapd, ← hcells, hms]
        refine impl_newF c (by rw [hrun]; rfl) hheap (fun I' _ hI rel ev => ?_)
        have hfl : flat (toBytes s) = toBytes s ∧ (∀ e ∈ toBytes s, e.cells.length = 1) ∧ (toBytes s).length = s.length := toBytes_flat s
        have hb' : b.size = (toBytes s).length := by rw [hfl.2.2, hsz]
        rw [hb']
        refine rep_fsl_row (sz := 1) hI hfl.2.1 (by omega) (by simp) ?_
        rw [hfl.1]
        intro j x hx
        have hr := toBytes_rep (w := (w.drew.alloc (.cells cells e0)).freeze ⟨w.heap.size, cap, none⟩ 1) (I := I') (α := α) s
        obtain ⟨y, h1, h2⟩ := hr.get hx
        refine ⟨y, ?_, h2⟩
        rw [Nat.zero_add]
        simp only [World.cell?, f1, Option.isSome_none, Bool.false_eq_true, if_false]
        have hj : j < s.length := by
          rcases Nat.lt_or_ge j s.length with h' | h'
          · exact h'
          · rw [List.getElem?_eq_none (by simpa using h')] at h1; cases h1
        rw [hcells, Array.getElem?_append_left (by simp only [Array.size_map]; have : b.data.size = b.size := rfl; omega), ← h1, ← hb]
        simp
    · simp at h
  · rename_i e1 e0 hs hd
    split at h
    · rename_i hc
      simp only [Bool.and_eq_true, decide_eq_true_eq] at hc
      obtain ⟨hc1, hc2⟩ := hc
      subst hc1
      have hu := isByteType_eq hc2
      unfold shutA at h
      split at h
      · rename_i id len
        simp only [Option.some.injEq] at h; subst h
        cases hx with
        | rsl _ _ _ _ _ cap b hb hcap ho =>
          obtain ⟨et, n, hshape, hcapn⟩ := ho rfl
          refine impl_shut c fun blk b' v hg hα hB hk => ?_
          rw [hb] at hα; cases hα
          split at hk
          · rename_i l
            split at hk
            · rename_i cs hcs
              split at hk
              · rename_i hone
                simp only [Option.some.injEq] at hk; subst hk
                have row := hB.row
                obtain ⟨cur, ee, k1, k2, k3⟩ := hB
                obtain ⟨fr, f1, f2, f3⟩ := freeze_heap w b n cur ee k1
                obtain ⟨q1, q2, q3⟩ := chunk_eq _ _ _ _ hcs
                have hms : (markStringish ⟨b, 0, none⟩).run P w = .ok () (w.freeze ⟨b, n, none⟩ 1) := by
                  simp [markStringish, hshape]
                have hrun : (convert src src (.slice (some ⟨b, 0, none⟩) len cap)).run P w = .ok (.slice (some ⟨b, 0, none⟩) len cap) (w.freeze ⟨b, n, none⟩ 1) := by
                  simp [convert, run_underlying' hs, run_underlying' hu, hms]
                have hcell : ∀ o, (w.freeze ⟨b, n, none⟩ 1).cell? ⟨b, o, none⟩ = w.cell? ⟨b, o, none⟩ := fun o => by
                  simp [World.cell?, f1, k1]
                rw [hrun]
                refine post_shut c hg hb f2 f3 (by simp [World.shape?, f1, k1]) (fun I' hI hIb ev => ?_)
                rw [← q2]
                refine rep_fsl_row (sz := 1) hIb (fun a ha => by rw [one_cells (allOne_mem hone a ha)]; rfl) (by rw [q2]; exact hcap) (by simp) ?_
                rw [flat_allOne hone]
                intro j x hx
                have hj : l[j]? = some x := by
                  rw [q1] at hx
                  have hlt : j < len := by
                    rcases Nat.lt_or_ge j len with h' | h'
                    · exact h'
                    · rw [List.getElem?_eq_none (by simp; omega)] at hx; cases hx
                  rw [List.getElem?_take_of_lt hlt] at hx
                  simpa using hx
                obtain ⟨y, r1, r2⟩ := row j x hj
                exact ⟨y, by rw [hcell]; exact r1, r2.ev c.rel ev⟩
              · simp at hk
            · simp at hk
          · simp at hk
      · simp at h
    · simp at h
  · rename_i e0 hs hd hns
    clear hns
    split at h
    · rename_i hbt
      have hu := isByteType_eq hbt
      have conv : ∀ a l cp, x' = .slice a l cp → (convert src dst x').run P w = (Conv.bytesToString x').run P w := fun a l cp he => by
        rw [he]; exact run_convert_bytes_string w src dst e0 a l cp hs hu hd
      unfold convToStr at h
      split at h
      · rename_i full es
        cases hbo : bytesOf es with
        | none => simp [hbo, strO] at h
        | some s =>
          simp only [hbo, strO, Option.some.injEq] at h; subst h
          obtain ⟨hfl, hone⟩ := bytes_cells hbo
          obtain ⟨a, cap, vs, rfl, _, _, h1, h2, h3⟩ := fsl_flat (P := P) hx (allSize_of hone)
          rw [hfl] at h1
          obtain ⟨ns, rfl, rfl⟩ := bytesOf_rep h1 hbo
          have hf := h3 es.length w (Nat.le_refl _) rfl
          refine implV_val c (v' := .string (ns.foldl (fun r n => r.push (UInt8.ofNat n.toNat)) ByteArray.empty)) ?_ (.str _ _ (by rw [foldl_push]; rfl))
          rw [conv _ _ _ rfl]
          cases a with
          | none =>
            simp only [Builtin.firstCells, Sem.run_pure, Result.ok.injEq, and_true] at hf
            have : ns = [] := by
              have hl := congrArg Array.size hf
              simp at hl h2
              have : ns.length = 0 := by omega
              exact List.eq_nil_of_length_eq_zero this
            subst this
            simp [Conv.bytesToString]
          | some a =>
            simp only [Builtin.firstCells, Nat.mul_one] at hf
            refine run_bytesToString w a es.length cap ns ?_
            rw [hf]
            congr 2
            rw [List.take_of_length_le (by rw [h2]; omega)]
      · simp only [Option.some.injEq] at h; subst h
        cases hx
        refine implV_val c (v' := .string .empty) ?_ (.str _ _ rfl)
        rw [conv _ _ _ rfl]
        simp [Conv.bytesToString]
      · rename_i own id off len sz
        simp only [Option.some.injEq] at h; subst h
        cases hx with
        | rsl _ _ _ _ _ cap b hb hcap ho =>
          refine impl_read c fun blk b' e' hg hα hB hk => ?_
          rw [hb] at hα; cases hα
          split at hk
          · rename_i l
            split at hk
            · rename_i cs hcs
              cases hbo : bytesOf cs with
              | none => simp [hbo, strO] at hk
              | some s =>
                simp only [hbo, strO, Option.some.injEq] at hk; subst hk
                obtain ⟨vs, h1, h2, h3⟩ := hB.row.chunk (P := P) hcs
                obtain ⟨ns, rfl, rfl⟩ := bytesOf_rep h3 hbo
                rw [Nat.zero_add] at h2
                refine implV_val c (v' := .string (ns.foldl (fun r n => r.push (UInt8.ofNat n.toNat)) ByteArray.empty)) ?_ (.str _ _ (by rw [foldl_push]; rfl))
                rw [conv _ _ _ rfl]
                exact run_bytesToString w _ len cap ns h2
            · simp at hk
          · simp at hk
      · simp at h
    · simp at h
  · simp at h


/-! ### make, len, copy, clear -/

theorem implV_makeSlice {t : TypeId} {l k : AV} {l' k' : Value} {e : Eff} (c : Ctx P G call w I α H rid nx) (hl : Rep w I α l l') (hk : Rep w I α k k') (h : makeSliceA P t l k = some e) :
    ImplV P G call w I α H rid nx (Instr.makeSlice t l' k') e := by
  unfold makeSliceA at h
  split at h
  · rename_i el n m he h1 h2
    have ht := elemOfA_eq he
    obtain ⟨k1, rfl⟩ := natOf_rep hl h1
    obtain ⟨k2, rfl⟩ := natOf_rep hk h2
    split at h
    · rename_i i z hi hz
      split at h
      · rename_i hc
        simp only [Bool.and_eq_true] at hc
        have c1 := Nat.le_of_ble_eq_true hc.1.1.1.1
        have c2 := Nat.le_of_ble_eq_true hc.1.1.1.2
        have c3 := Nat.le_of_ble_eq_true hc.1.1.2
        have c4 : z.cells.length = i.size := by have := hc.1.2; rw [lenN_eq] at this; exact beq_iff.1 this
        have c5 : 0 < i.size := by simpa using hc.2
        simp only [Option.some.injEq] at h; subst h
        obtain ⟨i', zv, g1, g2, g3⟩ := zeroA_info hz
        rw [hi] at g1; cases g1
        have hzr : RepL w I α z.cells zv.cells.toList := (rep_ofValue g3).cells
        have w1 : IntKind.i64.wrap (n : Int) = n := IntWalk.i64_in _ ⟨by omega, by omega⟩
        have w2 : IntKind.i64.wrap (m : Int) = m := IntWalk.i64_in _ ⟨by omega, by omega⟩
        obtain ⟨cells, hcells⟩ : ∃ cells : Array Value, cells = (Array.range (m * i.size)).map (zv.cells[· % zv.cells.size]!) := ⟨_, rfl⟩
        have hrun : (Instr.makeSlice t (.int k1 n) (.int k2 m)).run P w = .ok (.slice (some ⟨w.heap.size, 0, none⟩) n m) (w.alloc (.cells cells el)) := by
          have e1 : ¬ ((i.bytes : Int) * (m : Int) > 2 ^ 48) := by
            have : (i.bytes : Int) * (m : Int) = ((i.bytes * m : Nat) : Int) := by simp
            rw [this]; omega
          have e2 : ¬ ((m : Int) < 0) := by omega
          have e3 : ¬ ((n : Int) < 0) := by omega
          have e4 : ¬ ((n : Int) > (m : Int)) := by omega
          have e5 : ((decide ((m : Int) < 0) || decide ((i.bytes : Int) * (m : Int) > 2 ^ 48)) || decide ((n : Int) < 0) || decide ((n : Int) > (m : Int))) = false := by
            simp only [decide_eq_false e1, decide_eq_false e2, decide_eq_false e3, decide_eq_false e4, Bool.or_self]
          by_cases h0 : m * i.size = 0
          · have r0 : Array.range 0 = #[] := rfl
            have hc0 : cells = #[] := by rw [hcells, h0, r0]; simp
            rw [hc0]
            simp only [Instr.makeSlice, Sem.run_bind, run_underlying' ht, Result.andThen_ok, asInt, asIntOf, Sem.run_pure, run_typeInfo' hi, w1, w2, e5, Bool.false_eq_true, if_false, run_askRoom, sizeOf, Int.toNat_natCast, h0, if_true, newRow, run_newObj, r0, Array.map_empty]
            rfl
          · simp only [Instr.makeSlice, Sem.run_bind, run_underlying' ht, Result.andThen_ok, asInt, asIntOf, Sem.run_pure, run_typeInfo' hi, w1, w2, e5, Bool.false_eq_true, if_false, run_askRoom, sizeOf, Int.toNat_natCast, h0, if_false, newRow, run_newObj, run_zeroValue' hi g2, ← hcells]
            rfl
        refine impl_new c (w' := w.alloc (.cells cells el)) (by rw [hrun]; rfl) rfl (fun α' hα rel => ?_) (fun α' hα => .rsl true rid 0 n i.size m _ hα c1 (fun _ => ⟨el, m * i.size, ?_, by omega⟩))
        · have ev : Ev w I α H (w.alloc (.cells cells el)) I α H := ev_push rfl I (fun _ h => h) (fun _ h => .inl h)
          have hzz := (zeros_rep (n := m) c5 hzr c4)
          rw [← hcells] at hzz
          refine bRel_cells (c := cells) (e := el) (by show (w.heap.push (.cells cells el))[w.heap.size]? = _; simp) ?_
          have := hzz.ev c.rel ev
          exact ⟨this.1, fun i a b h1 h2 => (this.2 i a b h1 h2).mono (fun _ h => h) hα (fun _ _ _ => rfl) (fun _ _ _ => rfl)⟩
        · have : (w.alloc (.cells cells el)).heap[w.heap.size]? = some (.cells cells el) := by show (w.heap.push (.cells cells el))[w.heap.size]? = _; simp
          simp only [World.shape?, this]
          rw [hcells]; simp
      · simp at h
    · simp at h
  · simp at h

theorem implV_len {argTypes : Array TypeId} {ty : TypeId} {x : AV} {x' : Value} {e : Eff} (c : Ctx P G call w I α H rid nx) (hx : Rep w I α x x') (h : lenA P argTypes x = some e) :
    ImplV P G call w I α H rid nx (Builtin.len_ argTypes ty #[x']) e := by
  unfold lenA at h
  split at h
  · rename_i t h0
    split at h
    · rename_i s ht
      simp only [Option.some.injEq] at h; subst h
      cases hx with
      | str _ b hb =>
        have hsz : b.size = s.length := by rw [← hb]; exact Array.length_toList.symm
        refine implV_val c (v' := goInt b.size) (by simp [Builtin.len_, h0, run_underlying' ht]) ?_
        rw [hsz, lenN_eq]; exact .int _ _
    · rename_i n _ ht
      simp only [Option.some.injEq] at h; subst h
      exact implV_val c (v' := goInt n) (by simp [Builtin.len_, h0, run_underlying' ht]) (.int _ _)
    · rename_i full es ht
      simp only [Option.some.injEq] at h; subst h
      cases hx with
      | fsl _ _ a len cap sz b base g hl hc hf ha hI hs hg hr =>
        refine implV_val c (v' := goInt len) (by simp [Builtin.len_, h0, run_underlying' ht]) ?_
        rw [← hl, lenN_eq]; exact .int _ _
    · rename_i ht
      simp only [Option.some.injEq] at h; subst h
      cases hx
      exact implV_val c (v' := goInt 0) (by simp [Builtin.len_, h0, run_underlying' ht]) (.int _ _)
    · rename_i ht
      simp only [Option.some.injEq] at h; subst h
      cases hx
      exact implV_val c (by simp [Builtin.len_, h0, run_underlying' ht]; rfl) (.int _ _)
    · rename_i ht
      simp only [Option.some.injEq] at h; subst h
      cases hx
      exact implV_val c (v' := goInt 0) (by simp [Builtin.len_, h0, run_underlying' ht]) (.int _ _)
    · rename_i id ht
      simp only [Option.some.injEq] at h; subst h
      cases hx with
      | map _ b hb =>
        refine impl_read c fun blk b' e' hg hα hB hk => ?_
        rw [hb] at hα; cases hα
        split at hk
        · rename_i es
          simp only [Option.some.injEq] at hk; subst hk
          obtain ⟨en, g1, g2, _, _⟩ := hB
          refine implV_val c (v' := goInt en.size) ?_ ?_
          · simp [Builtin.len_, h0, run_underlying' ht, getObj, Sem.run, g1]
          · rw [← g2, lenN_eq]; exact .int _ _
        · simp at hk
    · simp at h
  · simp at h


theorem implV_copy {argTypes : Array TypeId} {ty : TypeId} {d x : AV} {d' x' : Value} {e : Eff} (c : Ctx P G call w I α H rid nx) (hd : Rep w I α d d') (hx : Rep w I α x x') (h : copyA P argTypes d x = some e) :
    ImplV P G call w I α H rid nx (Builtin.copy_ argTypes ty #[d', x']) e := by
  unfold copyA at h
  split at h
  · rename_i t h0
    split at h
    · rename_i el hel
      have ht := elemOfA_eq hel
      split at h
      · rename_i sz hsz
        split at h
        · rename_i own id off len sz'
          cases hd with
          | rsl _ _ _ _ _ cap b hb hcap ho =>
            refine impl_src c hx h fun n cs vs e' hk hcs hvl hlen hfirst => ?_
            simp only at hk
            split at hk
            · rename_i hone
              simp only [Option.some.injEq] at hk; subst hk
              refine impl_upd c fun blk b' blk' v hg hα hB hk => ?_
              rw [hb] at hα; cases hα
              split at hk
              · rename_i l
                split at hk
                · rename_i l' hl'
                  simp only [Option.some.injEq, Prod.mk.injEq] at hk
                  obtain ⟨rfl, rfl⟩ := hk
                  obtain ⟨cc, ee, g1, g2, g3⟩ := hB
                  have hf := hfirst (min n len) w (Nat.min_le_left _ _) rfl
                  have hcs' : RepL w I α (cs.take (min n len * sz)) (vs.take (min n len * sz)) := hcs.take _
                  have hone' : ∀ u ∈ vs.take (min n len * sz), u.oneCell' = true := fun u hu => hcs.one hone u (List.mem_of_mem_take hu)
                  have hvlen : (vs.take (min n len * sz)).length = (cs.take (min n len * sz)).length := hcs'.1.symm
                  obtain ⟨_, e2⟩ := splice_eq _ _ _ _ hl'
                  by_cases hz : cs.take (min n len * sz) = []
                  · have hvz : vs.take (min n len * sz) = [] := by have := hcs'.1; rw [hz] at this; exact List.eq_nil_of_length_eq_zero (by simpa using this.symm)
                    have hll : l' = l := by obtain ⟨e1, _⟩ := splice_eq _ _ _ _ hl'; rw [e1, hz]; simp
                    subst hll
                    have hrun : (Builtin.copy_ argTypes ty #[.slice (some ⟨b, off, none⟩) len cap, x']).run P w = .ok (goInt (min n len : Nat)) w := by
                      simp only [hvz] at hf
                      have hf' : (Builtin.firstCells sz (n.min len) x').run P w = .ok #[] w := hf
                      simp [Builtin.copy_, h0, run_underlying' ht, hlen, run_sizeOf' hsz, hf', storeCells]
                    rw [hrun]
                    exact post_upd (w' := w) c hg hb rfl (fun _ _ => rfl) rfl (fun _ _ => ⟨cc, ee, g1, g2, g3⟩) (fun _ _ => .int _ _)
                  · have hfit : off + (vs.take (min n len * sz)).length ≤ cc.size := by
                      rcases e2 with e2 | e2
                      · exact absurd e2 hz
                      · rw [hvlen]; omega
                    have hst := run_storeCells_at P b off ee (vs.take (min n len * sz)) 0 cc w g1 (by simpa using hfit) hone'
                    simp only [Nat.add_zero] at hst
                    have hrun : (Builtin.copy_ argTypes ty #[.slice (some ⟨b, off, none⟩) len cap, x']).run P w = .ok (goInt (min n len : Nat)) (w.setRow b (cc.toList.take off ++ vs.take (min n len * sz) ++ cc.toList.drop (off + (vs.take (min n len * sz)).length)).toArray) := by
                      have hf' : (Builtin.firstCells sz (n.min len) x').run P w = .ok (vs.take (min n len * sz)).toArray w := hf
                      simp only [Builtin.copy_, h0, List.getElem?_toArray, List.getElem?_cons_zero, List.getElem?_cons_succ, Sem.run_bind, run_underlying' ht, Result.andThen_ok, hlen, run_sizeOf' hsz, hf', hst, Sem.run_pure]
                    rw [hrun]
                    exact post_splice c hg hb g1 g2 g3 hl' hcs' hfit (fun _ _ _ => .int _ _)
                · simp at hk
              · simp at hk
            · simp at hk
        · cases hd
          refine impl_src c hx h fun n cs vs e' hk hcs hvl hlen hfirst => ?_
          simp only [Option.some.injEq] at hk; subst hk
          have hf := hfirst 0 w (Nat.zero_le _) rfl
          refine implV_val c (v' := goInt 0) ?_ (.int _ _)
          have hf' : (Builtin.firstCells sz 0 x').run P w = .ok #[] w := by simpa using hf
          simp [Builtin.copy_, h0, run_underlying' ht, hlen, run_sizeOf' hsz, hf']
        · obtain ⟨a, cap, hd'⟩ : ∃ a cap, d' = .slice a 0 cap := by
            cases hd with
            | fsl _ _ a len cap sz b base g hl hc hf ha hI hs hg hr => simp at hl; subst hl; exact ⟨a, cap, rfl⟩
          subst hd'
          refine impl_src c hx h fun n cs vs e' hk hcs hvl hlen hfirst => ?_
          simp only [Option.some.injEq] at hk; subst hk
          have hf := hfirst 0 w (Nat.zero_le _) rfl
          refine implV_val c (v' := goInt 0) ?_ (.int _ _)
          have hf' : (Builtin.firstCells sz 0 x').run P w = .ok #[] w := by simpa using hf
          cases a <;> simp [Builtin.copy_, h0, run_underlying' ht, hlen, run_sizeOf' hsz, hf', storeCells]
        · simp at h
      · simp at h
    · simp at h
  · simp at h

end
end Go.Proofs.Abs
