/- Parts of the proof: FpReads, FpTrace, FpDraw, FpDrawn, FpDrawn2, FpFin, FpSound, FpMain, FpLook, FpSeat, FpRules, FpProg, FpSeatT, FpGlue, FpNum, FpStpEq, FpWK, FpNat, FpLen, FpLen2, FpBits, FpWX. -/
import Derived.Orders
import Derived.LoopN
import Derived.Test.YteghcekbgfhieaaProg
import Derived.KernelRfl
import Derived.ProofKit
import Derived.Test.YteghcekbgfhieaaFb
import Derived.Test.YteghcekbgfhieaaFa
/- An operation hangs on the variables that it names, and on no other. -/
namespace Go.Abs

variable {T : Tab}

theorem cX_reads {x : Operand} {c : X} (h : cX T x = some c) {t : Nat} (hx : x = .tmp t) : t ∈ c.reads := by
  subst hx
  simp only [cX] at h
  injection h with h
  subst h
  simp [X.reads]

theorem cXs_reads : ∀ (xs : List Operand) {cs : List X} (_ : cXs T xs = some cs) {t : Nat}, Operand.tmp t ∈ xs → t ∈ cs.flatMap X.reads
  | [], cs, h, t, ht => by cases ht
  | x :: xs, cs, h, t, ht => by
    simp only [cXs, Option.bind_eq_some_iff] at h
    obtain ⟨c, h1, cs', h2, h3⟩ := h
    injection h3 with h3
    subst h3
    rw [List.flatMap_cons, List.mem_append]
    rcases List.mem_cons.1 ht with h4 | h4
    · exact .inl (cX_reads h1 h4.symm)
    · exact .inr (cXs_reads xs h2 h4)

theorem cParts_reads (place : Nat → Option (Nat × Nat)) : ∀ (ps : List (Nat × Operand)) {cs : List (Nat × Nat × X)} (_ : cParts T place ps = some cs) {t : Nat}, Operand.tmp t ∈ ps.map (·.2) → t ∈ cs.flatMap fun p => p.2.2.reads
  | [], cs, h, t, ht => by cases ht
  | (j, x) :: ps, cs, h, t, ht => by
    simp only [cParts, Option.bind_eq_some_iff] at h
    obtain ⟨⟨off, size⟩, h1, c, h2, cs', h3, h4⟩ := h
    injection h4 with h4
    subst h4
    rw [List.flatMap_cons, List.mem_append]
    rcases List.mem_cons.1 ht with h5 | h5
    · exact .inl (cX_reads h2 h5.symm)
    · exact .inr (cParts_reads place ps h3 h5)

theorem cElems_reads : ∀ (ps : List (Nat × Operand)) {cs : List (Nat × X)} (_ : cElems T ps = some cs) {t : Nat}, Operand.tmp t ∈ ps.map (·.2) → t ∈ cs.flatMap fun p => p.2.reads
  | [], cs, h, t, ht => by cases ht
  | (j, x) :: ps, cs, h, t, ht => by
    simp only [cElems, Option.bind_eq_some_iff] at h
    obtain ⟨c, h2, cs', h3, h4⟩ := h
    injection h4 with h4
    subst h4
    rw [List.flatMap_cons, List.mem_append]
    rcases List.mem_cons.1 ht with h5 | h5
    · exact .inl (cX_reads h2 h5.symm)
    · exact .inr (cElems_reads ps h3 h5)

theorem cOX_reads {x : Option Operand} {c : Option X} (h : cOX T x = some c) {t : Nat} (ht : x = some (.tmp t)) : t ∈ OX.reads c := by
  subst ht
  simp only [cOX] at h
  obtain ⟨q, h1, rfl⟩ := map_some_inv h
  exact cX_reads h1 rfl

theorem cOp_reads {o : Op} {op : AOp} (h : cOp T o = some op) {t : Nat} (ht : Operand.tmp t ∈ o.operands) : t ∈ op.reads := by
  cases o
  case move x =>
    obtain ⟨x', h1, rfl⟩ := map_some_inv h
    simp only [Op.operands, List.mem_toArray, List.mem_singleton] at ht
    exact cX_reads h1 ht.symm
  case assign x =>
    obtain ⟨x', h1, rfl⟩ := map_some_inv h
    simp only [Op.operands, List.mem_toArray, List.mem_singleton] at ht
    exact cX_reads h1 ht.symm
  case pick c x y =>
    obtain ⟨c', h1, h⟩ := bind_some_inv h
    obtain ⟨x', h2, h⟩ := bind_some_inv h
    obtain ⟨y', h3, rfl⟩ := map_some_inv h
    simp only [Op.operands, List.mem_toArray, List.mem_cons, List.not_mem_nil, or_false] at ht
    simp only [AOp.reads, List.mem_append]
    rcases ht with ht | ht | ht
    · exact .inl (.inl (cX_reads h1 ht.symm))
    · exact .inl (.inr (cX_reads h2 ht.symm))
    · exact .inr (cX_reads h3 ht.symm)
  case alloc => simp [Op.operands] at ht
  case box t' x =>
    obtain ⟨z, h1, h⟩ := bind_some_inv h
    obtain ⟨x', h2, rfl⟩ := map_some_inv h
    simp only [Op.operands, List.mem_toArray, List.mem_singleton] at ht
    exact cX_reads h2 ht.symm
  case build t' ps =>
    simp only [Op.operands, List.mem_toArray] at ht
    simp only [cOp] at h
    split at h
    · split at h
      · obtain ⟨zv, h1, h⟩ := bind_some_inv h
        obtain ⟨ps', h2, rfl⟩ := map_some_inv h
        exact cParts_reads _ _ h2 ht
      · cases h
    · obtain ⟨zv, h1, h⟩ := bind_some_inv h
      obtain ⟨s, h1', h⟩ := bind_some_inv h
      obtain ⟨ps', h2, rfl⟩ := map_some_inv h
      exact cParts_reads _ _ h2 ht
    · cases h
  case buildSlice t' len ps =>
    simp only [Op.operands, List.mem_toArray] at ht
    obtain ⟨e, h1, h⟩ := bind_some_inv h
    obtain ⟨zv, h2, h⟩ := bind_some_inv h
    obtain ⟨z, h3, h⟩ := bind_some_inv h
    obtain ⟨ps', h4, h⟩ := bind_some_inv h
    split at h
    · injection h with h; subst h; exact cElems_reads _ h4 ht
    · cases h
  case load t' x =>
    obtain ⟨ag, h1, h⟩ := bind_some_inv h
    obtain ⟨z, h2, h⟩ := bind_some_inv h
    obtain ⟨x', h3, rfl⟩ := map_some_inv h
    simp only [Op.operands, List.mem_toArray, List.mem_singleton] at ht
    exact cX_reads h3 ht.symm
  case store t' x y =>
    obtain ⟨z, h1, h⟩ := bind_some_inv h
    obtain ⟨x', h2, h⟩ := bind_some_inv h
    obtain ⟨y', h3, rfl⟩ := map_some_inv h
    simp only [Op.operands, List.mem_toArray, List.mem_cons, List.not_mem_nil, or_false] at ht
    simp only [AOp.reads, List.mem_append]
    rcases ht with ht | ht
    · exact .inl (cX_reads h2 ht.symm)
    · exact .inr (cX_reads h3 ht.symm)
  case binOp bop t' x y u =>
    obtain ⟨bk, h1, h⟩ := bind_some_inv h
    obtain ⟨x', h2, h⟩ := bind_some_inv h
    obtain ⟨y', h3, rfl⟩ := map_some_inv h
    simp only [Op.operands, List.mem_toArray, List.mem_cons, List.not_mem_nil, or_false] at ht
    simp only [AOp.reads, List.mem_append]
    rcases ht with ht | ht
    · exact .inl (cX_reads h2 ht.symm)
    · exact .inr (cX_reads h3 ht.symm)
  case unOp uop t' x =>
    obtain ⟨x', h2, rfl⟩ := map_some_inv h
    simp only [Op.operands, List.mem_toArray, List.mem_singleton] at ht
    exact cX_reads h2 ht.symm
  case convert src dst x =>
    simp only [cOp] at h
    split at h
    · obtain ⟨x', h2, rfl⟩ := map_some_inv h
      simp only [Op.operands, List.mem_toArray, List.mem_singleton] at ht
      exact cX_reads h2 ht.symm
    · cases h
  case makeFunc fn first caps =>
    cases fn <;> simp only [cOp] at h <;> try (cases h; done)
    split at h
    · rename_i hf0
      obtain ⟨g, h1, h⟩ := bind_some_inv h
      obtain ⟨cs, h2, rfl⟩ := map_some_inv h
      have hfe : first = #[] := Array.eq_empty_of_size_eq_zero hf0
      subst hfe
      simp only [Op.operands, Array.empty_append] at ht
      exact cXs_reads _ h2 (by simpa using ht)
    · cases h
  case makeSlice t' l c =>
    obtain ⟨e, h1, h⟩ := bind_some_inv h
    obtain ⟨zv, h2, h⟩ := bind_some_inv h
    obtain ⟨z, h3, h⟩ := bind_some_inv h
    obtain ⟨ti, h4, h⟩ := bind_some_inv h
    obtain ⟨l', h5, h⟩ := bind_some_inv h
    obtain ⟨c', h6, h⟩ := bind_some_inv h
    split at h
    · injection h with h; subst h
      simp only [Op.operands, List.mem_toArray, List.mem_cons, List.not_mem_nil, or_false] at ht
      simp only [AOp.reads, List.mem_append]
      rcases ht with ht | ht
      · exact .inl (cX_reads h5 ht.symm)
      · exact .inr (cX_reads h6 ht.symm)
    · cases h
  case slice t' x lo hi mx =>
    obtain ⟨e, h1, h⟩ := bind_some_inv h
    obtain ⟨z, h2, h⟩ := bind_some_inv h
    obtain ⟨x', h3, h⟩ := bind_some_inv h
    obtain ⟨lo', h4, h⟩ := bind_some_inv h
    obtain ⟨hi', h5, h⟩ := bind_some_inv h
    obtain ⟨mx', h6, h⟩ := bind_some_inv h
    split at h
    · cases h
    · injection h with h; subst h
      simp only [Op.operands, Array.mem_append, List.mem_toArray, List.mem_singleton] at ht
      simp only [AOp.reads, List.mem_append]
      have mem : ∀ {q : Option Operand}, Operand.tmp t ∈ q.toList.toArray → q = some (.tmp t) := by
        intro q hq
        cases q with
        | none => simp at hq
        | some q => simp at hq; rw [hq]
      rcases ht with ((ht | ht) | ht) | ht
      · exact .inl (.inl (.inl (cX_reads h3 ht.symm)))
      · exact .inl (.inl (.inr (cOX_reads h4 (by cases lo <;> simp_all))))
      · exact .inl (.inr (cOX_reads h5 (by cases hi <;> simp_all)))
      · exact .inr (cOX_reads h6 (by cases mx <;> simp_all))
  case fieldAddr s x f =>
    simp only [cOp] at h
    split at h
    · obtain ⟨fd, h1, h⟩ := bind_some_inv h
      obtain ⟨z, h2, h⟩ := bind_some_inv h
      obtain ⟨x', h3, h⟩ := bind_some_inv h
      split at h
      · cases h
      · injection h with h; subst h
        simp only [Op.operands, List.mem_toArray, List.mem_singleton] at ht
        exact cX_reads h3 ht.symm
    · cases h
  case field t' x f =>
    simp only [cOp] at h
    split at h
    · obtain ⟨fd, h1, h⟩ := bind_some_inv h
      obtain ⟨ag, h2, h⟩ := bind_some_inv h
      obtain ⟨z, h3, h⟩ := bind_some_inv h
      obtain ⟨x', h4, rfl⟩ := map_some_inv h
      simp only [Op.operands, List.mem_toArray, List.mem_singleton] at ht
      exact cX_reads h4 ht.symm
    · cases h
  case indexAddr t' x i =>
    simp only [Op.operands, List.mem_toArray, List.mem_cons, List.not_mem_nil, or_false] at ht
    simp only [cOp] at h
    split at h
    · obtain ⟨z, h2, h⟩ := bind_some_inv h
      obtain ⟨x', h3, h⟩ := bind_some_inv h
      obtain ⟨i', h4, rfl⟩ := map_some_inv h
      simp only [AOp.reads, List.mem_append]
      rcases ht with ht | ht
      · exact .inl (cX_reads h3 ht.symm)
      · exact .inr (cX_reads h4 ht.symm)
    · obtain ⟨z, h2, h⟩ := bind_some_inv h
      obtain ⟨x', h3, h⟩ := bind_some_inv h
      obtain ⟨i', h4, rfl⟩ := map_some_inv h
      simp only [AOp.reads, List.mem_append]
      rcases ht with ht | ht
      · exact .inl (cX_reads h3 ht.symm)
      · exact .inr (cX_reads h4 ht.symm)
    · cases h
  case index t' x i =>
    simp only [Op.operands, List.mem_toArray, List.mem_cons, List.not_mem_nil, or_false] at ht
    simp only [cOp] at h
    split at h
    · obtain ⟨ag, h1, h⟩ := bind_some_inv h
      obtain ⟨z, h2, h⟩ := bind_some_inv h
      obtain ⟨x', h3, h⟩ := bind_some_inv h
      obtain ⟨i', h4, rfl⟩ := map_some_inv h
      simp only [AOp.reads, List.mem_append]
      rcases ht with ht | ht
      · exact .inl (cX_reads h3 ht.symm)
      · exact .inr (cX_reads h4 ht.symm)
    · obtain ⟨x', h3, h⟩ := bind_some_inv h
      obtain ⟨i', h4, rfl⟩ := map_some_inv h
      simp only [AOp.reads, List.mem_append]
      rcases ht with ht | ht
      · exact .inl (cX_reads h3 ht.symm)
      · exact .inr (cX_reads h4 ht.symm)
    · cases h
  case extract x i =>
    obtain ⟨x', h3, rfl⟩ := map_some_inv h
    simp only [Op.operands, List.mem_toArray, List.mem_singleton] at ht
    exact cX_reads h3 ht.symm
  case call c =>
    obtain ⟨callee, args, argTypes⟩ := c
    have two : ∀ {x y : Operand} {x' y' : X}, args.toList = [x, y] → cX T x = some x' → cX T y = some y' → Operand.tmp t ∈ (#[] : Array Operand) ++ args → t ∈ x'.reads ++ y'.reads := by
      intro x y x' y' ha h1 h2 hm
      simp only [Array.empty_append] at hm
      rw [← Array.mem_toList_iff, ha] at hm
      rw [List.mem_append]
      simp only [List.mem_cons, List.not_mem_nil, or_false] at hm
      rcases hm with hm | hm
      · exact .inl (cX_reads h1 hm.symm)
      · exact .inr (cX_reads h2 hm.symm)
    cases callee
    case value f =>
      simp only [cOp] at h
      obtain ⟨f', h1, h⟩ := bind_some_inv h
      obtain ⟨q, h2, rfl⟩ := map_some_inv h
      simp only [Op.operands, Call.operands, Array.mem_append, List.mem_toArray, List.mem_singleton] at ht
      simp only [AOp.reads, List.mem_append]
      rcases ht with ht | ht
      · exact .inl (cX_reads h1 ht.symm)
      · exact .inr (cXs_reads _ h2 (by simpa using ht))
    case invoke r m => cases h
    case builtin bi =>
      simp only [Op.operands, Call.operands] at ht
      cases bi <;> simp only [cOp] at h <;> try (cases h; done)
      case cap =>
        split at h
        · rename_i x t' ha ht'
          split at h
          · obtain ⟨x', h3, rfl⟩ := map_some_inv h
            simp only [Array.empty_append] at ht
            rw [← Array.mem_toList_iff, ha, List.mem_singleton] at ht
            exact cX_reads h3 ht.symm
          · cases h
        · cases h
      case len =>
        split at h
        · rename_i x t' ha ht'
          have one : ∀ {x' : X}, cX T x = some x' → t ∈ x'.reads := by
            intro x' h1
            simp only [Array.empty_append] at ht
            rw [← Array.mem_toList_iff, ha, List.mem_singleton] at ht
            exact cX_reads h1 ht.symm
          split at h
          · obtain ⟨x', h3, rfl⟩ := map_some_inv h; exact one h3
          · obtain ⟨x', h3, rfl⟩ := map_some_inv h; exact one h3
          · cases h
        · cases h
      case append =>
        split at h
        · rename_i x y t' u ha ht'
          split at h
          · obtain ⟨e, h1, h⟩ := bind_some_inv h
            obtain ⟨z, h3, h⟩ := bind_some_inv h
            obtain ⟨i, h4, h⟩ := bind_some_inv h
            obtain ⟨zv, h5, h⟩ := bind_some_inv h
            obtain ⟨x', h6, h⟩ := bind_some_inv h
            obtain ⟨y', h7, h⟩ := bind_some_inv h
            split at h
            · injection h with h; subst h; exact two ha h6 h7 ht
            · cases h
          obtain ⟨e, h1, h⟩ := bind_some_inv h
          obtain ⟨e', h2, h⟩ := bind_some_inv h
          obtain ⟨z, h3, h⟩ := bind_some_inv h
          obtain ⟨i, h4, h⟩ := bind_some_inv h
          obtain ⟨zv, h5, h⟩ := bind_some_inv h
          obtain ⟨x', h6, h⟩ := bind_some_inv h
          obtain ⟨y', h7, h⟩ := bind_some_inv h
          split at h
          · injection h with h; subst h; exact two ha h6 h7 ht
          · cases h
        · cases h
      case min =>
        split at h
        · rename_i x y ha
          obtain ⟨x', h1, h⟩ := bind_some_inv h
          obtain ⟨y', h2, rfl⟩ := map_some_inv h
          exact two ha h1 h2 ht
        · cases h
      case max =>
        split at h
        · rename_i x y ha
          obtain ⟨x', h1, h⟩ := bind_some_inv h
          obtain ⟨y', h2, rfl⟩ := map_some_inv h
          exact two ha h1 h2 ht
        · rename_i x y z ha
          obtain ⟨x', h1, h⟩ := bind_some_inv h
          obtain ⟨y', h2, h⟩ := bind_some_inv h
          obtain ⟨z', h3, rfl⟩ := map_some_inv h
          have hargs : args = #[x, y, z] := by cases args; simp at ha; simp [ha]
          subst hargs
          simp only [Op.operands, Call.operands, Array.mem_append, List.mem_toArray] at ht
          simp only [AOp.reads, List.mem_append]
          simp at ht
          rcases ht with rfl | rfl | rfl
          · exact .inl (.inl (cX_reads h1 rfl))
          · exact .inl (.inr (cX_reads h2 rfl))
          · exact .inr (cX_reads h3 rfl)
        · cases h
  all_goals (cases h)

theorem getX_congr {E E' : Env} {x : X} (h : ∀ t ∈ x.reads, E t = E' t) : getX E x = getX E' x := by
  cases x with
  | t i => exact h i (by simp [X.reads])
  | c v => rfl
  | f g => rfl

theorem getXs_congr {E E' : Env} {xs : List X} (h : ∀ t ∈ xs.flatMap X.reads, E t = E' t) : xs.map (getX E) = xs.map (getX E') := by
  apply List.map_congr_left
  intro x hx
  exact getX_congr fun t ht => h t (List.mem_flatMap.2 ⟨x, hx, ht⟩)

theorem optNat_congr {E E' : Env} {d : Nat} {x : Option X} (h : ∀ t ∈ OX.reads x, E t = E' t) : optNat E d x = optNat E' d x := by
  cases x with
  | none => rfl
  | some x => simp only [optNat, getX_congr h]

theorem stp_congr {n0 : Nat} {op : AOp} {E E' : Env} {H : Heap} (hn : ∀ z a x av, op ≠ .storeN z a x av) (h : ∀ t ∈ op.reads, E t = E' t) : stp n0 op E H = stp n0 op E' H := by
  cases op <;> simp only [AOp.reads, List.mem_append] at h <;> simp only [stp]
  case pick c x y => rw [getX_congr (x := c) fun t ht => h t (.inl (.inl ht)), getX_congr (x := x) fun t ht => h t (.inl (.inr ht)), getX_congr (x := y) fun t ht => h t (.inr ht)]
  case slice z x lo hi mx =>
    rw [getX_congr (x := x) fun t ht => h t (.inl (.inl (.inl ht)))]
    have e1 : ∀ d, optNat E d lo = optNat E' d lo := fun d => optNat_congr fun t ht => h t (.inl (.inl (.inr ht)))
    have e2 : ∀ d, optNat E d hi = optNat E' d hi := fun d => optNat_congr fun t ht => h t (.inl (.inr ht))
    have e3 : ∀ d, optNat E d mx = optNat E' d mx := fun d => optNat_congr fun t ht => h t (.inr ht)
    simp only [e1, e2, e3]
  case build zero ps =>
    have : (ps.map fun p => (p.1, p.2.1, getX E p.2.2)) = ps.map fun p => (p.1, p.2.1, getX E' p.2.2) := List.map_congr_left fun p hp => by
      rw [getX_congr fun t ht => h t (List.mem_flatMap.2 ⟨p, hp, ht⟩)]
    rw [this]
  case bslice z len zero ps =>
    have : (ps.map fun p => getX E p.2) = ps.map fun p => getX E' p.2 := List.map_congr_left fun p hp => by
      rw [getX_congr fun t ht => h t (List.mem_flatMap.2 ⟨p, hp, ht⟩)]
    rw [this]
  case max3 x y z => rw [getX_congr (x := x) fun t ht => h t (.inl (.inl ht)), getX_congr (x := y) fun t ht => h t (.inl (.inr ht)), getX_congr (x := z) fun t ht => h t (.inr ht)]
  case mkfn g cs => rw [getXs_congr h]
  case sload ag z t => rw [h t (by simp)]
  case storeN z x y av => exact absurd rfl (hn z x y av)
  all_goals first
    | rfl
    | (rename_i x; rw [getX_congr (x := x) h]; done)
    | (rename_i x y; rw [getX_congr (x := x) fun t ht => h t (.inl ht), getX_congr (x := y) fun t ht => h t (.inr ht)]; done)
    | (rename_i x y; simp only [getX_congr (x := x) fun t ht => h t (.inl ht), getX_congr (x := y) fun t ht => h t (.inr ht)]; done)

end Go.Abs
/- The operations of a region, one behind the other. -/
namespace Go.Abs

variable {T : Tab} {w : World} {M : Nat → Prop} {μ : Inj} {H : Heap}

def ERelOn (gid : Gid) (w : World) (M : Nat → Prop) (μ : Inj) (l : List Nat) (tmps : Array Value) (E : Env) : Prop := ∀ t ∈ l, R gid w M μ (tmps.getD t Go.undef) (E t)

/-- What one operation does, wherever it is carried out. -/
def OpSem (T : Tab) (n0 : Nat) (o : Oper) (reads : List Nat) (E : Env) (H : Heap) (v : V) (H1 : Heap) : Prop :=
  ∀ (a : Act) (w : World) (M : Nat → Prop) (μ : Inj) (K : Act → World → Prop) (Q : Exit → Act → World → Prop), n0 ≤ H.length → Sim T.gid w M μ H → ERelOn T.gid w M μ reads a.tmps E →
    (∀ v' w' M' μ', Step T.gid n0 w M μ H w' M' μ' H1 → R T.gid w' M' μ' v' v → K (a.put o.dst v') w') → o.wp T.P a w K Q

/-- A frame that knows some variables only. -/
def onlyT (l : List Nat) (tmps : Array Value) : Array Value := tmps.mapIdx fun t v => if t ∈ l then v else Go.undef
def onlyE (l : List Nat) (E : Env) : Env := fun t => if t ∈ l then E t else .undef

theorem onlyT_get (l : List Nat) (tmps : Array Value) (t : Nat) : (onlyT l tmps).getD t Go.undef = if t ∈ l then tmps.getD t Go.undef else Go.undef := by
  unfold onlyT
  simp only [Array.getD_eq_getD_getElem?, Array.getElem?_mapIdx]
  cases tmps[t]? with
  | none => simp
  | some v => simp

theorem only_rel {l : List Nat} {tmps : Array Value} {E : Env} (h : ERelOn T.gid w M μ l tmps E) : ERel T.gid w M μ (onlyT l tmps) (onlyE l E) := by
  intro t
  rw [onlyT_get]
  unfold onlyE
  split
  · exact h t (by assumption)
  · exact R.undef

theorem only_exec {o : Oper} {op : AOp} {l : List Nat} (hop : cOp T o.op = some op) (hl : ∀ t ∈ op.reads, t ∈ l) (a : Act) : execOp a.eval o = execOp (Act.eval { a with tmps := onlyT l a.tmps }) o := by
  refine execOp_congr o (fun cs b hs => by rw [hs] at hop; cases hop) fun x hx => ?_
  cases x with
  | tmp t =>
    show a.tmps.getD t Go.undef = (onlyT l a.tmps).getD t Go.undef
    rw [onlyT_get, if_pos (hl t (cOp_reads hop hx))]
  | _ => rfl

/-- A load that may come late, or a store that spares some blocks, for the plain one. -/
inductive Soft : AOp → AOp → Prop
  | refl (op : AOp) : Soft op op
  | load (ag : Bool) (z t : Nat) : Soft (.sload ag z t) (.load ag z (.t t))
  | store (z : Nat) (a x : X) (av : List Nat) : Soft (.storeN z a x av) (.store z a x)

theorem Soft.same {n0 : Nat} {op op0 : AOp} (h : Soft op op0) {E : Env} {v : V} {H1 : Heap} (e : stp n0 op E H = some (v, H1)) : stp n0 op0 E H = some (v, H1) := by
  cases h with
  | refl => exact e
  | load ag z t =>
    simp only [stp, getX] at e ⊢
    split at e
    · rename_i cs hg
      exact e
    · rename_i b i off hg
      split at e
      · rename_i k hk
        split at e
        · rename_i el he
          obtain ⟨u, h1, h2⟩ := bind_some_inv e
          split at h2
          · simp only [h1, Option.map_some]; exact h2
          · cases h2
        · cases e
      · cases e
    · cases e
  | store z a x av =>
    simp only [stp] at e ⊢
    split at e
    · exact e
    · cases e

theorem Soft.reads {op op0 : AOp} (h : Soft op op0) : ∀ t ∈ op0.reads, t ∈ op.reads := by
  cases h with
  | refl => exact fun t ht => ht
  | load ag z t => exact fun t ht => ht
  | store z a x av => exact fun t ht => by simp only [AOp.reads, List.mem_append] at ht ⊢; exact ht

theorem cOp_no_sload {o : Op} (ag : Bool) (z t : Nat) : ¬ cOp T o = some (.sload ag z t) := by
  intro h
  cases o
  case call c =>
    obtain ⟨callee, args, argTypes⟩ := c
    cases callee
    case value f => simp [cOp, Option.bind_eq_some_iff] at h
    case invoke => simp [cOp] at h
    case builtin bi =>
      cases bi <;> simp only [cOp] at h <;> (repeat' split at h) <;> simp [Option.bind_eq_some_iff] at h
  all_goals simp only [cOp] at h
  all_goals (repeat' split at h)
  all_goals (try (simp [Option.bind_eq_some_iff] at h; done))
  all_goals (try (cases h; done))

theorem cOp_no_storeN {o : Op} (z : Nat) (a x : X) (av : List Nat) : ¬ cOp T o = some (.storeN z a x av) := by
  intro h
  cases o
  case call c =>
    obtain ⟨callee, args, argTypes⟩ := c
    cases callee
    case value f => simp [cOp, Option.bind_eq_some_iff] at h
    case invoke => simp [cOp] at h
    case builtin bi =>
      cases bi <;> simp only [cOp] at h <;> (repeat' split at h) <;> simp [Option.bind_eq_some_iff] at h
  all_goals simp only [cOp] at h
  all_goals (repeat' split at h)
  all_goals (try (simp [Option.bind_eq_some_iff] at h; done))
  all_goals (try (cases h; done))

theorem opSem_stp {n0 : Nat} {o : Oper} {op op0 : AOp} (hop : cOp T o.op = some op0) (hsoft : Soft op op0) {E : Env} {v : V} {H1 : Heap} (h : stp n0 op E H = some (v, H1)) : OpSem T n0 o op.reads E H v H1 := by
  intro a w M μ K Q hn hs hE hK
  have h2 : stp n0 op0 (onlyE op.reads E) H = some (v, H1) := by
    rw [← hsoft.same h]
    exact stp_congr (fun z a x av e => cOp_no_storeN z a x av (by rw [← e]; exact hop)) fun t ht => by unfold onlyE; rw [if_pos (hsoft.reads t ht)]
  obtain ⟨v', w', M', μ', hr, hst, hrel⟩ := stp_sound hop hn hs (a := { a with tmps := onlyT op.reads a.tmps }) (only_rel hE) h2
  unfold Oper.wp
  rw [only_exec hop hsoft.reads a]
  rcases hr with hr | ⟨hr, hv⟩
  · rw [hr]; exact hK v' w' M' μ' hst hrel
  · rw [hr]; subst hv; exact hK _ w' M' μ' hst hrel

/-- A load that may come late: what it gives, in any heap that has the block as it was. -/
def LateSem (T : Tab) (n0 : Nat) (o : Oper) (op : AOp) (E : Env) (H : Heap) (v : V) : Prop :=
  ∃ ag z t b i off, op = .sload ag z t ∧ E t = .ptr b i off ∧ b < H.length ∧ v.isTup = false ∧ (∀ c ∈ v.cells, V.lowB H.length c = true) ∧ ∀ Hc : Heap, Hc[b]? = H[b]? → OpSem T n0 o op.reads E Hc v Hc

theorem lateSem_stp {n0 : Nat} {o : Oper} {ag : Bool} {z t : Nat} {op0 : AOp} (hop : cOp T o.op = some op0) (hsoft : Soft (.sload ag z t) op0) {E : Env} {v : V} {H1 : Heap} (h : stp n0 (.sload ag z t) E H = some (v, H1)) :
    H1 = H ∧ (LateSem T n0 o (.sload ag z t) E H v ∨ ∀ Hc, OpSem T n0 o (AOp.sload ag z t).reads E Hc v Hc) := by
  have h0 := h
  simp only [stp] at h
  split at h
  · rename_i cs hg
    obtain ⟨u, h1, h2⟩ := map_some_inv h
    injection h2 with h2 h3
    subst h2; subst h3
    refine ⟨rfl, .inr fun Hc => ?_⟩
    cases hsoft with
    | refl => exact absurd hop (cOp_no_sload ag z t)
    | load => exact opSem_stp (op := .load ag z (.t t)) hop (.refl _) (by simp only [stp, getX, hg, h1, Option.map_some])
  · rename_i b i off hg
    split at h
    · rename_i k hk
      split at h
      · rename_i el he
        obtain ⟨u, h1, h2⟩ := bind_some_inv h
        split at h2
        · rename_i hc
          injection h2 with h2; injection h2 with h2 h3
          subst h2; subst h3
          refine ⟨rfl, .inl ⟨ag, z, t, b, i, off, rfl, hg, (List.getElem?_eq_some_iff.1 hk).1, hc.2, fun c hcc => List.all_eq_true.1 hc.1 c hcc, fun Hc hb => ?_⟩⟩
          cases hsoft with
          | refl => exact absurd hop (cOp_no_sload ag z t)
          | load =>
            refine opSem_stp (op := .load ag z (.t t)) hop (.refl _) ?_
            simp only [stp, getX, hg, hb, hk, he, h1, Option.map_some]
        · cases h2
      · cases h
    · cases h
  · cases h

theorem frzC_pure {H : Heap} {c c' : V} {H1 : Heap} (hp : c.cellPure = true) (h : frzC H c = some (c', H1)) : H1 = H := by
  cases c <;> simp only [frzC] at h <;> first
    | (cases hp; done)
    | (injection h with h; injection h with _ h; exact h.symm)

theorem frzCs_pure {H : Heap} : ∀ {cs cs' : List V} {H1 : Heap}, cs.all V.cellPure = true → frzCs H cs = some (cs', H1) → H1 = H
  | [], cs', H1, _, h => by simp only [frzCs] at h; injection h with h; injection h with _ h; exact h.symm
  | c :: cs, cs', H1, hp, h => by
    simp only [List.all_cons, Bool.and_eq_true] at hp
    simp only [frzCs] at h
    obtain ⟨⟨c1, Ha⟩, h1, h3⟩ := bind_some_inv h
    obtain ⟨⟨c2, Hb⟩, h2, h4⟩ := bind_some_inv h3
    injection h4 with h4; injection h4 with _ h4
    have e1 := frzC_pure hp.1 h1
    have e2 := frzCs_pure hp.2 h2
    rw [← h4, e2, e1]

theorem pureIn_pure {H : Heap} {v v' : V} {H1 : Heap} (hp : v.pure = true) (h : pureIn H v = some (v', H1)) : H1 = H := by
  unfold pureIn at h
  obtain ⟨⟨u, Ha⟩, h1, h⟩ := bind_some_inv h
  simp only at h
  split at h
  · injection h with h; injection h with _ h
    subst h
    cases v with
    | agg cs =>
      simp only [frzV] at h1
      obtain ⟨⟨cs', Hb⟩, h2, h1⟩ := bind_some_inv h1
      injection h1 with h1; injection h1 with _ h1
      subst h1
      exact frzCs_pure hp h2
    | _ =>
      simp only [frzV] at h1
      exact frzC_pure (by simpa [V.pure, V.cells] using hp) h1
  · cases h

/-- A store that spares some blocks does so. -/
theorem storeN_spares {n0 : Nat} {z : Nat} {x y : X} {av : List Nat} {E : Env} {v : V} {H1 : Heap} (h : stp n0 (.storeN z x y av) E H = some (v, H1)) {t b i off : Nat} (ht : t ∈ av) (hE : E t = .ptr b i off) : H1[b]? = H[b]? := by
  simp only [stp] at h
  split at h
  · rename_i hc
    have hap := List.all_eq_true.1 hc.2 t ht
    rw [hE] at hap
    unfold stStore at h
    split at h
    · rename_i b' i' off' hg
      rw [hg] at hap
      have hne : b' ≠ b := by
        simp only [apart, bne_iff_ne, ne_eq] at hap
        exact fun e => hap e.symm
      split at h
      · rename_i k hk
        split at h
        · obtain ⟨⟨u, Hu⟩, h1, h2⟩ := bind_some_inv h
          have hHu : Hu = H := by
            split at h1
            · exact pureIn_pure hc.1 h1
            · injection h1 with h1; injection h1 with _ h1; exact h1.symm
          subst hHu
          simp only at h2
          split at h2
          · split at h2
            · split at h2
              · injection h2 with h2; injection h2 with _ h2
                rw [← h2, List.getElem?_set_ne hne]
              · cases h2
            · cases h2
          · cases h2
        · cases h
      · cases h
    · cases h
  · cases h

theorem stp_quiet {n0 : Nat} {op : AOp} (hl : op.loud = false) (hs : ∀ ag z t, op ≠ .sload ag z t) {E : Env} {v : V} {H1 : Heap} (h : stp n0 op E H = some (v, H1)) : H1 = H ∧ ∀ Hc, stp n0 op E Hc = some (v, Hc) := by
  cases op <;> try (cases hl; done)
  case sload ag z t => exact absurd rfl (hs ag z t)
  case max3 x y z =>
    simp only [stp] at h ⊢
    split at h
    · rename_i e1 e2 e3
      split at h
      · rename_i e4
        injection h with h; injection h with h1 h2
        subst h1; subst h2
        exact ⟨rfl, fun _ => by rw [if_pos e4]⟩
      · cases h
    · cases h
  all_goals simp only [stp] at h ⊢
  all_goals try (split at h <;> try (cases h; done))
  all_goals try (split at h <;> try (cases h; done))
  all_goals try (split at h <;> try (cases h; done))
  all_goals first
    | (injection h with h; injection h with h1 h2; subst h1; subst h2; exact ⟨rfl, fun _ => by first | (simp_all; done) | (simp_all; intros; omega)⟩)
    | (obtain ⟨q, h1, h2⟩ := map_some_inv h
       injection h2 with h2 h3
       subst h2; subst h3
       exact ⟨rfl, fun _ => by simp_all⟩)
    | (cases h; done)

/-- How the model's operation and ours hang together. -/
structure Link (T : Tab) (ops : Array Oper) (o : Oper) (ao : AOper) : Prop where
  dst : o.dst = ao.dst
  op : ∃ op0, cOp T o.op = some op0 ∧ Soft ao.op op0
  guard : (o.guard = none ∧ ao.guard = none) ∨ ∃ j want t, o.guard = some (j, want) ∧ (ops[j]?).bind (·.dst) = some t ∧ ao.guard = some (t, want)

theorem cOper_link {ops : Array Oper} {o : Oper} {ao : AOper} (h : cOper T ops o = some ao) (s : Bool) {op : AOp} (hsoft : Soft op ao.op) : Link T ops o { ao with sync := s, op := op } := by
  unfold cOper at h
  obtain ⟨op, h1, h⟩ := bind_some_inv h
  split at h
  · rename_i hg
    injection h with h; subst h
    exact ⟨rfl, ⟨_, h1, hsoft⟩, .inl ⟨hg, rfl⟩⟩
  · rename_i j want hg
    obtain ⟨t, h2, h3⟩ := map_some_inv h
    subst h3
    exact ⟨rfl, ⟨_, h1, hsoft⟩, .inr ⟨j, want, t, hg, h2, rfl⟩⟩

theorem wanted_eq {ops : Array Oper} {o : Oper} {ao : AOper} (hl : Link T ops o ao) {a : Act} {E : Env} (hE : ∀ t, (∃ want, ao.guard = some (t, want)) → R T.gid w M μ (a.tmps.getD t Go.undef) (E t)) {b : Bool} (h : gd ao E = some b) :
    Region.wanted o (yielded ops a.tmps) = b := by
  rcases hl.guard with ⟨h1, h2⟩ | ⟨j, want, t, h1, h2, h3⟩
  · simp only [gd, h2] at h
    injection h with h
    subst h
    simp [Region.wanted, h1]
  · simp only [gd, h3] at h
    split at h
    · rename_i q hq
      have hr := hE t ⟨want, h3⟩
      rw [hq] at hr
      have hv := hr.inv_bool
      injection h with h
      subst h
      have ht : a.tmps[t]? = some (.bool q) := by
        rw [Array.getD_eq_getD_getElem?] at hv
        cases hx : a.tmps[t]? with
        | none => rw [hx] at hv; cases hv
        | some x => rw [hx] at hv; simp at hv; rw [hv]
      simp only [Region.wanted, h1, yielded, h2, Option.bind_some, ht]
      cases q <;> cases want <;> rfl
    · rename_i q hq
      have hr := hE t ⟨want, h3⟩
      rw [hq] at hr
      injection h with h
      subst h
      have ht : ∀ b : Bool, a.tmps[t]? ≠ some (.bool b) := by
        intro b hb
        rw [Array.getD_eq_getD_getElem?, hb] at hr
        cases hr with
        | c hr => cases hr with | p hr => cases hr
      simp only [Region.wanted, h1, yielded, h2, Option.bind_some]
      cases hx : a.tmps[t]? with
      | none => rfl
      | some x =>
        cases x with
        | bool b => exact absurd hx (ht b)
        | _ => rfl
    · cases h

inductive Tr (T : Tab) (n0 : Nat) (d : Bool) (ops : Array Oper) : List Oper → List AOper → Env → Heap → Env → Heap → Prop
  | nil {E H} : Tr T n0 d ops [] [] E H E H
  | skip {o ao os aos E H E' H'} (hl : Link T ops o ao) (hg : gd ao E = some false) (rest : Tr T n0 d ops os aos (put E ao.dst .undef) H E' H') : Tr T n0 d ops (o :: os) (ao :: aos) E H E' H'
  | step {o ao os aos E H v H1 E' H'} (hl : Link T ops o ao) (hg : gd ao E = some true) (sem : OpSem T n0 o ao.op.reads E H v H1) (len : H.length ≤ H1.length) (pre : d = true → ao.sync = false → H <+: H1)
      (quiet : ao.op.loud = false → H1 = H ∧ ((∀ Hc, OpSem T n0 o ao.op.reads E Hc v Hc) ∨ LateSem T n0 o ao.op E H v))
      (spare : ∀ z x y av, ao.op = .storeN z x y av → ∀ t ∈ av, ∀ b i off, E t = .ptr b i off → H1[b]? = H[b]?) (rest : Tr T n0 d ops os aos (put E ao.dst v) H1 E' H') : Tr T n0 d ops (o :: os) (ao :: aos) E H E' H'

theorem ERel.put {tmps : Array Value} {E : Env} (h : ERel T.gid w M μ tmps E) {dst : Option Nat} (hd : ∀ d, dst = some d → d < tmps.size) {v : Value} {c : V} (hr : R T.gid w M μ v c) (ds : List Deferred) :
    ERel T.gid w M μ (Act.put { tmps := tmps, defers := ds } dst v).tmps (put E dst c) := by
  cases dst with
  | none => exact h
  | some d =>
    intro t
    simp only [Act.put, _root_.Go.Abs.put, upd]
    by_cases ht : t = d
    · subst ht
      rw [if_pos rfl, Array.getD_eq_getD_getElem?, Array.getElem?_setIfInBounds, if_pos rfl, if_pos (hd t rfl)]
      exact hr
    · rw [if_neg ht, Array.getD_eq_getD_getElem?, Array.getElem?_setIfInBounds, if_neg (fun e => ht e.symm), ← Array.getD_eq_getD_getElem?]
      exact h t

theorem put_size (a : Act) (dst : Option Nat) (v : Value) : (a.put dst v).tmps.size = a.tmps.size := by cases dst <;> simp [Act.put]
theorem put_defers (a : Act) (dst : Option Nat) (v : Value) : (a.put dst v).defers = a.defers := by cases dst <;> rfl

/-- In the order of the text. -/
theorem Tr.plain {n0 : Nat} {d : Bool} {ops : Array Oper} {l : List Oper} {al : List AOper} {E : Env} {H : Heap} {E' : Env} {H' : Heap} (h : Tr T n0 d ops l al E H E' H') :
    ∀ (k : Nat) (_ : ops.toList.drop k = l) (n : Nat) (_ : dstsOk n al = true) (a : Act) (w : World) (M : Nat → Prop) (μ : Inj) (_ : n ≤ a.tmps.size) (_ : n0 ≤ H.length) (_ : Sim T.gid w M μ H) (_ : ERel T.gid w M μ a.tmps E) (_ : a.defers = [])
      (Q : Exit → Act → World → Prop) (_ : ∀ a' w' M' μ', Step T.gid n0 w M μ H w' M' μ' H' → ERel T.gid w' M' μ' a'.tmps E' → a'.defers = [] → a'.tmps.size = a.tmps.size → Q .normal a' w'),
      wpOps T.P ops Q (List.range' k l.length) a w := by
  induction h with
  | nil => intro k _ n _ a w M μ _ _ hs hE hd Q hQ; exact hQ a w M μ (.refl hs) hE hd rfl
  | @skip o ao os aos E H E' H' hl hg _ ih =>
    intro k hk n hds a w M μ hn hn0 hs hE hd Q hQ
    have ho : ops[k]? = some o := by
      have := congrArg (·[0]?) hk
      simpa [List.getElem?_drop] using this
    have hw := wanted_eq (w := w) (M := M) (μ := μ) hl (fun t _ => hE t) hg
    simp only [dstsOk, List.all_cons, Bool.and_eq_true] at hds
    rw [List.length_cons, List.range'_succ]
    simp only [wpOps, ho, hw, Bool.false_eq_true, if_false]
    refine ih (k + 1) (by rw [← List.drop_drop]; simp [hk]) n hds.2 _ w M μ (by rw [put_size]; exact hn) hn0 hs ?_ (by rw [put_defers]; exact hd) Q (fun a' w' M' μ' st hE' hd' hsz => hQ a' w' M' μ' st hE' hd' (by rw [hsz, put_size]))
    rw [hl.dst]
    exact ERel.put hE (fun dd hdd => by rw [hdd] at hds; have := hds.1; simp at this; omega) R.undef a.defers
  | @step o ao os aos E H v H1 E' H' hl hg sem len pre quiet spare _ ih =>
    intro k hk n hds a w M μ hn hn0 hs hE hd Q hQ
    have ho : ops[k]? = some o := by
      have := congrArg (·[0]?) hk
      simpa [List.getElem?_drop] using this
    have hw := wanted_eq (w := w) (M := M) (μ := μ) hl (fun t _ => hE t) hg
    simp only [dstsOk, List.all_cons, Bool.and_eq_true] at hds
    rw [List.length_cons, List.range'_succ]
    simp only [wpOps, ho, hw, if_true]
    refine .inl (sem a w M μ _ Q hn0 hs (fun t _ => hE t) fun v' w' M' μ' st hr => ?_)
    refine ih (k + 1) (by rw [← List.drop_drop]; simp [hk]) n hds.2 _ w' M' μ' (by rw [put_size]; exact hn) (by omega) st.sim ?_ (by rw [put_defers]; exact hd) Q
      (fun a' w2 M2 μ2 st2 hE' hd' hsz => hQ a' w2 M2 μ2 (st.trans st2) hE' hd' (by rw [hsz, put_size]))
    rw [hl.dst]
    exact ERel.put (fun t => st.r hs (hE t)) (fun dd hdd => by rw [hdd] at hds; have := hds.1; simp at this; omega) hr a.defers

end Go.Abs
/- A region that draws its order: every order comes to what the order of the text comes to. -/
namespace Go.Abs

variable {T : Tab} {gid : Gid} {w w' w0 : World} {M M' M0 : Nat → Prop} {μ μ' μ0 μi : Inj} {H Hi Hi1 He H0 : Heap} {n0 : Nat}

def cutM (n : Nat) (μ : Inj) : Inj := fun b => if b < n then μ b else none

theorem cutM_sub {n : Nat} {μ : Inj} : ∀ b x, cutM n μ b = some x → μ b = some x := fun b x h => by
  unfold cutM at h
  split at h
  · exact h
  · cases h

theorem cutM_lt {n : Nat} {μ : Inj} : ∀ b x, cutM n μ b = some x → b < n := fun b x h => by
  unfold cutM at h
  split at h
  · assumption
  · cases h

theorem pre_get {A B : Heap} (h : A <+: B) {b : Nat} (hb : b < A.length) : B[b]? = A[b]? := by
  obtain ⟨C, rfl⟩ := h
  rw [List.getElem?_append_left hb]

theorem pre_some {A B : Heap} (h : A <+: B) {b : Nat} {x : Option Blk} (hb : A[b]? = some x) : B[b]? = some x := by
  rw [pre_get h (List.getElem?_eq_some_iff.1 hb).1]; exact hb

theorem pre_len {A B : Heap} (h : A <+: B) : A.length ≤ B.length := h.length_le

theorem Sim.restrict (hs : Sim gid w M μ He) (hp : Hi <+: He) (hl : LowH Hi.length μ He) : Sim gid w M (cutM Hi.length μ) Hi := by
  refine ⟨fun b x h => cutM_lt b x h, fun b1 b2 c o z o' z' h1 h2 ⟨k1, a1⟩ ⟨k2, a2⟩ => hs.inj b1 b2 c o z o' z' (cutM_sub _ _ h1) (cutM_sub _ _ h2) ⟨k1, pre_some hp a1⟩ ⟨k2, pre_some hp a2⟩, fun b c o z k h1 h2 => ?_, hs.tab⟩
  have hk := hs.blk b c o z k (cutM_sub _ _ h1) (pre_some hp h2)
  obtain ⟨arr, e, l1, l2, l3⟩ := hk.lay
  have hlow := hl b k (cutM_lt _ _ h1) (by rw [cutM_sub _ _ h1]; simp) (pre_some hp h2)
  refine ⟨hk.hz, hk.hM, hk.hF, ⟨arr, e, l1, l2, fun i el hi => ?_⟩, hk.pur⟩
  obtain ⟨h3, h4, h5⟩ := l3 i el hi
  refine ⟨h3, h4, fun j cv hj => ?_⟩
  obtain ⟨v, hv, hr⟩ := h5 j cv hj
  exact ⟨v, hv, hr.low (Keep.refl w M) (Shape.refl w) (n := Hi.length) (fun b x hb hx => by unfold cutM; rw [if_pos hb]; exact hx) (hlow el (List.mem_of_getElem? hi) cv (List.mem_of_getElem? hj))⟩

theorem dead_get {N b : Nat} {k : Blk} : ¬ (List.replicate N (none : Option Blk))[b]? = some (some k) := by
  intro h
  rw [List.getElem?_replicate] at h
  split at h <;> cases h

theorem Sim.dead {N : Nat} (tb : Tabs gid w M) (hd : ∀ b x, μ b = some x → b < N) : Sim gid w M μ (List.replicate N none) :=
  ⟨fun b x h => by simpa using hd b x h, fun _ _ _ _ _ _ _ _ _ ⟨_, a⟩ _ => absurd a dead_get, fun _ _ _ _ _ _ h => absurd h dead_get, tb⟩

theorem Step.of_dead {N : Nat} (hs : Sim gid w M μ He) (st : Step gid n0 w M μi (List.replicate N none) w' M' μ' (List.replicate N none)) : Step gid n0 w M μ He w' M' μ He := by
  have fr : ∀ c, c < w.heap.size → w'.heap[c]? = w.heap[c]? := fun c hc => st.frame c hc fun b _ _ _ ⟨k, hk, _⟩ => dead_get hk
  have kp : Keep w M w' M' := ⟨st.size, fun c hc _ => fr c hc, fun c hc hm => (st.sub c hm).resolve_right (by omega)⟩
  have km : ∀ c, c < w.heap.size → M c → M' c := fun c hc hm => st.keepM c hc hm fun b _ _ _ ⟨k, hk, _⟩ => dead_get hk
  refine ⟨⟨hs.dom, hs.inj, fun b c o z k h1 h2 => ?_, hs.tab.keep kp⟩, fun _ _ => rfl, Nat.le_refl _, st.size, fun c hc _ => fr c hc, st.shape, st.sub, fun c hc hm _ => km c hc hm, fun b c o z hb h => absurd (hs.dom b _ h) (by omega),
    fun _ _ h => h, fun _ _ h => h, fun _ _ h => h, st.os, st.tape, st.output⟩
  have hk := hs.blk b c o z k h1 h2
  exact hk.mono kp st.shape (fun _ _ h => h) (fr c hk.lt) fun hw => km c hk.lt (hk.hM hw)

theorem Step.extend (hs : Sim gid w M μ H) (hp : H <+: He) : Step gid n0 w M μ H w M μ He := by
  have al : ∀ b x, μ b = some x → He[b]? = H[b]? := fun b x h => pre_get hp (hs.dom b x h)
  refine ⟨⟨fun b x h => Nat.lt_of_lt_of_le (hs.dom b x h) (pre_len hp), fun b1 b2 c o z o' z' h1 h2 ⟨k1, a1⟩ ⟨k2, a2⟩ => hs.inj b1 b2 c o z o' z' h1 h2 ⟨k1, by rw [← al b1 _ h1]; exact a1⟩ ⟨k2, by rw [← al b2 _ h2]; exact a2⟩,
    fun b c o z k h1 h2 => hs.blk b c o z k h1 (by rw [← al b _ h1]; exact h2), hs.tab⟩, fun _ _ => rfl, pre_len hp, Nat.le_refl _, fun _ _ _ => rfl, Shape.refl w, fun _ h => .inl h, fun _ _ h _ => h,
    fun b c o z hb h => absurd (hs.dom b _ h) (by omega), fun b hb ⟨k, h1, h2⟩ => ⟨k, by rw [← pre_get hp hb]; exact h1, h2⟩, fun b hb ⟨k, h1⟩ => ⟨k, by rw [← pre_get hp hb]; exact h1⟩,
    fun n _ hl b k h1 h2 h3 => ?_, rfl, rfl, rfl⟩
  obtain ⟨x, hx⟩ := Option.ne_none_iff_exists'.1 h2
  exact hl b k h1 h2 (by rw [← al b x hx]; exact h3)

/-- An operation in the midst of a segment: it ran over the heap of its place in the text, and the heap of the segment's end is laid out behind it. -/
theorem Step.merge (A : Step gid n0 w0 M0 μ0 H0 w M μ He) (h0i : H0.length ≤ Hi.length) (hn : n0 ≤ H0.length) (hp : Hi <+: Hi1) (hp1 : Hi1 <+: He)
    (hgap : ∀ b, Hi.length ≤ b → b < Hi1.length → μ b = none) (hsr : Sim gid w M (cutM Hi.length μ) Hi) (B : Step gid n0 w M (cutM Hi.length μ) Hi w' M' μi Hi1) :
    Step gid n0 w0 M0 μ0 H0 w' M' (fun b => if b < Hi1.length then μi b else μ b) He := by
  have hpe : Hi <+: He := hp.trans hp1
  have hs := A.sim
  have hlt : Hi.length ≤ Hi1.length := pre_len hp
  have i_old : ∀ b, b < Hi.length → μi b = μ b := fun b hb => by rw [B.ext b hb]; unfold cutM; rw [if_pos hb]
  have kp : Keep w M w' M' := B.keep hsr
  have mm : ∀ b x, μ b = some x → (if b < Hi1.length then μi b else μ b) = some x := by
    intro b x hb
    split
    · rename_i h1
      by_cases h2 : b < Hi.length
      · rw [i_old b h2]; exact hb
      · rw [hgap b (by omega) h1] at hb; cases hb
    · exact hb
  have freshI : ∀ b c o z, Hi.length ≤ b → μi b = some (c, o, z) → alive He b → w.heap.size ≤ c := by
    intro b c o z hb hm ⟨k, hk⟩
    rcases B.fresh b c o z hb hm with h1 | ⟨b0, o0, z0, h1, ⟨k0, h2, h3⟩⟩
    · exact h1
    · have hb1 : b < Hi1.length := B.sim.dom b _ hm
      have := B.sim.inj b0 b c o0 z0 o z (by rw [B.ext b0 (cutM_lt _ _ h1)]; exact h1) hm ⟨k0, pre_some hp h2⟩ ⟨k, by rw [← pre_get hp1 hb1]; exact hk⟩
      have := cutM_lt _ _ h1
      omega
  have quiet : ∀ c, c < w0.heap.size → (∀ b o z, μ0 b = some (c, o, z) → ¬ wrAt H0 b) → ∀ b o z, cutM Hi.length μ b = some (c, o, z) → ¬ wrAt Hi b := by
    intro c hc hq b o z hb ⟨k, hk, hw⟩
    have hb' := cutM_sub _ _ hb
    by_cases hl : b < H0.length
    · exact hq b o z (by rw [← A.ext b hl]; exact hb') (A.wrmono b hl ⟨k, pre_some hpe hk, hw⟩)
    · rcases A.fresh b c o z (by omega) hb' with h1 | ⟨b0, o0, z0, h1, h2⟩
      · omega
      · exact hq b0 o0 z0 h1 h2
  refine ⟨⟨?_, ?_, ?_, B.sim.tab⟩, ?_, A.len, Nat.le_trans A.size B.size, ?_, A.shape.trans B.shape, ?_, ?_, ?_, A.wrmono, A.alv, ?_, B.os.trans A.os, B.tape.trans A.tape, B.output.trans A.output⟩
  · intro b x hx
    have := pre_len hp1
    split at hx
    · omega
    · exact hs.dom b x hx
  · intro b1 b2 c o z o' z' h1 h2 a1 a2
    have side : ∀ b b' c o z o' z', b < Hi1.length → Hi1.length ≤ b' → μi b = some (c, o, z) → μ b' = some (c, o', z') → alive He b → alive He b' → b = b' := by
      intro b b' c o z o' z' g1 g2 g3 g4 a a'
      by_cases g5 : b < Hi.length
      · rw [i_old b g5] at g3
        exact hs.inj b b' c o z o' z' g3 g4 a a'
      · have := freshI b c o z (by omega) g3 a
        obtain ⟨k', hk'⟩ := a'
        have := (hs.blk b' c o' z' k' g4 hk').lt
        omega
    split at h1 <;> split at h2
    · rename_i g1 g2
      obtain ⟨k1, a1⟩ := a1
      obtain ⟨k2, a2⟩ := a2
      exact B.sim.inj b1 b2 c o z o' z' h1 h2 ⟨k1, by rw [← pre_get hp1 g1]; exact a1⟩ ⟨k2, by rw [← pre_get hp1 g2]; exact a2⟩
    · exact side b1 b2 c o z o' z' (by assumption) (by omega) h1 h2 a1 a2
    · exact (side b2 b1 c o' z' o z (by assumption) (by omega) h2 h1 a2 a1).symm
    · exact hs.inj b1 b2 c o z o' z' h1 h2 a1 a2
  · intro b c o z k h1 h2
    split at h1
    · rename_i g1
      have hk := B.sim.blk b c o z k h1 (by rw [← pre_get hp1 g1]; exact h2)
      exact hk.mono (Keep.refl w' M') (Shape.refl w') (fun b' x hx => by rw [if_pos (B.sim.dom b' x hx)]; exact hx) rfl hk.hM
    · rename_i g1
      have hk := hs.blk b c o z k h1 h2
      have q : ∀ b' o' z', cutM Hi.length μ b' = some (c, o', z') → ¬ wrAt Hi b' := by
        intro b' o' z' hb' ⟨k', hk', _⟩
        have := hs.inj b' b c o' z' o z (cutM_sub _ _ hb') h1 ⟨k', pre_some hpe hk'⟩ ⟨k, h2⟩
        have := cutM_lt _ _ hb'
        omega
      exact hk.mono kp B.shape mm (B.frame c hk.lt q) fun hw => B.keepM c hk.lt (hk.hM hw) q
  · intro b hb
    rw [if_pos (by omega), i_old b (by omega), A.ext b hb]
  · intro c hc hq
    rw [B.frame c (Nat.lt_of_lt_of_le hc A.size) (quiet c hc hq), A.frame c hc hq]
  · intro c hc
    rcases B.sub c hc with h1 | h1
    · exact A.sub c h1
    · exact .inr (Nat.le_trans A.size h1)
  · intro c hc hm hq
    exact B.keepM c (Nat.lt_of_lt_of_le hc A.size) (A.keepM c hc hm hq) (quiet c hc hq)
  · intro b c o z hb h1
    split at h1
    · by_cases g2 : b < Hi.length
      · rw [i_old b g2] at h1
        exact A.fresh b c o z hb h1
      · rcases B.fresh b c o z (by omega) h1 with h3 | ⟨b0, o0, z0, h3, ⟨k, hk, hw⟩⟩
        · exact .inl (Nat.le_trans A.size h3)
        · by_cases hl : b0 < H0.length
          · exact .inr ⟨b0, o0, z0, by rw [← A.ext b0 hl]; exact cutM_sub _ _ h3, A.wrmono b0 hl ⟨k, pre_some hpe hk, hw⟩⟩
          · exact A.fresh b0 c o0 z0 (by omega) (cutM_sub _ _ h3)
    · exact A.fresh b c o z hb h1
  · intro n hn' hl b k h1 h2 h3
    have h2 : (if b < Hi1.length then μi b else μ b) ≠ none := h2
    rw [if_pos (by omega), i_old b (by omega)] at h2
    exact A.low n hn' hl b k h1 h2 h3

/- What surely comes before. -/
theorem closeBits_spec (bits : List Nat) : ∀ (after : List Edge) (s k : Nat), (after.foldl (fun s e => if Region.binds .any e then s ||| 2 ^ e.on ||| bits.getD e.on 0 else s) s).testBit k = true →
    s.testBit k = true ∨ ∃ e ∈ after, Region.binds .any e = true ∧ (k = e.on ∨ (bits.getD e.on 0).testBit k = true)
  | [], s, k, h => .inl h
  | e :: after, s, k, h => by
    rw [List.foldl_cons] at h
    rcases closeBits_spec bits after _ k h with h1 | ⟨e', h1, h2, h3⟩
    · split at h1
      · rename_i hb
        rw [Nat.testBit_or, Nat.testBit_or, Bool.or_eq_true, Bool.or_eq_true] at h1
        rcases h1 with (h1 | h1) | h1
        · exact .inl h1
        · refine .inr ⟨e, by simp, hb, .inl ?_⟩
          rw [Nat.testBit_two_pow] at h1
          simp at h1
          exact h1.symm
        · exact .inr ⟨e, by simp, hb, .inr h1⟩
      · exact .inl h1
    · exact .inr ⟨e', by simp [h1], h2, h3⟩

theorem befores_prefix : ∀ (l : List Oper) (acc : List Nat), ∃ r, befores l acc = acc ++ r ∧ r.length = l.length
  | [], acc => ⟨[], by simp [befores], rfl⟩
  | o :: l, acc => by
    obtain ⟨r, h1, h2⟩ := befores_prefix l (acc ++ [closeBits acc o.after.toList])
    exact ⟨closeBits acc o.after.toList :: r, by rw [befores, h1]; simp, by simp [h2]⟩

theorem befores_get : ∀ (l : List Oper) (acc : List Nat) (j : Nat) (o : Oper), l[j]? = some o →
    ∃ acc', (befores l acc).getD (acc.length + j) 0 = closeBits acc' o.after.toList ∧ acc'.length = acc.length + j ∧ ∀ i, i < acc.length + j → acc'.getD i 0 = (befores l acc).getD i 0
  | [], acc, j, o, h => by simp at h
  | x :: l, acc, 0, o, h => by
    simp at h
    subst h
    obtain ⟨r, h1, h2⟩ := befores_prefix l (acc ++ [closeBits acc x.after.toList])
    refine ⟨acc, ?_, by simp, fun i hi => ?_⟩
    · rw [befores, h1]; simp [List.getD]
    · rw [befores, h1]
      simp only [List.getD, List.append_assoc]
      rw [List.getElem?_append_left (by omega)]
  | x :: l, acc, j + 1, o, h => by
    obtain ⟨acc', h1, h2, h3⟩ := befores_get l (acc ++ [closeBits acc x.after.toList]) j o (by simpa using h)
    simp only [List.length_append, List.length_singleton] at h1 h2 h3
    refine ⟨acc', ?_, by omega, fun i hi => ?_⟩
    · rw [befores, show acc.length + (j + 1) = acc.length + 1 + j by omega]; exact h1
    · rw [befores]; exact h3 i (by omega)

theorem bits_spec {l : List Oper} {j k : Nat} {o : Oper} (hj : l[j]? = some o) (hd : edgesDown j o = true) (h : ordered (befores l []) k j = true) :
    ∃ e ∈ o.after.toList, Region.binds .any e = true ∧ e.on < j ∧ (k = e.on ∨ ordered (befores l []) k e.on = true) := by
  obtain ⟨acc', h1, h2, h3⟩ := befores_get l [] j o hj
  simp only [List.length_nil, Nat.zero_add] at h1 h2 h3
  unfold ordered at h
  rw [h1] at h
  rcases closeBits_spec acc' o.after.toList 0 k h with h4 | ⟨e, h4, h5, h6⟩
  · simp at h4
  · have hon : e.on < j := by
      have := List.all_eq_true.1 hd e h4
      simp [h5] at this
      exact this
    refine ⟨e, h4, h5, hon, ?_⟩
    rcases h6 with h6 | h6
    · exact .inl h6
    · right
      unfold ordered
      rw [← h3 e.on hon]
      exact h6

/-- The operations that have been carried out: with each the ones that come before it. -/
def Closed (ops : List Oper) (D : Nat → Prop) : Prop := ∀ (i : Nat) (o : Oper), D i → ops[i]? = some o → ∀ e ∈ o.after.toList, Region.binds .any e = true → D e.on

theorem Closed.before {l : List Oper} {D : Nat → Prop} (hc : Closed l D) (hd : ∀ (i : Nat) (o : Oper), l[i]? = some o → edgesDown i o = true) :
    ∀ (j : Nat), D j → j < l.length → ∀ k, ordered (befores l []) k j = true → D k := by
  intro j
  induction j using Nat.strongRecOn with
  | _ j ih =>
    intro hj hlt k hk
    have ho := List.getElem?_eq_getElem hlt
    obtain ⟨e, h1, h2, h3, h4⟩ := bits_spec ho (hd j _ ho) hk
    have hD := hc j _ hj ho e h1 h2
    rcases h4 with rfl | h4
    · exact hD
    · exact ih e.on h3 hD (by omega) k h4

theorem ready_before {l : List Oper} {D : Nat → Prop} (hc : Closed l D) (hd : ∀ (i : Nat) (o : Oper), l[i]? = some o → edgesDown i o = true) {i : Nat} {o : Oper} (hi : l[i]? = some o)
    (hr : ∀ e ∈ o.after.toList, Region.binds .any e = true → D e.on) : ∀ k, ordered (befores l []) k i = true → D k := by
  intro k hk
  obtain ⟨e, h1, h2, h3, h4⟩ := bits_spec hi (hd i o hi) hk
  have hD := hr e h1 h2
  rcases h4 with rfl | h4
  · exact hD
  · have : i < l.length := (List.getElem?_eq_some_iff.1 hi).1
    exact hc.before hd e.on hD (by omega) k h4

end Go.Abs
/- A region that draws its order, proved. -/
namespace Go.Abs

variable {T : Tab}

theorem Low.mono {n m : Nat} (h : n ≤ m) {a : V} (hl : Low n a) : Low m a := by
  induction hl with
  | cell h => exact .cell h
  | ref b z off len hb => exact .ref _ _ _ _ (by omega)
  | ptr b i off hb => exact .ptr _ _ _ (by omega)
  | fn g cs _ ih => exact .fn g cs ih

/-- What is done at one place of the text. -/
def AtOp (T : Tab) (n0 : Nat) (o : Oper) (ao : AOper) (E : Env) (H : Heap) (v : V) (H1 : Heap) : Prop :=
  (gd ao E = some false ∧ v = .undef ∧ H1 = H) ∨
  (gd ao E = some true ∧ OpSem T n0 o ao.op.reads E H v H1 ∧ H.length ≤ H1.length ∧ (ao.sync = false → H <+: H1) ∧ (ao.op.loud = false → H1 = H ∧ ((∀ Hc, OpSem T n0 o ao.op.reads E Hc v Hc) ∨ LateSem T n0 o ao.op E H v)) ∧
    (∀ z x y av, ao.op = .storeN z x y av → ∀ t ∈ av, ∀ b i off, E t = .ptr b i off → H1[b]? = H[b]?))

structure Run (T : Tab) (n0 : Nat) (ops : Array Oper) (l : List Oper) (al : List AOper) (Es : Nat → Env) (Hs : Nat → Heap) (vs : Nat → V) : Prop where
  len : al.length = l.length
  link : ∀ (i : Nat) (o : Oper) (ao : AOper), l[i]? = some o → al[i]? = some ao → Link T ops o ao
  env : ∀ (i : Nat) (ao : AOper), al[i]? = some ao → Es (i + 1) = put (Es i) ao.dst (vs i)
  at_ : ∀ (i : Nat) (o : Oper) (ao : AOper), l[i]? = some o → al[i]? = some ao → AtOp T n0 o ao (Es i) (Hs i) (vs i) (Hs (i + 1))

theorem Tr.run {n0 : Nat} {ops : Array Oper} {l : List Oper} {al : List AOper} {E : Env} {H : Heap} {E' : Env} {H' : Heap} (h : Tr T n0 true ops l al E H E' H') :
    ∃ Es Hs vs, Run T n0 ops l al Es Hs vs ∧ Es 0 = E ∧ Hs 0 = H ∧ Es l.length = E' ∧ Hs l.length = H' := by
  induction h with
  | @nil E H => exact ⟨fun _ => E, fun _ => H, fun _ => .undef, ⟨rfl, by simp, by simp, by simp⟩, rfl, rfl, rfl, rfl⟩
  | @skip o ao os aos E H E' H' hl hg _ ih =>
    obtain ⟨Es, Hs, vs, hr, h1, h2, h3, h4⟩ := ih
    refine ⟨fun i => match i with | 0 => E | i + 1 => Es i, fun i => match i with | 0 => H | i + 1 => Hs i, fun i => match i with | 0 => .undef | i + 1 => vs i, ⟨by simp [hr.len], ?_, ?_, ?_⟩, rfl, rfl, h3, h4⟩
    · intro i o' ao' ho ha
      cases i with
      | zero => simp at ho ha; subst ho; subst ha; exact hl
      | succ i => exact hr.link i o' ao' (by simpa using ho) (by simpa using ha)
    · intro i ao' ha
      cases i with
      | zero => simp at ha; subst ha; exact h1
      | succ i => exact hr.env i ao' (by simpa using ha)
    · intro i o' ao' ho ha
      cases i with
      | zero => simp at ho ha; subst ho; subst ha; exact .inl ⟨hg, rfl, h2⟩
      | succ i => exact hr.at_ i o' ao' (by simpa using ho) (by simpa using ha)
  | @step o ao os aos E H v H1 E' H' hl hg sem len pre quiet spare _ ih =>
    obtain ⟨Es, Hs, vs, hr, h1, h2, h3, h4⟩ := ih
    refine ⟨fun i => match i with | 0 => E | i + 1 => Es i, fun i => match i with | 0 => H | i + 1 => Hs i, fun i => match i with | 0 => v | i + 1 => vs i, ⟨by simp [hr.len], ?_, ?_, ?_⟩, rfl, rfl, h3, h4⟩
    · intro i o' ao' ho ha
      cases i with
      | zero => simp at ho ha; subst ho; subst ha; exact hl
      | succ i => exact hr.link i o' ao' (by simpa using ho) (by simpa using ha)
    · intro i ao' ha
      cases i with
      | zero => simp at ha; subst ha; exact h1
      | succ i => exact hr.env i ao' (by simpa using ha)
    · intro i o' ao' ho ha
      cases i with
      | zero =>
        simp at ho ha; subst ho; subst ha
        refine .inr ⟨hg, ?_, ?_, fun hs => ?_, fun hq => ?_, ?_⟩
        · show OpSem T n0 o ao.op.reads E H v (Hs 0); rw [h2]; exact sem
        · show H.length ≤ (Hs 0).length; rw [h2]; exact len
        · show H <+: Hs 0; rw [h2]; exact pre rfl hs
        · show Hs 0 = H ∧ _; rw [h2]; exact quiet hq
        · show ∀ z x y av, ao.op = .storeN z x y av → ∀ t ∈ av, ∀ b i off, E t = .ptr b i off → (Hs 0)[b]? = H[b]?; rw [h2]; exact spare
      | succ i => exact hr.at_ i o' ao' (by simpa using ho) (by simpa using ha)

section
variable {n0 : Nat} {ops : Array Oper} {l : List Oper} {al : List AOper} {Es : Nat → Env} {Hs : Nat → Heap} {vs : Nat → V}

def dstAt (al : List AOper) (j : Nat) : Option Nat := (al[j]?).bind (·.dst)
def loudAt (al : List AOper) (j : Nat) : Prop := ∃ ao, al[j]? = some ao ∧ ao.op.loud = true
def syncAt (al : List AOper) (j : Nat) : Prop := ∃ ao, al[j]? = some ao ∧ ao.sync = true

theorem Run.mono (hr : Run T n0 ops l al Es Hs vs) {i j : Nat} (h : i ≤ j) (hj : j ≤ l.length) : (Hs i).length ≤ (Hs j).length := by
  induction j with
  | zero => have : i = 0 := by omega
            subst this; exact Nat.le_refl _
  | succ j ih =>
    rcases Nat.lt_or_ge i (j + 1) with h1 | h1
    · refine Nat.le_trans (ih (by omega) (by omega)) ?_
      have ho := List.getElem?_eq_getElem (show j < l.length by omega)
      have ha := List.getElem?_eq_getElem (show j < al.length by rw [hr.len]; omega)
      rcases hr.at_ j _ _ ho ha with ⟨_, _, h2⟩ | ⟨_, _, h2, _⟩
      · rw [h2]; exact Nat.le_refl _
      · exact h2
    · have : i = j + 1 := by omega
      subst this; exact Nat.le_refl _

/-- Within a segment each heap is the beginning of the later ones. -/
theorem Run.pre (hr : Run T n0 ops l al Es Hs vs) {s : Nat} {i j : Nat} (hs : s ≤ i) (h : i ≤ j) (hj : j ≤ l.length) (hq : ∀ k, s ≤ k → k < j → loudAt al k → ¬ syncAt al k) : Hs i <+: Hs j := by
  induction j with
  | zero => have : i = 0 := by omega
            subst this; exact List.prefix_refl _
  | succ j ih =>
    rcases Nat.lt_or_ge i (j + 1) with h1 | h1
    · refine (ih (by omega) (by omega) (fun k h1 h2 => hq k h1 (by omega))).trans ?_
      have ho := List.getElem?_eq_getElem (show j < l.length by omega)
      have ha := List.getElem?_eq_getElem (show j < al.length by rw [hr.len]; omega)
      rcases hr.at_ j _ _ ho ha with ⟨_, _, h2⟩ | ⟨_, _, _, h2, h3, _⟩
      · rw [h2]; exact List.prefix_refl _
      · by_cases hl : (al[j]'(by rw [hr.len]; omega)).op.loud = true
        · apply h2
          have := hq j (by omega) (by omega) ⟨_, ha, hl⟩
          cases hsy : (al[j]'(by rw [hr.len]; omega)).sync with
          | false => rfl
          | true => exact absurd ⟨_, ha, hsy⟩ this
        · rw [(h3 (by simpa using hl)).1]; exact List.prefix_refl _
    · have : i = j + 1 := by omega
      subst this; exact List.prefix_refl _

theorem Run.val (hr : Run T n0 ops l al Es Hs vs) (t : Nat) : ∀ m, m ≤ l.length →
    (∃ j, j < m ∧ dstAt al j = some t ∧ (∀ j', j' < m → dstAt al j' = some t → j' ≤ j) ∧ Es m t = vs j) ∨ ((∀ j, j < m → dstAt al j ≠ some t) ∧ Es m t = Es 0 t)
  | 0, _ => .inr ⟨by simp, rfl⟩
  | m + 1, hm => by
    have ha := List.getElem?_eq_getElem (show m < al.length by rw [hr.len]; omega)
    have he := hr.env m _ ha
    by_cases hd : dstAt al m = some t
    · refine .inl ⟨m, by omega, hd, fun j' h1 _ => by omega, ?_⟩
      unfold dstAt at hd
      rw [ha] at hd
      simp only [Option.bind_some] at hd
      rw [he, hd]
      simp [put, upd]
    · have hsame : Es (m + 1) t = Es m t := by
        rw [he]
        unfold dstAt at hd
        rw [ha] at hd
        simp only [Option.bind_some] at hd
        cases hq : (al[m]'(by rw [hr.len]; omega)).dst with
        | none => rfl
        | some d =>
          rw [hq] at hd
          have : t ≠ d := fun e => hd (by rw [e])
          simp [put, upd, this]
      rcases hr.val t m (by omega) with ⟨j, h1, h2, h3, h4⟩ | ⟨h1, h2⟩
      · refine .inl ⟨j, by omega, h2, fun j' h5 h6 => ?_, by rw [hsame]; exact h4⟩
        rcases Nat.lt_or_ge j' m with h7 | h7
        · exact h3 j' h7 h6
        · have : j' = m := by omega
          subst this; exact absurd h6 hd
      · refine .inr ⟨fun j h5 h6 => ?_, by rw [hsame]; exact h2⟩
        rcases Nat.lt_or_ge j m with h7 | h7
        · exact h1 j h7 h6
        · have : j = m := by omega
          subst this; exact hd h6

/-- The end of the segment that begins at s. -/
theorem segEnd (al : List AOper) (n : Nat) : ∀ (d s : Nat), n - s = d → s ≤ n → ∃ e, s ≤ e ∧ e ≤ n ∧ (∀ k, s ≤ k → k < e → loudAt al k → ¬ syncAt al k) ∧ (e = n ∨ (e < n ∧ loudAt al e ∧ syncAt al e))
  | 0, s, h, hs => ⟨s, Nat.le_refl _, hs, fun k h1 h2 => by omega, .inl (by omega)⟩
  | d + 1, s, h, hs => by
    by_cases hq : loudAt al s ∧ syncAt al s
    · exact ⟨s, Nat.le_refl _, hs, fun k h1 h2 => by omega, .inr ⟨by omega, hq.1, hq.2⟩⟩
    · obtain ⟨e, h1, h2, h3, h4⟩ := segEnd al n d (s + 1) (by omega) (by omega)
      refine ⟨e, by omega, h2, fun k h5 h6 hl hsy => ?_, h4⟩
      rcases Nat.eq_or_lt_of_le h5 with h7 | h7
      · subst h7; exact hq ⟨hl, hsy⟩
      · exact h3 k (by omega) h6 hl hsy

variable {w0 : World} {M0 : Nat → Prop} {μ0 : Inj}

/-- What holds of the world while a region's operations are carried out: the ones of D have been. -/
structure HInv (T : Tab) (n0 : Nat) (al : List AOper) (n : Nat) (Hs : Nat → Heap) (w0 : World) (M0 : Nat → Prop) (μ0 : Inj) (D : Nat → Prop) (w : World) (M : Nat → Prop) (μ : Inj) (s e : Nat) : Prop where
  se : s ≤ e
  en : e ≤ n
  lo : ∀ j, j < s → loudAt al j → D j
  hi : ∀ j, e ≤ j → loudAt al j → ¬ D j
  seg : ∀ k, s ≤ k → k < e → loudAt al k → ¬ syncAt al k
  last : e = n ∨ (e < n ∧ loudAt al e ∧ syncAt al e)
  step : Step T.gid n0 w0 M0 μ0 (Hs 0) w M μ (Hs e)
  dom : ∀ b x, μ b = some x → b < (Hs s).length ∨ ∃ j, s ≤ j ∧ j < e ∧ D j ∧ (Hs j).length ≤ b ∧ b < (Hs (j + 1)).length
  low : ∀ k, s ≤ k → k ≤ e → LowH (Hs k).length μ (Hs e)

theorem HInv.begin (hr : Run T n0 ops l al Es Hs vs) {D : Nat → Prop} {w : World} {M : Nat → Prop} {μ : Inj} {s : Nat} (hs : s ≤ l.length) (lo : ∀ j, j < s → loudAt al j → D j)
    (hi : ∀ j, s ≤ j → loudAt al j → ¬ D j) (st : Step T.gid n0 w0 M0 μ0 (Hs 0) w M μ (Hs s)) : ∃ e, HInv T n0 al l.length Hs w0 M0 μ0 D w M μ s e := by
  obtain ⟨e, h1, h2, h3, h4⟩ := segEnd al l.length _ s rfl hs
  refine ⟨e, h1, h2, lo, fun j hj => hi j (by omega), h3, h4, st.trans (Step.extend st.sim (hr.pre (Nat.le_refl _) h1 h2 h3)), fun b x hx => .inl (st.sim.dom b x hx), fun k hk1 hk2 b kk hb hm hk el hel c hc => ?_⟩
  obtain ⟨⟨cc, o, z⟩, hx⟩ := Option.ne_none_iff_exists'.1 hm
  have hbs := st.sim.dom b _ hx
  rw [pre_get (hr.pre (Nat.le_refl _) h1 h2 h3) hbs] at hk
  obtain ⟨arr, et, l1, l2, l3⟩ := (st.sim.blk b cc o z kk hx hk).lay
  obtain ⟨i, hi'⟩ := List.getElem?_of_mem hel
  obtain ⟨j, hj⟩ := List.getElem?_of_mem hc
  obtain ⟨v, _, hrc⟩ := (l3 i el hi').2.2 j c hj
  exact (hrc.toLow (fun b x h => st.sim.dom b x h)).mono (hr.mono hk1 (by omega))

/-- What holds of the frame. -/
def EInv (T : Tab) (al : List AOper) (n : Nat) (Es : Nat → Env) (Hs : Nat → Heap) (vs : Nat → V) (D : Nat → Prop) (tmps : Array Value) (w : World) (M : Nat → Prop) (μ : Inj) : Prop :=
  ∀ t, (∃ j, j < n ∧ D j ∧ dstAt al j = some t ∧ (∀ j', j' < n → D j' → dstAt al j' = some t → j' ≤ j) ∧ R T.gid w M (cutM (Hs (j + 1)).length μ) (tmps.getD t Go.undef) (vs j)) ∨
    ((∀ j, j < n → D j → dstAt al j ≠ some t) ∧ R T.gid w M (cutM (Hs 0).length μ) (tmps.getD t Go.undef) (Es 0 t))

theorem cutM_le {n m : Nat} (h : n ≤ m) {μ : Inj} : ∀ b x, cutM n μ b = some x → cutM m μ b = some x := fun b x hx => by
  have h1 := cutM_lt _ _ hx
  have h2 := cutM_sub _ _ hx
  unfold cutM
  rw [if_pos (by omega)]
  exact h2

theorem cutM_mono {n : Nat} {μ μ' : Inj} (h : ∀ b x, μ b = some x → μ' b = some x) : ∀ b x, cutM n μ b = some x → cutM n μ' b = some x := fun b x hx => by
  have h1 := cutM_lt _ _ hx
  have h2 := h _ _ (cutM_sub _ _ hx)
  unfold cutM
  rw [if_pos h1]
  exact h2

/-- The static look at a region. -/
structure Static (l : List Oper) (al : List AOper) : Prop where
  down : ∀ (i : Nat) (o : Oper), l[i]? = some o → edgesDown i o = true
  self : ∀ (i : Nat) (o : Oper) (ao : AOper), l[i]? = some o → al[i]? = some ao → selfOk ao = true
  pair : ∀ (i j : Nat) (a b : AOper), i < j → al[i]? = some a → al[j]? = some b → pairOk (befores l []) i j a b = true

theorem Static.clash (hs : Static l al) {i j : Nat} {a b : AOper} (h : i < j) (ha : al[i]? = some a) (hb : al[j]? = some b) (hc : tmpClash a b = true) : ordered (befores l []) i j = true := by
  have := hs.pair i j a b h ha hb
  unfold pairOk at this
  rw [hc] at this
  simp at this
  exact this.1.2

/-- What a late load asks. -/
theorem Static.late (hs : Static l al) {i j : Nat} {a b : AOper} (h : i < j) (ha : al[i]? = some a) (hb : al[j]? = some b) {ag : Bool} {z t : Nat} (hop : a.op = .sload ag z t) :
    b.dst ≠ some t ∧ (b.sync = true → b.op.loud = true → ordered (befores l []) i j = true ∨ ∃ z x y av, b.op = .storeN z x y av ∧ t ∈ av) := by
  have := hs.pair i j a b h ha hb
  unfold pairOk softOk at this
  rw [hop] at this
  simp only [Bool.and_eq_true] at this
  obtain ⟨⟨⟨⟨h1, h2⟩, _⟩, _⟩, _⟩ := this
  refine ⟨by simpa using h1, fun g1 g2 => ?_⟩
  rw [g1, g2] at h2
  simp only [Bool.and_self, Bool.not_true, Bool.false_or, Bool.or_eq_true] at h2
  rcases h2 with h2 | h2
  · exact .inl h2
  · right
    split at h2
    · rename_i z x y av hq
      exact ⟨z, x, y, av, hq, by simpa using h2⟩
    · cases h2

theorem Static.early (hs : Static l al) {i j : Nat} {a b : AOper} (h : i < j) (ha : al[i]? = some a) (hb : al[j]? = some b) {ag : Bool} {z t : Nat} (hop : b.op = .sload ag z t) (h1 : a.sync = true) (h2 : a.op.loud = true) :
    ordered (befores l []) i j = true := by
  have := hs.pair i j a b h ha hb
  unfold pairOk softOk at this
  rw [hop, h1, h2] at this
  simp only [Bool.and_eq_true] at this
  simpa using this.1.1.2

/-- The block that a late load reads stays as it is. -/
theorem Run.still (hr : Run T n0 ops l al Es Hs vs) (hst : Static l al) {i : Nat} {ao : AOper} (ha : al[i]? = some ao) {ag : Bool} {z t b k off : Nat} (hop : ao.op = .sload ag z t) (hE : Es i t = .ptr b k off) (hb : b < (Hs i).length)
    (hHs : Hs (i + 1) = Hs i) (hdst : ao.dst ≠ some t) : ∀ e, i ≤ e → e ≤ l.length → (∀ j, i < j → j < e → loudAt al j → syncAt al j → ordered (befores l []) i j = false) → (Hs e)[b]? = (Hs i)[b]? ∧ Es e t = Es i t
  | 0, h, _, _ => by have : i = 0 := by omega
                     subst this; exact ⟨rfl, rfl⟩
  | e + 1, h, he, hq => by
    rcases Nat.lt_or_ge i (e + 1) with h1 | h1
    · obtain ⟨g1, g2⟩ := hr.still hst ha hop hE hb hHs hdst e (by omega) (by omega) fun j h2 h3 => hq j h2 (by omega)
      have hae := List.getElem?_eq_getElem (show e < al.length by rw [hr.len]; omega)
      have hoe := List.getElem?_eq_getElem (show e < l.length by omega)
      have hd : (al[e]'(by rw [hr.len]; omega)).dst ≠ some t := by
        rcases Nat.eq_or_lt_of_le (show i ≤ e by omega) with h2 | h2
        · subst h2
          rw [ha] at hae
          injection hae with hae
          rw [← hae]
          exact hdst
        · exact (hst.late h2 ha hae hop).1
      have hEe : Es (e + 1) t = Es e t := by
        rw [hr.env e _ hae]
        cases hq' : (al[e]'(by rw [hr.len]; omega)).dst with
        | none => rfl
        | some d =>
          have : t ≠ d := fun e' => hd (by rw [hq', e'])
          simp [put, upd, this]
      refine ⟨?_, hEe.trans g2⟩
      rcases Nat.eq_or_lt_of_le (show i ≤ e by omega) with h2 | h2
      · subst h2; rw [hHs]
      · rw [← g1]
        rcases hr.at_ e _ _ hoe hae with ⟨_, _, h3⟩ | ⟨_, _, _, h3, h4, h5⟩
        · rw [h3]
        · cases hl : (al[e]'(by rw [hr.len]; omega)).op.loud with
          | false => rw [(h4 hl).1]
          | true =>
            cases hsy : (al[e]'(by rw [hr.len]; omega)).sync with
            | false => exact pre_get (h3 hsy) (Nat.lt_of_lt_of_le hb (hr.mono (by omega) (by omega)))
            | true =>
              rcases (hst.late h2 ha hae hop).2 hsy hl with h6 | ⟨z', x, y, av, h6, h7⟩
              · rw [hq e h2 (by omega) ⟨_, hae, hl⟩ ⟨_, hae, hsy⟩] at h6; cases h6
              · exact h5 z' x y av h6 t h7 b k off (by rw [g2]; exact hE)
    · have : i = e + 1 := by omega
      subst this; exact ⟨rfl, rfl⟩

theorem Static.sync (hs : Static l al) {i j : Nat} {a b : AOper} (h : i < j) (ha : al[i]? = some a) (hb : al[j]? = some b) (hc : ((a.sync && b.op.loud) || (b.sync && a.op.loud)) = true) : ordered (befores l []) i j = true := by
  have := hs.pair i j a b h ha hb
  unfold pairOk at this
  rw [hc] at this
  simp at this
  exact this.2

/-- The operands of an operation that is ready. -/
theorem operands (hr : Run T n0 ops l al Es Hs vs) (hst : Static l al) {D : Nat → Prop} (hc : Closed l D) {tmps : Array Value} {w : World} {M : Nat → Prop} {μ : Inj} (hE : EInv T al l.length Es Hs vs D tmps w M μ)
    {i : Nat} {o : Oper} {ao : AOper} (ho : l[i]? = some o) (ha : al[i]? = some ao) (hD : ¬ D i) (hready : ∀ e ∈ o.after.toList, Region.binds .any e = true → D e.on) :
    ∀ t ∈ ao.reads, R T.gid w M (cutM (Hs i).length μ) (tmps.getD t Go.undef) (Es i t) := by
  intro t ht
  have hil : i < l.length := (List.getElem?_eq_some_iff.1 ho).1
  have late : ∀ j, j < l.length → D j → dstAt al j = some t → j < i := by
    intro j hj hDj hd
    rcases Nat.lt_trichotomy j i with h | h | h
    · exact h
    · subst h; exact absurd hDj hD
    · exfalso
      have haj := List.getElem?_eq_getElem (show j < al.length by rw [hr.len]; omega)
      unfold dstAt at hd
      rw [haj] at hd
      simp only [Option.bind_some] at hd
      have := hst.clash h ha haj (by unfold tmpClash; rw [hd]; simp [ht])
      exact hD (hc.before hst.down j hDj hj i this)
  have early : ∀ j, j < i → dstAt al j = some t → D j := by
    intro j hj hd
    have haj := List.getElem?_eq_getElem (show j < al.length by rw [hr.len]; omega)
    unfold dstAt at hd
    rw [haj] at hd
    simp only [Option.bind_some] at hd
    have := hst.clash hj haj ha (by unfold tmpClash; rw [hd]; simp [ht])
    exact ready_before hc hst.down ho hready j this
  rcases hE t with ⟨j, h1, h2, h3, h4, h5⟩ | ⟨h1, h2⟩
  · have hji := late j h1 h2 h3
    rcases hr.val t i (by omega) with ⟨j0, g1, g2, g3, g4⟩ | ⟨g1, g2⟩
    · have e1 : j ≤ j0 := g3 j hji h3
      have e2 : j0 ≤ j := h4 j0 (by omega) (early j0 g1 g2) g2
      have : j = j0 := by omega
      subst this
      rw [g4]
      exact h5.mono (Keep.refl w M) (Shape.refl w) (cutM_le (hr.mono (by omega) (by omega)))
    · exact absurd h3 (g1 j hji)
  · rcases hr.val t i (by omega) with ⟨j0, g1, g2, g3, g4⟩ | ⟨g1, g2⟩
    · exact absurd g2 (h1 j0 (by omega) (early j0 g1 g2))
    · rw [g2]
      exact h2.mono (Keep.refl w M) (Shape.refl w) (cutM_le (hr.mono (by omega) (by omega)))

/-- The frame behind an operation. -/
theorem EInv.put (hr : Run T n0 ops l al Es Hs vs) (hst : Static l al) {D : Nat → Prop} (hc : Closed l D) {tmps : Array Value} {w : World} {M : Nat → Prop} {μ : Inj} (hE : EInv T al l.length Es Hs vs D tmps w M μ)
    {i : Nat} {ao : AOper} (hil : i < l.length) (ha : al[i]? = some ao) (hD : ¬ D i) {w' : World} {M' : Nat → Prop} {μ' : Inj} (kp : Keep w M w' M') (sh : Shape w w') (mm : ∀ b x, μ b = some x → μ' b = some x)
    {v' : Value} (hv : R T.gid w' M' (cutM (Hs (i + 1)).length μ') v' (vs i)) (hsz : ∀ d, ao.dst = some d → d < tmps.size) (ds : List Deferred) :
    EInv T al l.length Es Hs vs (fun j => D j ∨ j = i) (Act.put { tmps := tmps, defers := ds } ao.dst v').tmps w' M' μ' := by
  have hdst : dstAt al i = ao.dst := by unfold dstAt; rw [ha]; rfl
  intro t
  by_cases ht : ao.dst = some t
  · left
    refine ⟨i, hil, .inr rfl, by rw [hdst]; exact ht, fun j' h1 h2 h3 => ?_, ?_⟩
    · rcases h2 with h2 | h2
      · rcases Nat.lt_or_ge i j' with h4 | h4
        · exfalso
          have haj := List.getElem?_eq_getElem (show j' < al.length by rw [hr.len]; omega)
          unfold dstAt at h3
          rw [haj] at h3
          simp only [Option.bind_some] at h3
          have := hst.clash h4 ha haj (by unfold tmpClash; rw [ht, h3]; simp)
          exact hD (hc.before hst.down j' h2 h1 i this)
        · exact h4
      · omega
    · simp only [Act.put, ht]
      rw [Array.getD_eq_getD_getElem?, Array.getElem?_setIfInBounds, if_pos rfl, if_pos (hsz t ht)]
      exact hv
  · have hsame : (Act.put { tmps := tmps, defers := ds } ao.dst v').tmps.getD t Go.undef = tmps.getD t Go.undef := by
      cases hd : ao.dst with
      | none => rfl
      | some d =>
        have : d ≠ t := fun e => ht (by rw [hd, e])
        simp only [Act.put]
        rw [Array.getD_eq_getD_getElem?, Array.getElem?_setIfInBounds, if_neg this, ← Array.getD_eq_getD_getElem?]
    rw [hsame]
    rcases hE t with ⟨j, h1, h2, h3, h4, h5⟩ | ⟨h1, h2⟩
    · refine .inl ⟨j, h1, .inl h2, h3, fun j' g1 g2 g3 => ?_, h5.mono kp sh (cutM_mono mm)⟩
      rcases g2 with g2 | g2
      · exact h4 j' g1 g2 g3
      · subst g2; rw [hdst] at g3; exact absurd g3 ht
    · refine .inr ⟨fun j g1 g2 g3 => ?_, h2.mono kp sh (cutM_mono mm)⟩
      rcases g2 with g2 | g2
      · exact h1 j g1 g2 g3
      · subst g2; rw [hdst] at g3; exact absurd g3 ht

end

end Go.Abs
/- A region that draws its order: the last part. -/
namespace Go.Abs

variable {T : Tab}

theorem lowB_low {n : Nat} {c : V} (h : V.lowB n c = true) : Low n c := by
  cases c <;> simp only [V.lowB, decide_eq_true_eq] at h
  case ref b z off len => exact .ref b z off len h
  case ptr b i off => exact .ptr b i off h
  all_goals exact .cell h

theorem R.cut {gid : Gid} {w : World} {M : Nat → Prop} {μ : Inj} {n : Nat} {v : Value} {a : V} (h : R gid w M μ v a) (ht : a.isTup = false) (hl : ∀ c ∈ a.cells, Low n c) : R gid w M (cutM n μ) v a := by
  have hμ : ∀ b x, b < n → μ b = some x → cutM n μ b = some x := fun b x hb hx => by unfold cutM; rw [if_pos hb]; exact hx
  cases h with
  | c h1 => exact .c (h1.low (Keep.refl w M) (Shape.refl w) hμ (hl a (by rw [V.cells_cell h1.isCell]; simp)))
  | agg arr cs hsz h1 => exact .agg arr cs hsz fun i x c hx hc => (h1 i x c hx hc).low (Keep.refl w M) (Shape.refl w) hμ (hl c (List.mem_of_getElem? hc))
  | tup => cases ht

section
variable {n0 : Nat} {ops : Array Oper} {l : List Oper} {al : List AOper} {Es : Nat → Env} {Hs : Nat → Heap} {vs : Nat → V} {w0 : World} {M0 : Nat → Prop} {μ0 : Inj}

/-- The heap's part, where no heap was asked for. -/
theorem HInv.quiet {D : Nat → Prop} {w : World} {M : Nat → Prop} {μ : Inj} {s e : Nat} (h : HInv T n0 al l.length Hs w0 M0 μ0 D w M μ s e) {i : Nat} (hq : ¬ loudAt al i) {w' : World} {M' : Nat → Prop} (st : Step T.gid n0 w M μ (Hs e) w' M' μ (Hs e)) :
    HInv T n0 al l.length Hs w0 M0 μ0 (fun j => D j ∨ j = i) w' M' μ s e :=
  ⟨h.se, h.en, fun j h1 h2 => .inl (h.lo j h1 h2), fun j h1 h2 h3 => h3.elim (h.hi j h1 h2) (fun e => hq (e ▸ h2)), h.seg, h.last, h.step.trans st,
    fun b x hx => (h.dom b x hx).imp id fun ⟨j, h1, h2, h3, h4⟩ => ⟨j, h1, h2, .inl h3, h4⟩, h.low⟩

theorem HInv.skipSeg {D : Nat → Prop} {w : World} {M : Nat → Prop} {μ : Inj} {s e : Nat} (h : HInv T n0 al l.length Hs w0 M0 μ0 D w M μ s e) {i : Nat} (h1 : i < e) : HInv T n0 al l.length Hs w0 M0 μ0 (fun j => D j ∨ j = i) w M μ s e :=
  ⟨h.se, h.en, fun j h1 h2 => .inl (h.lo j h1 h2), fun j h2 h3 h4 => h4.elim (h.hi j h2 h3) (fun e => by omega), h.seg, h.last, h.step,
    fun b x hx => (h.dom b x hx).imp id fun ⟨j, h1, h2, h3, h4⟩ => ⟨j, h1, h2, .inl h3, h4⟩, h.low⟩

/-- One operation that is ready, whatever it is. -/
theorem drawn_step (hr : Run T n0 ops l al Es Hs vs) (hst : Static l al) (hn0 : n0 ≤ (Hs 0).length) {D : Nat → Prop} (hc : Closed l D) {a : Act} {w : World} {M : Nat → Prop} {μ : Inj} {s e : Nat}
    (hH : HInv T n0 al l.length Hs w0 M0 μ0 D w M μ s e) (hE : EInv T al l.length Es Hs vs D a.tmps w M μ) {i : Nat} {o : Oper} {ao : AOper} (hopi : ops[i]? = some o) (ho : l[i]? = some o) (ha : al[i]? = some ao) (hD : ¬ D i)
    (hready : ∀ e ∈ o.after.toList, Region.binds .any e = true → D e.on) (hsz : ∀ d, ao.dst = some d → d < a.tmps.size) (K : Act → World → Prop) (Q : Exit → Act → World → Prop)
    (hK : ∀ a' w' M' μ' s' e', HInv T n0 al l.length Hs w0 M0 μ0 (fun j => D j ∨ j = i) w' M' μ' s' e' → EInv T al l.length Es Hs vs (fun j => D j ∨ j = i) a'.tmps w' M' μ' → a'.tmps.size = a.tmps.size → a'.defers = a.defers → K a' w') :
    wpOp T.P ops Q i K a w := by
  have hil : i < l.length := (List.getElem?_eq_some_iff.1 ho).1
  have hlink := hr.link i o ao ho ha
  have hopd := operands hr hst hc hE ho ha hD hready
  have hw : ∀ {b}, gd ao (Es i) = some b → Region.wanted o (yielded ops a.tmps) = b := fun hg =>
    wanted_eq (w := w) (M := M) (μ := cutM (Hs i).length μ) hlink (fun t ⟨want, hg'⟩ => hopd t (by unfold AOper.reads; rw [hg']; simp)) hg
  have hput : ∀ {v' : Value}, (a.put o.dst v').tmps = (Act.put { tmps := a.tmps, defers := a.defers } ao.dst v').tmps := by rw [hlink.dst]; intros; rfl
  -- where a loud operation stands
  have place : loudAt al i → (s ≤ i ∧ i < e) ∨ (i = e ∧ e < l.length) := by
    intro hloud
    rcases Nat.lt_or_ge i s with h1 | h1
    · exact absurd (hH.lo i h1 hloud) hD
    · rcases Nat.lt_trichotomy i e with h2 | h2 | h2
      · exact .inl ⟨h1, h2⟩
      · exact .inr ⟨h2, by omega⟩
      · exfalso
        rcases hH.last with h3 | ⟨h3, h4, h5⟩
        · omega
        · obtain ⟨ae, hae, hse⟩ := h5
          obtain ⟨ai, hai, hli⟩ := hloud
          rw [ha] at hai; injection hai with hai; subst hai
          have := hst.sync h2 hae ha (by rw [hse, hli]; rfl)
          exact hH.hi e (Nat.le_refl _) h4 (ready_before hc hst.down ho hready e this)
  -- a sync operation begins a new segment
  have next : ∀ {w' : World} {M' : Nat → Prop} {μ' : Inj}, i = e → e < l.length → Step T.gid n0 w0 M0 μ0 (Hs 0) w' M' μ' (Hs (i + 1)) → ∃ e', HInv T n0 al l.length Hs w0 M0 μ0 (fun j => D j ∨ j = i) w' M' μ' (i + 1) e' := by
    intro w' M' μ' hie hel st
    subst hie
    rcases hH.last with h3 | ⟨h3, h4, h5⟩
    · omega
    · obtain ⟨ae, hae, hse⟩ := h5
      refine HInv.begin hr (by omega) (fun j hj hl => ?_) (fun j hj hl hD' => ?_) st
      · rcases Nat.lt_or_ge j i with h6 | h6
        · obtain ⟨aj, haj, hlj⟩ := hl
          have := hst.sync h6 haj hae (by rw [hse, hlj]; simp)
          exact .inl (ready_before hc hst.down ho hready j this)
        · exact .inr (by omega)
      · rcases hD' with hD' | hD'
        · exact hH.hi j (by omega) hl hD'
        · omega
  unfold wpOp
  rw [hopi]
  simp only []
  rcases hr.at_ i o ao ho ha with ⟨hg, hv, hHs⟩ | ⟨hg, sem, hlen, hpre, hquiet, _⟩
  · rw [hw hg]
    simp only [Bool.false_eq_true, if_false]
    have hEi : EInv T al l.length Es Hs vs (fun j => D j ∨ j = i) (a.put o.dst Go.undef).tmps w M μ := by
      rw [hput]
      exact EInv.put hr hst hc hE hil ha hD (Keep.refl w M) (Shape.refl w) (fun _ _ h => h) (by rw [hv]; exact R.undef) hsz a.defers
    by_cases hloud : loudAt al i
    · rcases place hloud with ⟨_, h2⟩ | ⟨h1, h2⟩
      · exact hK _ w M μ s e (hH.skipSeg h2) hEi (by rw [put_size]) (by rw [put_defers])
      · obtain ⟨e', hH'⟩ := next h1 h2 (by rw [hHs, h1]; exact hH.step)
        exact hK _ w M μ (i + 1) e' hH' hEi (by rw [put_size]) (by rw [put_defers])
    · exact hK _ w M μ s e (hH.quiet hloud (.refl hH.step.sim)) hEi (by rw [put_size]) (by rw [put_defers])
  · rw [hw hg]
    simp only [if_true]
    left
    have hreads : ∀ t ∈ ao.op.reads, R T.gid w M (cutM (Hs i).length μ) (a.tmps.getD t Go.undef) (Es i t) := fun t ht => hopd t (by unfold AOper.reads; exact List.mem_append_left _ ht)
    by_cases hloud : loudAt al i
    · rcases place hloud with ⟨h1, h2⟩ | ⟨h1, h2⟩
      · -- in the midst of a segment
        have hnsy : ao.sync = false := by
          cases hs' : ao.sync with
          | false => rfl
          | true => exact absurd ⟨ao, ha, hs'⟩ (hH.seg i h1 h2 hloud)
        have hp0 : Hs i <+: Hs e := hr.pre h1 (by omega) hH.en hH.seg
        have hp1 : Hs (i + 1) <+: Hs e := hr.pre (s := s) (by omega) (by omega) hH.en hH.seg
        have hsr := hH.step.sim.restrict hp0 (hH.low i h1 (by omega))
        refine sem a w M (cutM (Hs i).length μ) K Q (Nat.le_trans hn0 (hr.mono (Nat.zero_le _) (by omega))) hsr hreads fun v' w' M' μi B hrv => ?_
        have hgap : ∀ b, (Hs i).length ≤ b → b < (Hs (i + 1)).length → μ b = none := by
          intro b hb1 hb2
          cases hq : μ b with
          | none => rfl
          | some x =>
            exfalso
            rcases hH.dom b x hq with h3 | ⟨j, h3, h4, h5, h6, h7⟩
            · have := hr.mono h1 (show i ≤ l.length by omega); omega
            · rcases Nat.lt_trichotomy j i with h8 | h8 | h8
              · have := hr.mono (show j + 1 ≤ i by omega) (by omega); omega
              · subst h8; exact hD h5
              · have := hr.mono (show i + 1 ≤ j by omega) (by have := hH.en; omega); omega
        have A' := Step.merge hH.step (hr.mono (Nat.zero_le _) (by omega)) hn0 (hpre hnsy) hp1 hgap hsr B
        have hold : ∀ b x, μ b = some x → (if b < (Hs (i + 1)).length then μi b else μ b) = some x := by
          intro b x hb
          split
          · rename_i g1
            by_cases g2 : b < (Hs i).length
            · rw [B.ext b g2]; unfold cutM; rw [if_pos g2]; exact hb
            · rw [hgap b (by omega) g1] at hb; cases hb
          · exact hb
        refine hK _ w' M' _ s e ⟨hH.se, hH.en, fun j g1 g2 => .inl (hH.lo j g1 g2), fun j g1 g2 g3 => g3.elim (hH.hi j g1 g2) (fun e => by omega), hH.seg, hH.last, A', ?_, ?_⟩ ?_ (by rw [put_size]) (by rw [put_defers])
        · intro b x hx
          split at hx
          · by_cases g2 : b < (Hs i).length
            · rw [B.ext b g2] at hx
              exact (hH.dom b x (cutM_sub _ _ hx)).imp id fun ⟨j, g3, g4, g5, g6⟩ => ⟨j, g3, g4, .inl g5, g6⟩
            · exact .inr ⟨i, h1, h2, .inr rfl, by omega, by assumption⟩
          · exact (hH.dom b x hx).imp id fun ⟨j, g3, g4, g5, g6⟩ => ⟨j, g3, g4, .inl g5, g6⟩
        · intro k hk1 hk2 b kk hb hm hkk el hel c hcc
          by_cases g1 : b < (Hs i).length
          · have hm' : μ b ≠ none := by
              have g3 : b < (Hs (i + 1)).length := by omega
              simp only [if_pos g3] at hm
              rw [B.ext b g1] at hm
              unfold cutM at hm
              rw [if_pos g1] at hm
              exact hm
            exact hH.low k hk1 hk2 b kk hb hm' hkk el hel c hcc
          · by_cases g2 : b < (Hs (i + 1)).length
            · simp only [if_pos g2] at hm
              obtain ⟨⟨cc, oo, z⟩, hx⟩ := Option.ne_none_iff_exists'.1 hm
              rw [pre_get hp1 g2] at hkk
              obtain ⟨arr, et, l1, l2, l3⟩ := (B.sim.blk b cc oo z kk hx hkk).lay
              obtain ⟨q, hq⟩ := List.getElem?_of_mem hel
              obtain ⟨j, hj⟩ := List.getElem?_of_mem hcc
              obtain ⟨v, _, hrc⟩ := (l3 q el hq).2.2 j c hj
              have hki : i + 1 ≤ k := by
                rcases Nat.lt_or_ge i k with h | h
                · exact h
                · have := hr.mono h (show i ≤ l.length by omega); omega
              exact (hrc.toLow (fun b x h => B.sim.dom b x h)).mono (hr.mono hki (by have := hH.en; omega))
            · simp only [if_neg g2] at hm
              exact hH.low k hk1 hk2 b kk hb hm hkk el hel c hcc
        · rw [hput]
          refine EInv.put hr hst hc hE hil ha hD (B.keep hsr) B.shape hold (hrv.mono (Keep.refl w' M') (Shape.refl w') fun b x hx => ?_) hsz a.defers
          have g1 := B.sim.dom b x hx
          unfold cutM
          simp only [if_pos g1]
          exact hx
      · -- at the segment's end
        subst h1
        have hfull := hH.step.sim
        refine sem a w M μ K Q (Nat.le_trans hn0 (hr.mono (Nat.zero_le _) (by omega))) hfull (fun t ht => (hreads t ht).mono (Keep.refl w M) (Shape.refl w) cutM_sub) fun v' w' M' μ' B hrv => ?_
        obtain ⟨e', hH'⟩ := next rfl h2 (hH.step.trans B)
        refine hK _ w' M' μ' (i + 1) e' hH' ?_ (by rw [put_size]) (by rw [put_defers])
        rw [hput]
        refine EInv.put hr hst hc hE hil ha hD (B.keep hfull) B.shape (B.mono_map hfull) (hrv.mono (Keep.refl w' M') (Shape.refl w') fun b x hx => ?_) hsz a.defers
        unfold cutM
        rw [if_pos (B.sim.dom b x hx)]
        exact hx
    · -- no heap is asked for
      have hl : ao.op.loud = false := by
        cases hq : ao.op.loud with
        | false => rfl
        | true => exact absurd ⟨ao, ha, hq⟩ hloud
      obtain ⟨hHs, hsem | hlate⟩ := hquiet hl
      rotate_left
      · obtain ⟨ag, z, t, b, k, off, hop, hEt, hb, htup, hlow, hsem⟩ := hlate
        have hlen' : al.length = l.length := hr.len
        have hie : i ≤ e := by
          rcases Nat.lt_or_ge e i with h1 | h1
          · exfalso
            rcases hH.last with h2 | ⟨h2, h3, h4⟩
            · omega
            · obtain ⟨ae, hae, hse⟩ := h4
              obtain ⟨ae', hae', hle⟩ := h3
              rw [hae] at hae'; injection hae' with hae'; subst hae'
              have := hst.early h1 hae ha hop hse hle
              exact hH.hi e (Nat.le_refl _) ⟨_, hae, hle⟩ (ready_before hc hst.down ho hready e this)
          · exact h1
        have hdt : ao.dst ≠ some t := by
          intro hd
          have := hst.self i o ao ho ha
          simp [selfOk, hop, hd] at this
        obtain ⟨hstill, _⟩ := hr.still hst ha hop hEt hb hHs hdt e hie hH.en fun j h1 h2 h3 h4 => by
          cases hq : ordered (befores l []) i j with
          | false => rfl
          | true =>
            exfalso
            rcases Nat.lt_or_ge j s with h5 | h5
            · exact hD (hc.before hst.down j (hH.lo j h5 h3) (by have := hH.en; omega) i hq)
            · exact hH.seg j h5 h2 h3 h4
        refine hsem (Hs e) hstill a w M μ K Q (Nat.le_trans hn0 (hr.mono (Nat.zero_le _) hH.en)) hH.step.sim (fun t' ht' => (hreads t' ht').mono (Keep.refl w M) (Shape.refl w) cutM_sub) fun v' w' M' μ' B hrv => ?_
        have hμ : μ' = μ := by
          funext b'
          rcases Nat.lt_or_ge b' (Hs e).length with h1 | h1
          · exact B.ext b' h1
          · have e1 : μ' b' = none := by
              cases hq : μ' b' with
              | none => rfl
              | some x => have := B.sim.dom b' x hq; omega
            have e2 : μ b' = none := by
              cases hq : μ b' with
              | none => rfl
              | some x => have := hH.step.sim.dom b' x hq; omega
            rw [e1, e2]
        subst hμ
        refine hK _ w' M' μ' s e (hH.quiet hloud B) ?_ (by rw [put_size]) (by rw [put_defers])
        rw [hput]
        refine EInv.put hr hst hc hE hil ha hD (B.keep hH.step.sim) B.shape (fun _ _ h => h) ?_ hsz a.defers
        rw [hHs]
        exact hrv.cut htup fun c hcc => lowB_low (hlow c hcc)
      have hdead : Sim T.gid w M (cutM (Hs i).length μ) (List.replicate (Hs e).length none) := Sim.dead hH.step.sim.tab fun b x hx => hH.step.sim.dom b x (cutM_sub _ _ hx)
      refine hsem (List.replicate (Hs e).length none) a w M _ K Q (by simp only [List.length_replicate]; exact Nat.le_trans hn0 (hr.mono (Nat.zero_le _) hH.en)) hdead hreads fun v' w' M' μ' B hrv => ?_
      have st := Step.of_dead hH.step.sim B
      refine hK _ w' M' μ s e (hH.quiet hloud st) ?_ (by rw [put_size]) (by rw [put_defers])
      rw [hput]
      refine EInv.put hr hst hc hE hil ha hD (st.keep hH.step.sim) st.shape (fun _ _ h => h) (hrv.mono (Keep.refl w' M') (Shape.refl w') fun b x hx => ?_) hsz a.defers
      have hb : b < (Hs e).length := by simpa using B.sim.dom b x hx
      rw [B.ext b (by simpa using hb)] at hx
      rw [hHs]
      exact hx

/-- How many are still to come. -/
def left (n : Nat) (listed : Array Bool) : Nat := ((List.range n).filter fun i => !listed.getD i false).length

theorem left_set {n : Nat} {listed : Array Bool} {i : Nat} (hi : i < n) (hs : listed.size = n) (h : listed.getD i false = false) : left n (listed.setIfInBounds i true) < left n listed := by
  unfold left
  have sub : ((List.range n).filter fun j => !(listed.setIfInBounds i true).getD j false) = ((List.range n).filter fun j => !listed.getD j false).filter fun j => decide (j ≠ i) := by
    rw [List.filter_filter]
    apply List.filter_congr
    intro j hj
    simp only [Array.getD_eq_getD_getElem?, Array.getElem?_setIfInBounds]
    by_cases e : i = j
    · subst e; simp [hs, hi]
    · have : j ≠ i := fun h => e h.symm
      simp [e, this]
  rw [sub]
  apply List.length_filter_lt_length_iff_exists.2
  exact ⟨i, List.mem_filter.2 ⟨List.mem_range.2 hi, by simp only [h]; rfl⟩, by simp⟩

theorem drawn_all (hr : Run T n0 ops ops.toList al Es Hs vs) (hst : Static ops.toList al) (hn0 : n0 ≤ (Hs 0).length) (Q : Exit → Act → World → Prop) {N : Nat} (hds : dstsOk N al = true)
    (hQ : ∀ a' w' M' μ', Step T.gid n0 w0 M0 μ0 (Hs 0) w' M' μ' (Hs ops.toList.length) → ERel T.gid w' M' μ' a'.tmps (Es ops.toList.length) → a'.defers = [] → N ≤ a'.tmps.size → Q .normal a' w') :
    ∀ (fuel : Nat) (listed : Array Bool) (a : Act) (w : World) (M : Nat → Prop) (μ : Inj) (s e : Nat), listed.size = ops.size → left ops.size listed ≤ fuel → Closed ops.toList (fun i => listed.getD i false = true) →
      HInv T n0 al ops.toList.length Hs w0 M0 μ0 (fun i => listed.getD i false = true) w M μ s e → EInv T al ops.toList.length Es Hs vs (fun i => listed.getD i false = true) a.tmps w M μ → N ≤ a.tmps.size → a.defers = [] →
      wpAny T.P .any ops Q fuel listed a w := by
  have hlen : ops.toList.length = ops.size := by simp
  have readyOf : ∀ {listed : Array Bool} {i : Nat}, i ∈ Region.ready .any ops listed → listed.size = ops.size → ∃ o, i < ops.size ∧ ops[i]? = some o ∧ listed.getD i false = false ∧ ∀ e ∈ o.after.toList, Region.binds .any e = true → listed.getD e.on false = true := by
    intro listed i hi hs
    unfold Region.ready at hi
    rw [List.mem_filter] at hi
    obtain ⟨h1, h2⟩ := hi
    have hil := List.mem_range.1 h1
    simp only [Bool.and_eq_true, Bool.not_eq_true'] at h2
    obtain ⟨h2, h3⟩ := h2
    have ho : ops[i]? = some ops[i] := by simp [hil]
    rw [ho] at h3
    simp only [Option.map_some, Option.getD_some] at h3
    refine ⟨_, hil, ho, ?_, fun e he hb => ?_⟩
    · rw [Array.getD_eq_getD_getElem?] at h2 ⊢
      have : listed[i]? = some (listed[i]'(by omega)) := by simp [hs, hil]
      rw [this] at h2 ⊢
      exact h2
    · rw [Array.all_eq_true_iff_forall_mem] at h3
      have := h3 e (by simpa using he)
      simp only [hb, Bool.not_true, Bool.false_or] at this
      exact this
  have finish : ∀ {listed : Array Bool} {a : Act} {w : World} {M : Nat → Prop} {μ : Inj} {s e : Nat}, listed.size = ops.size → Closed ops.toList (fun i => listed.getD i false = true) → Region.ready .any ops listed = [] →
      HInv T n0 al ops.toList.length Hs w0 M0 μ0 (fun i => listed.getD i false = true) w M μ s e → EInv T al ops.toList.length Es Hs vs (fun i => listed.getD i false = true) a.tmps w M μ → N ≤ a.tmps.size → a.defers = [] → Q .normal a w := by
    intro listed a w M μ s e hs hc hready hH hE hN hd
    have all : ∀ i, i < ops.size → listed.getD i false = true := by
      intro i
      induction i using Nat.strongRecOn with
      | _ i ih =>
        intro hi
        cases hq : listed.getD i false with
        | true => rfl
        | false =>
          exfalso
          have ho : ops.toList[i]? = some ops[i] := by simp [hi]
          have : i ∈ Region.ready .any ops listed := by
            unfold Region.ready
            rw [List.mem_filter]
            refine ⟨List.mem_range.2 hi, ?_⟩
            have h1 : listed.getD i true = false := by
              rw [Array.getD_eq_getD_getElem?] at hq ⊢
              have : listed[i]? = some (listed[i]'(by omega)) := by simp [hs, hi]
              rw [this] at hq ⊢
              exact hq
            have h2 : ops[i]? = some ops[i] := by simp [hi]
            rw [h1, h2]
            simp only [Bool.not_false, Option.map_some, Option.getD_some, Bool.true_and]
            rw [Array.all_eq_true_iff_forall_mem]
            intro e' he'
            cases hb : Region.binds .any e' with
            | false => simp
            | true =>
              have hdn := hst.down i _ ho
              unfold edgesDown at hdn
              have h3 := List.all_eq_true.1 hdn e' (by simpa using he')
              simp [hb] at h3
              simp [ih e'.on h3 (by omega)]
          rw [hready] at this
          cases this
    have hen : e = ops.toList.length := by
      rcases hH.last with h1 | ⟨h1, h2, _⟩
      · exact h1
      · exact absurd (all e (by rw [← hlen]; exact h1)) (hH.hi e (Nat.le_refl _) h2)
    subst hen
    refine hQ a w M μ hH.step (fun t => ?_) hd hN
    rcases hE t with ⟨j, h1, h2, h3, h4, h5⟩ | ⟨h1, h2⟩
    · rcases hr.val t _ (Nat.le_refl _) with ⟨j0, g1, g2, g3, g4⟩ | ⟨g1, g2⟩
      · have e1 : j ≤ j0 := g3 j h1 h3
        have e2 : j0 ≤ j := h4 j0 g1 (all j0 (by rw [← hlen]; exact g1)) g2
        have : j = j0 := by omega
        subst this
        rw [g4]
        exact h5.mono (Keep.refl w M) (Shape.refl w) cutM_sub
      · exact absurd h3 (g1 j h1)
    · rcases hr.val t _ (Nat.le_refl _) with ⟨j0, g1, g2, g3, g4⟩ | ⟨g1, g2⟩
      · exact absurd g2 (h1 j0 g1 (all j0 (by rw [← hlen]; exact g1)))
      · rw [g2]; exact h2.mono (Keep.refl w M) (Shape.refl w) cutM_sub
  intro fuel
  induction fuel with
  | zero =>
    intro listed a w M μ s e hs hf hc hH hE hN hd
    have hready : Region.ready .any ops listed = [] := by
      cases hq : Region.ready .any ops listed with
      | nil => rfl
      | cons i r =>
        exfalso
        obtain ⟨o, h1, h2, h3, _⟩ := readyOf (listed := listed) (i := i) (by rw [hq]; simp) hs
        have := left_set h1 hs h3
        omega
    exact ⟨hready, finish hs hc hready hH hE hN hd⟩
  | succ fuel ih =>
    intro listed a w M μ s e hs hf hc hH hE hN hd
    refine ⟨fun hready => finish hs hc hready hH hE hN hd, fun i hi => ?_⟩
    obtain ⟨o, h1, h2, h3, h4⟩ := readyOf hi hs
    have ho : ops.toList[i]? = some o := by simpa using h2
    have hal : i < al.length := by rw [hr.len, hlen]; exact h1
    have ha := List.getElem?_eq_getElem hal
    have hset : ∀ j, (listed.setIfInBounds i true).getD j false = true ↔ (listed.getD j false = true ∨ j = i) := by
      intro j
      simp only [Array.getD_eq_getD_getElem?, Array.getElem?_setIfInBounds]
      by_cases e : i = j
      · subst e; simp [hs, h1]
      · have : j ≠ i := fun h => e h.symm
        simp [e, this]
    have hfun : (fun j => (listed.setIfInBounds i true).getD j false = true) = (fun j => listed.getD j false = true ∨ j = i) := funext fun j => propext (hset j)
    refine drawn_step hr hst hn0 hc hH hE h2 ho ha (by simp [h3]) h4 (fun d hd' => ?_) _ Q fun a' w' M' μ' s' e' hH' hE' hsz hdf => ?_
    · have := List.all_eq_true.1 hds _ (List.getElem_mem hal)
      rw [hd'] at this
      simp at this
      omega
    · refine ih _ a' w' M' μ' s' e' (by simp [hs]) (by have := left_set h1 hs h3; omega) ?_ (by rw [hfun]; exact hH') (by rw [hfun]; exact hE') (by omega) (by rw [hdf]; exact hd)
      rw [hfun]
      intro j oj hj hoj e' he' hb'
      rcases hj with hj | hj
      · exact .inl (hc j oj hj hoj e' he' hb')
      · subst hj
        rw [ho] at hoj
        injection hoj with hoj
        subst hoj
        exact .inl (h4 e' he' hb')

end

end Go.Abs
/- What a function hands back: its own blocks are given up, or laid anew behind the elder ones. -/
namespace Go.Abs

variable {gid : Gid} {w w0 : World} {M M0 : Nat → Prop} {μ μ0 : Inj} {H H0 : Heap} {n0 : Nat}

theorem Sim.lowH (hs : Sim gid w M μ H) {n : Nat} (hn : H.length ≤ n) : LowH n μ H := by
  intro b k hb hm hk el hel c hc
  obtain ⟨⟨cc, o, z⟩, hx⟩ := Option.ne_none_iff_exists'.1 hm
  obtain ⟨arr, et, l1, l2, l3⟩ := (hs.blk b cc o z k hx hk).lay
  obtain ⟨i, hi⟩ := List.getElem?_of_mem hel
  obtain ⟨j, hj⟩ := List.getElem?_of_mem hc
  obtain ⟨v, _, hr⟩ := (l3 i el hi).2.2 j c hj
  exact (hr.toLow fun b x h => hs.dom b x h).mono hn

theorem R.pureAny {v : Value} {c : V} (h : R gid w M μ v c) (hp : c.pure = true) (μ' : Inj) : R gid w M μ' v c := by
  cases h with
  | c h => exact .c (.p (h.pure (by
      have := h.isCell
      unfold V.pure at hp
      rw [V.cells_cell this] at hp
      simpa using hp)))
  | agg arr cs hsz hr => exact .agg arr cs hsz fun i x y hx hy => .p ((hr i x y hx hy).pure (List.all_eq_true.1 hp y (List.mem_of_getElem? hy)))
  | tup => simp [V.pure, V.cells, V.cellPure] at hp

/-- The numbering behind a return: J blocks are left out. -/
def shiftM (n0 L m : Nat) (μ : Inj) : Inj := fun b => if b < n0 then μ b else if b < n0 + m then μ (b - n0 + L) else none

theorem Step.drop {A J B : Heap} (st : Step gid n0 w0 M0 μ0 H0 w M μ (A ++ J ++ B)) (hA : A.length = n0) (h0 : H0.length = n0) (hlow : LowH n0 μ0 H0)
    (hB : ∀ k, some k ∈ B → k.arr = true) : Step gid n0 w0 M0 μ0 H0 w M (shiftM n0 (n0 + J.length) B.length μ) (A ++ B) := by
  have hs := st.sim
  have hl := st.low n0 (Nat.le_refl _) hlow
  have getA : ∀ b, b < n0 → (A ++ J ++ B)[b]? = (A ++ B)[b]? := by
    intro b hb
    rw [List.append_assoc, List.getElem?_append_left (by omega), List.getElem?_append_left (by omega)]
  have getB : ∀ b, n0 ≤ b → (A ++ J ++ B)[b - n0 + (n0 + J.length)]? = (A ++ B)[b]? := by
    intro b hb
    rw [List.getElem?_append_right (by simp; omega), List.getElem?_append_right (by omega)]
    congr 1
    simp; omega
  have inv : ∀ b x, shiftM n0 (n0 + J.length) B.length μ b = some x → (b < n0 ∧ μ b = some x) ∨ (n0 ≤ b ∧ b < n0 + B.length ∧ μ (b - n0 + (n0 + J.length)) = some x) := by
    intro b x h
    unfold shiftM at h
    split at h
    · exact .inl ⟨by assumption, h⟩
    · split at h
      · exact .inr ⟨by omega, by assumption, h⟩
      · cases h
  have big : ∀ b x, shiftM n0 (n0 + J.length) B.length μ b = some x → ∃ b', μ b' = some x ∧ (A ++ J ++ B)[b']? = (A ++ B)[b]? ∧ (b < n0 ∧ b' = b ∨ n0 ≤ b ∧ b' = b - n0 + (n0 + J.length)) := by
    intro b x h
    rcases inv b x h with ⟨h1, h2⟩ | ⟨h1, h2, h3⟩
    · exact ⟨b, h2, getA b h1, .inl ⟨h1, rfl⟩⟩
    · exact ⟨_, h3, getB b h1, .inr ⟨h1, rfl⟩⟩
  refine ⟨⟨?_, ?_, ?_, st.sim.tab⟩, ?_, by simp; omega, st.size, st.frame, st.shape, st.sub, st.keepM, ?_, ?_, ?_, ?_, st.os, st.tape, st.output⟩
  · intro b x h
    rcases inv b x h with ⟨h1, _⟩ | ⟨_, h2, _⟩ <;> simp <;> omega
  · intro b1 b2 c o z o' z' h1 h2 ⟨k1, a1⟩ ⟨k2, a2⟩
    obtain ⟨q1, g1, g2, g3⟩ := big b1 _ h1
    obtain ⟨q2, g4, g5, g6⟩ := big b2 _ h2
    have := hs.inj q1 q2 c o z o' z' g1 g4 ⟨k1, by rw [g2]; exact a1⟩ ⟨k2, by rw [g5]; exact a2⟩
    omega
  · intro b c o z k h1 h2
    obtain ⟨q, g1, g2, g3⟩ := big b _ h1
    have hk := hs.blk q c o z k g1 (by rw [g2]; exact h2)
    obtain ⟨arr, e, l1, l2, l3⟩ := hk.lay
    refine ⟨hk.hz, hk.hM, hk.hF, ⟨arr, e, l1, l2, fun i el hi => ?_⟩, hk.pur⟩
    obtain ⟨h3, h4, h5⟩ := l3 i el hi
    refine ⟨h3, h4, fun j cv hj => ?_⟩
    obtain ⟨v, hv, hr⟩ := h5 j cv hj
    refine ⟨v, hv, ?_⟩
    rcases g3 with ⟨g3, g4⟩ | ⟨g3, g4⟩
    · subst g4
      have := hl q k g3 (by rw [g1]; simp) (by rw [g2]; exact h2) el (List.mem_of_getElem? hi) cv (List.mem_of_getElem? hj)
      exact hr.low (Keep.refl w M) (Shape.refl w) (n := n0) (fun b x hb hx => by unfold shiftM; rw [if_pos hb]; exact hx) this
    · have hka : k.arr = true := hB k (by
        rw [List.getElem?_append_right (by omega)] at h2
        exact List.mem_of_getElem? h2)
      exact .p (hr.pure (pure_cells (hk.pur hka el (List.mem_of_getElem? hi)) hj))
  · intro b hb
    unfold shiftM
    rw [if_pos (by omega)]
    exact st.ext b hb
  · intro b c o z hb h1
    rcases inv b _ h1 with ⟨h2, _⟩ | ⟨h2, h3, h4⟩
    · omega
    · exact st.fresh _ c o z (by omega) h4
  · intro b hb ⟨k, h1, h2⟩
    exact st.wrmono b hb ⟨k, by rw [getA b (by omega)]; exact h1, h2⟩
  · intro b hb ⟨k, h1⟩
    exact st.alv b hb ⟨k, by rw [getA b (by omega)]; exact h1⟩
  · intro n hn hl' b k h1 h2 h3
    refine st.low n hn hl' b k h1 ?_ (by rw [getA b (by omega)]; exact h3)
    unfold shiftM at h2
    rw [if_pos (by omega)] at h2
    exact h2

theorem Step.take (st : Step gid n0 w0 M0 μ0 H0 w M μ H) (h0 : H0.length = n0) (hlow : LowH n0 μ0 H0) : ∃ μ', Step gid n0 w0 M0 μ0 H0 w M μ' (H.take n0) := by
  have hl := st.len
  have e : H = H.take n0 ++ H.drop n0 ++ [] := by simp
  have st' : Step gid n0 w0 M0 μ0 H0 w M μ (H.take n0 ++ H.drop n0 ++ []) := by rw [← e]; exact st
  have := Step.drop st' (by simp; omega) h0 hlow (by simp)
  rw [List.append_nil] at this
  exact ⟨_, this⟩

/- Results that may be written on. -/
theorem frzC_append {c c' : V} {H1 acc : Heap} (h : frzC H c = some (c', H1)) : frzC (H ++ acc) c = some (c', H1 ++ acc) ∧ H1.length = H.length := by
  cases c <;> simp only [frzC] at h ⊢ <;> try (injection h with h; injection h with h1 h2; subst h1; subst h2; exact ⟨rfl, rfl⟩)
  case ref b z off len =>
    split at h
    · rename_i k hk
      have hlt : b < H.length := (List.getElem?_eq_some_iff.1 hk).1
      split at h
      · rename_i hc
        injection h with h; injection h with h1 h2
        subst h1; subst h2
        rw [List.getElem?_append_left hlt, hk]
        simp only [if_pos hc]
        refine ⟨?_, by split <;> simp⟩
        split
        · rw [List.set_append_left _ _ hlt]
        · rfl
      · cases h
    · cases h
  all_goals cases h

/-- Cells in the numbering behind the return. -/
def RO (gid : Gid) (w : World) (M : Nat → Prop) (n0 L m : Nat) (μ : Inj) (v : Value) (c : V) : Prop := RC gid w M (shiftM n0 L m μ) v c

theorem shiftM_ext {L m m' : Nat} {μ μ' : Inj} (hm : m ≤ m') (h : ∀ b x, μ b = some x → μ' b = some x) : ∀ b x, shiftM n0 L m μ b = some x → shiftM n0 L m' μ' b = some x := by
  intro b x hb
  unfold shiftM at hb ⊢
  split at hb
  · rename_i h1; rw [if_pos h1]; exact h b x hb
  · rename_i h1
    rw [if_neg h1]
    split at hb
    · rw [if_pos (by omega)]; exact h _ x hb
    · cases hb

theorem ownC_sound {m : Nat} {acc : Heap} (hmn : m ≤ H.length) (hs : Sim gid w M μ (H ++ acc)) {c c' : V} {H1 acc1 : Heap} (h : ownC n0 H acc c = some (c', H1, acc1)) {v : Value} (hr : RC gid w M μ v c) (hacc : ∀ k, some k ∈ acc → k.arr = true) :
    ∃ M' μ', Step gid m w M μ (H ++ acc) w M' μ' (H1 ++ acc1) ∧ RO gid w M' n0 H.length acc1.length μ' v c' ∧ H1.length = H.length ∧ acc.length ≤ acc1.length ∧ (∀ k, some k ∈ acc1 → k.arr = true) := by
  have other : (frzC H c).bind (fun (c', H1) => if c'.cellPure = true then some (c', H1, acc) else none) = some (c', H1, acc1) →
      ∃ M' μ', Step gid m w M μ (H ++ acc) w M' μ' (H1 ++ acc1) ∧ RO gid w M' n0 H.length acc1.length μ' v c' ∧ H1.length = H.length ∧ acc.length ≤ acc1.length ∧ (∀ k, some k ∈ acc1 → k.arr = true) := by
    intro h
    obtain ⟨⟨c1, Ha⟩, h1, h2⟩ := bind_some_inv h
    simp only [] at h2
    split at h2
    · rename_i hp
      injection h2 with h2; injection h2 with h3 h4; injection h4 with h4 h5
      subst h3; subst h4; subst h5
      obtain ⟨g1, g2⟩ := frzC_append (acc := acc) h1
      obtain ⟨M', st, r, _⟩ := frzC_sound (n0 := m) hs g1 hr
      exact ⟨M', μ, st, .p (r.pure hp), g2, Nat.le_refl _, hacc⟩
    · cases h2
  cases c
  case ref b z off len =>
    simp only [ownC] at h
    split at h
    · rename_i k hk
      split at h
      · rename_i hc
        obtain ⟨c1, c2, c3, c4, c5⟩ := hc
        injection h with h; injection h with h3 h4; injection h4 with h4 h5
        subst h3; subst h4; subst h5; subst c4
        have hlt : b < H.length := (List.getElem?_eq_some_iff.1 hk).1
        have hk' : (H ++ acc)[b]? = some (some k) := by rw [List.getElem?_append_left hlt]; exact hk
        obtain ⟨a, cap, cc, base, arr, e, rfl, hcb, hsp, hcap, hμ, hoff, hw, hsz, hcs⟩ := ref_cells hs hk' hr
        have hblk := hs.blk b cc base k.z k hμ hk'
        obtain ⟨arr1, e1, l1, l2, l3⟩ := hblk.lay
        rw [hw] at l1
        injection l1 with l1
        injection l1 with w1 w2 w3
        subst w1; subst w2
        have hlen : ((k.el.drop off).take len).length = len := by simp; omega
        have hrow : (off + len) * k.z ≤ k.el.length * k.z := Nat.mul_le_mul_right _ c5
        rw [Nat.add_mul] at hrow
        have st := Step.regrow (n0 := m) (k' := { k with el := (k.el.drop off).take len }) (base' := base + off * k.z) (by simp; omega) hs hμ hk' c3 rfl c3 arr arr e hw rfl (by simp only [hlen]; omega)
          (fun i el hi => by
            rw [List.getElem?_take] at hi
            split at hi
            · rw [List.getElem?_drop] at hi
              obtain ⟨g1, g2, g3⟩ := l3 _ el hi
              refine ⟨g1, g2, fun j cv hj => ?_⟩
              obtain ⟨x, hx, hrx⟩ := g3 j cv hj
              refine ⟨x, ?_, hrx⟩
              rw [← hx]
              congr 1
              rw [Nat.add_mul]; omega
            · cases hi) (fun ha el hel => hblk.pur ha el (List.mem_of_mem_drop (List.mem_of_mem_take hel)))
        rw [setRow_self w cc arr e (0, 0) hw, List.set_append_left _ _ hlt, List.append_assoc] at st
        refine ⟨_, _, st, ?_, by simp, by simp, fun k' hk' => ?_⟩
        · refine .ref _ _ _ _ cc (base + off * k.z) cap a arr e (0, 0) ?_ hcb hsp hcap (hoff.imp id fun h => by omega) hw hsz
          unfold shiftM
          rw [if_neg (by omega), if_pos (by simp)]
          simp only [List.length_append]
          rw [if_pos (by omega)]
        · rw [List.mem_append] at hk'
          rcases hk' with hk' | hk'
          · exact hacc k' hk'
          · simp at hk'; subst hk'; exact c2
      · cases h
    · cases h
  all_goals exact other h

theorem ownCs_sound {m : Nat} : ∀ (cs : List V) {H acc : Heap} {M : Nat → Prop} {μ : Inj} (_ : m ≤ H.length) (_ : n0 ≤ H.length) (_ : Sim gid w M μ (H ++ acc)) {cs' : List V} {H1 acc1 : Heap} (_ : ownCs n0 H acc cs = some (cs', H1, acc1)) {vs : List Value}
    (_ : vs.length = cs.length) (_ : ∀ (i : Nat) (v : Value) (c : V), vs[i]? = some v → cs[i]? = some c → RC gid w M μ v c) (_ : ∀ k, some k ∈ acc → k.arr = true),
    ∃ M' μ', Step gid m w M μ (H ++ acc) w M' μ' (H1 ++ acc1) ∧ vs.length = cs'.length ∧ (∀ (i : Nat) (v : Value) (c : V), vs[i]? = some v → cs'[i]? = some c → RO gid w M' n0 H.length acc1.length μ' v c) ∧ H1.length = H.length ∧ acc.length ≤ acc1.length ∧ (∀ k, some k ∈ acc1 → k.arr = true)
  | [], H, acc, M, μ, _, _, hs, cs', H1, acc1, h, vs, hl, hr, hacc => by
    simp only [ownCs] at h
    injection h with h; injection h with h1 h2; injection h2 with h2 h3
    subst h1; subst h2; subst h3
    have : vs = [] := List.eq_nil_of_length_eq_zero (by simpa using hl)
    subst this
    exact ⟨M, μ, .refl hs, rfl, by simp, rfl, Nat.le_refl _, hacc⟩
  | c :: cs, H, acc, M, μ, hm, hn, hs, cs', H1, acc1, h, vs, hl, hr, hacc => by
    simp only [ownCs] at h
    obtain ⟨⟨c', Ha, acca⟩, h1, h⟩ := bind_some_inv h
    obtain ⟨⟨cs'', Hb, accb⟩, h2, h3⟩ := bind_some_inv h
    injection h3 with h3; injection h3 with h3 h4; injection h4 with h4 h5
    subst h3; subst h4; subst h5
    cases vs with
    | nil => simp at hl
    | cons v vs =>
      obtain ⟨Ma, μa, sa, ra, la, ha, pa⟩ := ownC_sound (m := m) hm hs h1 (hr 0 v c rfl rfl) hacc
      obtain ⟨Mb, μb, sb, lb, rb, lb', hb, pb⟩ := ownCs_sound cs (m := m) (by omega) (by omega) sa.sim h2 (vs := vs) (by simpa using hl) (fun i x y hx hy => sa.rc hs (hr (i + 1) x y (by simpa using hx) (by simpa using hy))) pa
      refine ⟨Mb, μb, sa.trans sb, by simp [lb], fun i x y hx hy => ?_, lb'.trans la, Nat.le_trans ha hb, pb⟩
      rw [la] at rb
      cases i with
      | zero =>
        simp at hx hy; subst hx; subst hy
        exact RC.mono (sb.keep sa.sim) sb.shape (shiftM_ext hb (sb.mono_map sa.sim)) ra
      | succ i => exact rb i x y (by simpa using hx) (by simpa using hy)

theorem ownV_sound {m : Nat} {acc : Heap} (hmn : m ≤ H.length) (hn : n0 ≤ H.length) (hs : Sim gid w M μ (H ++ acc)) {c c' : V} {H1 acc1 : Heap} (h : ownV n0 H acc c = some (c', H1, acc1)) {v : Value} (hr : R gid w M μ v c) (hacc : ∀ k, some k ∈ acc → k.arr = true) :
    ∃ M' μ', Step gid m w M μ (H ++ acc) w M' μ' (H1 ++ acc1) ∧ R gid w M' (shiftM n0 H.length acc1.length μ') v c' ∧ H1.length = H.length ∧ acc.length ≤ acc1.length ∧ (∀ k, some k ∈ acc1 → k.arr = true) := by
  cases hr with
  | c hr =>
    have h' : ownC n0 H acc c = some (c', H1, acc1) := by
      have := hr.isCell
      cases c <;> first | exact h | cases this
    obtain ⟨M', μ', st, r, l, a, p⟩ := ownC_sound (m := m) hmn hs h' hr hacc
    exact ⟨M', μ', st, .c r, l, a, p⟩
  | agg arr cs hsz hr =>
    simp only [ownV] at h
    obtain ⟨⟨cs', Ha, acca⟩, h1, h2⟩ := bind_some_inv h
    injection h2 with h2; injection h2 with h3 h4; injection h4 with h4 h5
    subst h3; subst h4; subst h5
    obtain ⟨M', μ', st, l, r, l', a, p⟩ := ownCs_sound (m := m) cs hmn hn hs h1 (vs := arr.toList) (by simpa using hsz) (fun i x y hx hy => hr i x y (by simpa using hx) hy) hacc
    exact ⟨M', μ', st, .agg arr cs' (by simpa using l) (fun i x y hx hy => r i x y (by simpa using hx) hy), l', a, p⟩
  | tup arr vs hsz hr => simp [ownV, ownC, frzC] at h

theorem ownVs_sound {m : Nat} : ∀ (cs : List V) {H acc : Heap} {M : Nat → Prop} {μ : Inj} (_ : m ≤ H.length) (_ : n0 ≤ H.length) (_ : Sim gid w M μ (H ++ acc)) {cs' : List V} {H1 acc1 : Heap} (_ : ownVs n0 H acc cs = some (cs', H1, acc1)) {vs : List Value}
    (_ : Rs gid w M μ vs cs) (_ : ∀ k, some k ∈ acc → k.arr = true),
    ∃ M' μ', Step gid m w M μ (H ++ acc) w M' μ' (H1 ++ acc1) ∧ Rs gid w M' (shiftM n0 H.length acc1.length μ') vs cs' ∧ H1.length = H.length ∧ acc.length ≤ acc1.length ∧ (∀ k, some k ∈ acc1 → k.arr = true)
  | [], H, acc, M, μ, _, _, hs, cs', H1, acc1, h, vs, hr, hacc => by
    simp only [ownVs] at h
    injection h with h; injection h with h1 h2; injection h2 with h2 h3
    subst h1; subst h2; subst h3
    have : vs = [] := List.eq_nil_of_length_eq_zero (by simpa using hr.1)
    subst this
    exact ⟨M, μ, .refl hs, ⟨rfl, by simp⟩, rfl, Nat.le_refl _, hacc⟩
  | c :: cs, H, acc, M, μ, hm, hn, hs, cs', H1, acc1, h, vs, hr, hacc => by
    simp only [ownVs] at h
    obtain ⟨⟨c', Ha, acca⟩, h1, h⟩ := bind_some_inv h
    obtain ⟨⟨cs'', Hb, accb⟩, h2, h3⟩ := bind_some_inv h
    injection h3 with h3; injection h3 with h3 h4; injection h4 with h4 h5
    subst h3; subst h4; subst h5
    cases vs with
    | nil => have := hr.1; simp at this
    | cons v vs =>
      obtain ⟨Ma, μa, sa, ra, la, ha, pa⟩ := ownV_sound (m := m) hm hn hs h1 hr.tail.1 hacc
      obtain ⟨Mb, μb, sb, rb, lb', hb, pb⟩ := ownVs_sound cs (m := m) (by omega) (by omega) sa.sim h2 (Rs.step sa hs hr.tail.2) pa
      refine ⟨Mb, μb, sa.trans sb, ?_, lb'.trans la, Nat.le_trans ha hb, pb⟩
      rw [la] at rb
      exact Rs.cons (R.mono (sb.keep sa.sim) sb.shape (shiftM_ext hb (sb.mono_map sa.sim)) ra) rb

theorem fin_sound {own : Bool} {v2 : V} {H2 : Heap} (h0 : H0.length = n0) (hlow : LowH n0 μ0 H0) (st : Step gid n0 w0 M0 μ0 H0 w M μ H) {x : Value} {v : V} (hr : R gid w M μ x v) (h : fin own n0 H v = some (v2, H2)) :
    ∃ M' μ', Step gid n0 w0 M0 μ0 H0 w M' μ' H2 ∧ R gid w M' μ' x v2 := by
  have hl := st.len
  unfold fin at h
  cases own with
  | true =>
    simp only [if_true] at h
    have drop : ∀ {M' : Nat → Prop} {μ' : Inj} {H1 acc : Heap}, Step gid n0 w M μ (H ++ []) w M' μ' (H1 ++ acc) → H1.length = H.length → (∀ k, some k ∈ acc → k.arr = true) →
        Step gid n0 w0 M0 μ0 H0 w M' (shiftM n0 H.length acc.length μ') (H1.take n0 ++ acc) := by
      intro M' μ' H1 acc s1 s2 s3
      rw [List.append_nil] at s1
      have s4 := st.trans s1
      have e : H1 ++ acc = H1.take n0 ++ H1.drop n0 ++ acc := by simp
      rw [e] at s4
      have := Step.drop s4 (by simp; omega) h0 hlow s3
      rw [show n0 + (H1.drop n0).length = H.length by simp; omega] at this
      exact this
    have single : ∀ {v2 : V} {H2 : Heap}, (ownV n0 H [] v).bind (fun (v', H1, acc) => some (v', H1.take n0 ++ acc)) = some (v2, H2) → ∃ M' μ', Step gid n0 w0 M0 μ0 H0 w M' μ' H2 ∧ R gid w M' μ' x v2 := by
      intro v2 H2 h
      obtain ⟨⟨c', H1, acc⟩, h1, h2⟩ := bind_some_inv h
      injection h2 with h2; injection h2 with h3 h4
      subst h3; subst h4
      obtain ⟨M', μ', s1, r, l, a, p⟩ := ownV_sound (m := n0) (acc := []) (by omega) (by omega) (by rw [List.append_nil]; exact st.sim) h1 hr (by simp)
      exact ⟨M', _, drop s1 l p, r⟩
    split at h
    · rename_i vs
      obtain ⟨arr, rfl, hsz, hr'⟩ := hr.inv_tup
      obtain ⟨⟨vs', H1, acc⟩, h1, h2⟩ := bind_some_inv h
      injection h2 with h2; injection h2 with h3 h4
      subst h3; subst h4
      obtain ⟨M', μ', s1, r, l, a, p⟩ := ownVs_sound (m := n0) (acc := []) vs (by omega) (by omega) (by rw [List.append_nil]; exact st.sim) h1 (vs := arr.toList) ⟨by simpa using hsz, fun i x y hx hy => hr' i x y (by simpa using hx) hy⟩ (by simp)
      exact ⟨M', _, drop s1 l p, .tup arr vs' (by simpa using r.1) (fun i x y hx hy => r.2 i x y (by simpa using hx) hy)⟩
    · exact single h
  | false =>
    simp only [Bool.false_eq_true, if_false] at h
    split at h
    · rename_i vs
      obtain ⟨arr, rfl, hsz, hr'⟩ := hr.inv_tup
      obtain ⟨⟨vs', H1⟩, h1, h2⟩ := bind_some_inv h
      injection h2 with h2; injection h2 with h3 h4
      subst h3; subst h4
      obtain ⟨M', s1, r, p, l⟩ := pureIns_sound (n0 := n0) vs st.sim h1 (vs := arr.toList) ⟨by simpa using hsz, fun i x y hx hy => hr' i x y (by simpa using hx) hy⟩
      obtain ⟨μ', s2⟩ := Step.take (st.trans s1) h0 hlow
      exact ⟨M', μ', s2, .tup arr vs' (by simpa using r.1) (fun i x y hx hy => (r.2 i x y (by simpa using hx) hy).pureAny (p y (List.mem_of_getElem? hy)) μ')⟩
    · obtain ⟨⟨v', H1⟩, h1, h2⟩ := bind_some_inv h
      injection h2 with h2; injection h2 with h3 h4
      subst h3; subst h4
      obtain ⟨M', s1, r, p, l⟩ := pureIn_sound (n0 := n0) st.sim h1 hr
      obtain ⟨μ', s2⟩ := Step.take (st.trans s1) h0 hlow
      exact ⟨M', μ', s2, r.pureAny p μ'⟩

end Go.Abs
/- The abstract machine is sound: what it says of a function holds of the model's call. -/
namespace Go.Abs

structure Seat (T : Tab) (S : AProg) : Prop where
  mixed : T.P.follows .mixedOrders = true
  fns : ∀ fid g f, T.gid fid = some g → S.fn g = some f → ∃ fn C, T.P.funcs[fid]? = some fn ∧ fn.name ≠ "runtime.NumGoroutine" ∧ fn.body = some C ∧ comp T fn.ntmps C = some f.body ∧ cRVs T fn.results.toList = some f.results
  prims : ∀ fid g args v H, T.gid fid = some g → S.prim g args = some v → ∃ fn, T.P.funcs[fid]? = some fn ∧ fn.name ≠ "runtime.NumGoroutine" ∧ fn.body.isSome = true ∧
    ∀ (w : World) (M : Nat → Prop) (μ : Inj) (vs : List Value), Sim T.gid w M μ H → Rs T.gid w M μ vs args →
      Calls T.P fid vs.toArray w fun e w' => ∃ v' M' μ', e = .returned v' ∧ Step T.gid H.length w M μ H w' M' μ' H ∧ R T.gid w' M' μ' v' v

def AX.toExit : AX → Exit
  | .normal => .normal
  | .exit id => .exit id
  | .ret => .ret

def CallSem (T : Tab) (g : Nat) (args : List V) (H : Heap) (v : V) (H' : Heap) : Prop :=
  H.length ≤ H'.length ∧ ∀ fid, T.gid fid = some g → ∃ fn, T.P.funcs[fid]? = some fn ∧ fn.name ≠ "runtime.NumGoroutine" ∧ fn.body.isSome = true ∧
    ∀ (w : World) (M : Nat → Prop) (μ : Inj) (vs : List Value), Sim T.gid w M μ H → Rs T.gid w M μ vs args →
      Calls T.P fid vs.toArray w fun e w' => ∃ v' M' μ', e = .returned v' ∧ Step T.gid H.length w M μ H w' M' μ' H' ∧ R T.gid w' M' μ' v' v

/-- What holds of the state that code ends in. -/
def Ends (T : Tab) (n0 nt : Nat) (w : World) (M : Nat → Prop) (μ : Inj) (H : Heap) (x : AX) (E' : Env) (H' : Heap) (Q : Exit → Act → World → Prop) : Prop :=
  ∀ a' w' M' μ', Step T.gid n0 w M μ H w' M' μ' H' → ERel T.gid w' M' μ' a'.tmps E' → a'.defers = [] → nt ≤ a'.tmps.size → Q x.toExit a' w'

def CodeSem (T : Tab) (n0 : Nat) (c : AC) (E : Env) (H : Heap) (x : AX) (E' : Env) (H' : Heap) : Prop :=
  H.length ≤ H'.length ∧
  (∀ (nt : Nat) (C : Code) (a : Act) (w : World) (M : Nat → Prop) (μ : Inj) (Q : Exit → Act → World → Prop), comp T nt C = some c → n0 ≤ H.length → nt ≤ a.tmps.size → Sim T.gid w M μ H → ERel T.gid w M μ a.tmps E → a.defers = [] →
    Ends T n0 nt w M μ H x E' H' Q → C.wp T.P Q a w) ∧
  (∀ c', c = .loop c' → ∃ n, ∀ (nt : Nat) (C : Code) (a : Act) (w : World) (M : Nat → Prop) (μ : Inj) (Q : Exit → Act → World → Prop), comp T nt C = some c' → n0 ≤ H.length → nt ≤ a.tmps.size → Sim T.gid w M μ H → ERel T.gid w M μ a.tmps E → a.defers = [] →
    Ends T n0 nt w M μ H x E' H' Q → Code.rounds T.P C Q n a w)

def OpsSem (T : Tab) (n0 : Nat) (d : Bool) (l : List AOper) (E : Env) (H : Heap) (x : AX) (E' : Env) (H' : Heap) : Prop :=
  x = .normal ∧ H.length ≤ H'.length ∧ ∀ (ops : Array Oper) (os : List Oper), os.length = l.length → (∀ (i : Nat) (o : Oper) (ao : AOper), os[i]? = some o → l[i]? = some ao → Link T ops o ao) → Tr T n0 d ops os l E H E' H'

def Motive (T : Tab) : Task → Res → Prop
  | .call g args H, .ret v H' => CallSem T g args H v H'
  | .code n0 c E H, .cd x E' H' => CodeSem T n0 c E H x E' H'
  | .ops n0 d l E H, .cd x E' H' => OpsSem T n0 d l E H x E' H'
  | _, _ => True

variable {T : Tab} {S : AProg}

/- What a piece of abstract code came from. -/
theorem cRegion_inv {nt : Nat} {ops : Array Oper} {draw : Bool} {c : AC} (h : cRegion T nt ops draw = some c) :
    ∃ l, cOpers T ops ops.toList = some l ∧ dstsOk nt l = true ∧ ((draw = false ∧ c = .region false l) ∨
      (draw = true ∧ c = .region true (finalOps (befores ops.toList []) l) ∧
        ((List.range ops.size).all fun i => match ops[i]? with | some o => edgesDown i o | none => false) = true ∧ drawOk (befores ops.toList []) (finalOps (befores ops.toList []) l) = true)) := by
  unfold cRegion at h
  obtain ⟨l, h1, h⟩ := bind_some_inv h
  split at h
  · rename_i hd
    split at h
    · rename_i hdr
      simp only [] at h
      split at h
      · rename_i hc
        simp only [Bool.and_eq_true] at hc
        injection h with h
        exact ⟨l, h1, hd, .inr ⟨hdr, h.symm, hc.1, hc.2⟩⟩
      · cases h
    · rename_i hdr
      injection h with h
      exact ⟨l, h1, hd, .inl ⟨by simpa using hdr, h.symm⟩⟩
  · cases h

theorem region_ne {nt : Nat} {ops : Array Oper} {draw : Bool} {c : AC} (h : cRegion T nt ops draw = some c) : ∃ d l, c = .region d l := by
  obtain ⟨l, _, _, h | h⟩ := cRegion_inv h
  · exact ⟨_, _, h.2⟩
  · exact ⟨_, _, h.2.1⟩

theorem comp_inv {nt : Nat} {C : Code} {c : AC} (h : comp T nt C = some c) :
    match c with
    | .skip => C = .skip
    | .region d l => ∃ id ops, C = .region id ops d ∧ cRegion T nt ops d = some (.region d l)
    | .seq a b => ∃ A B, C = .seq A B ∧ comp T nt A = some a ∧ comp T nt B = some b
    | .cond x a b => ∃ X A B, C = .cond X A B ∧ cX T X = some x ∧ comp T nt A = some a ∧ comp T nt B = some b
    | .block id a => ∃ A, C = .block id A ∧ comp T nt A = some a
    | .loop a => ∃ A, C = .loop A ∧ comp T nt A = some a
    | .exit id => C = .exit id
    | .ret => C = .ret
    | .stop => True := by
  cases C <;> simp only [comp] at h
  case skip => injection h with h; subst h; rfl
  case region id ops draw =>
    cases hr : cRegion T nt ops draw with
    | none => rw [hr] at h; injection h with h; subst h; trivial
    | some c' =>
      rw [hr] at h
      injection h with h
      subst h
      obtain ⟨l, h1, h2, h3 | h3⟩ := cRegion_inv hr
      · obtain ⟨h3, h4⟩ := h3
        subst h3; subst h4
        exact ⟨id, ops, rfl, hr⟩
      · obtain ⟨h3, h4, _⟩ := h3
        subst h3; subst h4
        exact ⟨id, ops, rfl, hr⟩
  case seq A B =>
    obtain ⟨a, h1, h⟩ := bind_some_inv h
    obtain ⟨b, h2, rfl⟩ := map_some_inv h
    exact ⟨A, B, rfl, h1, h2⟩
  case cond x A B =>
    obtain ⟨c, h0, h⟩ := bind_some_inv h
    obtain ⟨a, h1, h⟩ := bind_some_inv h
    obtain ⟨b, h2, rfl⟩ := map_some_inv h
    exact ⟨x, A, B, rfl, h0, h1, h2⟩
  case block id A =>
    obtain ⟨a, h1, rfl⟩ := map_some_inv h
    exact ⟨A, rfl, h1⟩
  case loop A =>
    obtain ⟨a, h1, rfl⟩ := map_some_inv h
    exact ⟨A, rfl, h1⟩
  case exit id => injection h with h; subst h; rfl
  case ret => injection h with h; subst h; rfl
  all_goals (injection h with h; subst h; trivial)

theorem cOpers_get : ∀ (os : List Oper) {ops : Array Oper} {l : List AOper} (_ : cOpers T ops os = some l), os.length = l.length ∧ ∀ (i : Nat) (o : Oper) (ao : AOper), os[i]? = some o → l[i]? = some ao → cOper T ops o = some ao
  | [], ops, l, h => by simp only [cOpers] at h; injection h with h; subst h; exact ⟨rfl, by simp⟩
  | o :: os, ops, l, h => by
    simp only [cOpers, Option.bind_eq_some_iff] at h
    obtain ⟨ao, h1, q, h2, h3⟩ := h
    injection h3 with h3
    subst h3
    obtain ⟨g1, g2⟩ := cOpers_get os h2
    refine ⟨by simp [g1], fun i x y hx hy => ?_⟩
    cases i with
    | zero => simp at hx hy; subst hx; subst hy; exact h1
    | succ i => exact g2 i x y (by simpa using hx) (by simpa using hy)

theorem cX_on {w : World} {M : Nat → Prop} {μ : Inj} (tb : Tabs T.gid w M) {x : Operand} {c : X} (h : cX T x = some c) {a : Act} {E : Env} (hE : ERelOn T.gid w M μ c.reads a.tmps E) : R T.gid w M μ (a.eval x) (getX E c) := by
  cases x with
  | tmp t => simp only [cX] at h; injection h with h; subst h; exact hE t (by simp [X.reads])
  | const v =>
    simp only [cX, Option.map_eq_some_iff] at h
    obtain ⟨c', h1, rfl⟩ := h
    exact (cV_sound h1).1
  | func f =>
    simp only [cX, Option.map_eq_some_iff] at h
    obtain ⟨g, h1, rfl⟩ := h
    exact .c (.p (.fn f g h1))
  | global g =>
    simp only [cX, Option.map_eq_some_iff] at h
    obtain ⟨cs, h1, rfl⟩ := h
    exact .c (.p (tb g cs h1))

theorem cXs_on {w : World} {M : Nat → Prop} {μ : Inj} (tb : Tabs T.gid w M) : ∀ (xs : List Operand) {cs : List X} (_ : cXs T xs = some cs) {a : Act} {E : Env} (_ : ERelOn T.gid w M μ (cs.flatMap X.reads) a.tmps E), Rs T.gid w M μ (xs.map a.eval) (cs.map (getX E))
  | [], cs, h, a, E, hE => by simp only [cXs] at h; injection h with h; subst h; exact ⟨rfl, by simp⟩
  | x :: xs, cs, h, a, E, hE => by
    simp only [cXs, Option.bind_eq_some_iff] at h
    obtain ⟨c, h1, cs', h2, h3⟩ := h
    injection h3 with h3
    subst h3
    exact Rs.cons (cX_on tb h1 fun t ht => hE t (by rw [List.flatMap_cons]; exact List.mem_append_left _ ht)) (cXs_on tb xs h2 fun t ht => hE t (by rw [List.flatMap_cons]; exact List.mem_append_right _ ht))

theorem R.inv_fn {w : World} {M : Nat → Prop} {μ : Inj} {gid : Gid} {v : Value} {g : Nat} {caps : List V} (h : R gid w M μ v (.fn g caps)) :
    ∃ fid cs, v = .func (.func fid) #[] cs ∧ gid fid = some g ∧ Rs gid w M μ cs.toList caps := by
  cases h with
  | c h =>
    cases h with
    | p h => cases h with | fn f g hg => exact ⟨f, #[], rfl, hg, rfl, by simp⟩
    | fn f g cs caps hg hsz hr => exact ⟨f, cs, rfl, hg, by simpa using hsz, fun i x y hx hy => .c (hr i x y (by simpa using hx) hy)⟩

theorem Rs.append {w : World} {M : Nat → Prop} {μ : Inj} {gid : Gid} {vs ws : List Value} {cs ds : List V} (h : Rs gid w M μ vs cs) (k : Rs gid w M μ ws ds) : Rs gid w M μ (vs ++ ws) (cs ++ ds) := by
  refine ⟨by simp [h.1, k.1], fun i x y hx hy => ?_⟩
  by_cases hi : i < vs.length
  · rw [List.getElem?_append_left hi] at hx
    rw [List.getElem?_append_left (by rw [← h.1]; exact hi)] at hy
    exact h.2 i x y hx hy
  · rw [List.getElem?_append_right (by omega)] at hx
    rw [List.getElem?_append_right (by rw [← h.1]; omega), ← h.1] at hy
    exact k.2 _ x y hx hy

theorem cOp_call {cop : Op} {x : X} {q : List X} (h : cOp T cop = some (.call x q)) : ∃ f args argTypes, cop = .call ⟨.value f, args, argTypes⟩ ∧ cX T f = some x ∧ cXs T args.toList = some q := by
  cases cop
  case call c =>
    obtain ⟨callee, args, argTypes⟩ := c
    cases callee
    case value f =>
      simp only [cOp] at h
      obtain ⟨f', h1, h⟩ := bind_some_inv h
      obtain ⟨q', h2, h3⟩ := map_some_inv h
      injection h3 with h3 h4
      subst h3; subst h4
      exact ⟨f, args, argTypes, rfl, h1, h2⟩
    case invoke r m => cases h
    case builtin bi =>
      exfalso
      cases bi <;> simp only [cOp] at h <;> try (cases h; done)
      case len =>
        split at h
        · split at h
          · obtain ⟨_, _, h⟩ := map_some_inv h; cases h
          · obtain ⟨_, _, h⟩ := map_some_inv h; cases h
          · cases h
        · cases h
      case cap =>
        split at h
        · split at h
          · obtain ⟨_, _, h⟩ := map_some_inv h; cases h
          · cases h
        · cases h
      case append =>
        split at h
        · split at h
          · obtain ⟨e, h1, h⟩ := bind_some_inv h
            obtain ⟨z, h3, h⟩ := bind_some_inv h
            obtain ⟨i, h4, h⟩ := bind_some_inv h
            obtain ⟨zv, h5, h⟩ := bind_some_inv h
            obtain ⟨x', h6, h⟩ := bind_some_inv h
            obtain ⟨y', h7, h⟩ := bind_some_inv h
            split at h <;> cases h
          obtain ⟨e, h1, h⟩ := bind_some_inv h
          obtain ⟨e', h2, h⟩ := bind_some_inv h
          obtain ⟨z, h3, h⟩ := bind_some_inv h
          obtain ⟨i, h4, h⟩ := bind_some_inv h
          obtain ⟨zv, h5, h⟩ := bind_some_inv h
          obtain ⟨x', h6, h⟩ := bind_some_inv h
          obtain ⟨y', h7, h⟩ := bind_some_inv h
          split at h <;> cases h
        · cases h
      case min =>
        split at h
        · obtain ⟨_, _, h⟩ := bind_some_inv h
          obtain ⟨_, _, h⟩ := map_some_inv h; cases h
        · cases h
      case max =>
        split at h
        · obtain ⟨_, _, h⟩ := bind_some_inv h
          obtain ⟨_, _, h⟩ := map_some_inv h; cases h
        · obtain ⟨_, _, h⟩ := bind_some_inv h
          obtain ⟨_, _, h⟩ := bind_some_inv h
          obtain ⟨_, _, h⟩ := map_some_inv h; cases h
        · cases h
  case move y => obtain ⟨_, _, h⟩ := map_some_inv h; cases h
  case assign y => obtain ⟨_, _, h⟩ := map_some_inv h; cases h
  case pick c y z => obtain ⟨_, _, h⟩ := bind_some_inv h; obtain ⟨_, _, h⟩ := bind_some_inv h; obtain ⟨_, _, h⟩ := map_some_inv h; cases h
  case alloc t =>
    obtain ⟨_, _, h⟩ := bind_some_inv h
    obtain ⟨_, _, h⟩ := bind_some_inv h
    split at h <;> cases h
  case box t y => obtain ⟨_, _, h⟩ := bind_some_inv h; obtain ⟨_, _, h⟩ := map_some_inv h; cases h
  case build t ps =>
    simp only [cOp] at h
    split at h
    · split at h
      · obtain ⟨_, _, h⟩ := bind_some_inv h; obtain ⟨_, _, h⟩ := map_some_inv h; cases h
      · cases h
    · obtain ⟨_, _, h⟩ := bind_some_inv h; obtain ⟨_, _, h⟩ := bind_some_inv h; obtain ⟨_, _, h⟩ := map_some_inv h; cases h
    · cases h
  case buildSlice t len ps =>
    obtain ⟨_, _, h⟩ := bind_some_inv h
    obtain ⟨_, _, h⟩ := bind_some_inv h
    obtain ⟨_, _, h⟩ := bind_some_inv h
    obtain ⟨_, _, h⟩ := bind_some_inv h
    split at h <;> cases h
  case load t y => obtain ⟨_, _, h⟩ := bind_some_inv h; obtain ⟨_, _, h⟩ := bind_some_inv h; obtain ⟨_, _, h⟩ := map_some_inv h; cases h
  case store t y z => obtain ⟨_, _, h⟩ := bind_some_inv h; obtain ⟨_, _, h⟩ := bind_some_inv h; obtain ⟨_, _, h⟩ := map_some_inv h; cases h
  case binOp bop t y z u => obtain ⟨_, _, h⟩ := bind_some_inv h; obtain ⟨_, _, h⟩ := bind_some_inv h; obtain ⟨_, _, h⟩ := map_some_inv h; cases h
  case unOp uop t y => obtain ⟨_, _, h⟩ := map_some_inv h; cases h
  case convert src dst y =>
    simp only [cOp] at h
    split at h
    · obtain ⟨_, _, h⟩ := map_some_inv h; cases h
    · cases h
  case makeFunc fn first caps =>
    cases fn <;> simp only [cOp] at h <;> try (cases h; done)
    split at h
    · obtain ⟨_, _, h⟩ := bind_some_inv h; obtain ⟨_, _, h⟩ := map_some_inv h; cases h
    · cases h
  case makeSlice t y z =>
    obtain ⟨_, _, h⟩ := bind_some_inv h
    obtain ⟨_, _, h⟩ := bind_some_inv h
    obtain ⟨_, _, h⟩ := bind_some_inv h
    obtain ⟨_, _, h⟩ := bind_some_inv h
    obtain ⟨_, _, h⟩ := bind_some_inv h
    obtain ⟨_, _, h⟩ := bind_some_inv h
    split at h <;> cases h
  case slice t y lo hi mx =>
    obtain ⟨_, _, h⟩ := bind_some_inv h
    obtain ⟨_, _, h⟩ := bind_some_inv h
    obtain ⟨_, _, h⟩ := bind_some_inv h
    obtain ⟨_, _, h⟩ := bind_some_inv h
    obtain ⟨_, _, h⟩ := bind_some_inv h
    obtain ⟨_, _, h⟩ := bind_some_inv h
    split at h <;> cases h
  case fieldAddr s y f =>
    simp only [cOp] at h
    split at h
    · obtain ⟨_, _, h⟩ := bind_some_inv h
      obtain ⟨_, _, h⟩ := bind_some_inv h
      obtain ⟨_, _, h⟩ := bind_some_inv h
      split at h <;> cases h
    · cases h
  case field t y f =>
    simp only [cOp] at h
    split at h
    · obtain ⟨_, _, h⟩ := bind_some_inv h
      obtain ⟨_, _, h⟩ := bind_some_inv h
      obtain ⟨_, _, h⟩ := bind_some_inv h
      obtain ⟨_, _, h⟩ := map_some_inv h; cases h
    · cases h
  case indexAddr t y i =>
    simp only [cOp] at h
    split at h
    · obtain ⟨_, _, h⟩ := bind_some_inv h; obtain ⟨_, _, h⟩ := bind_some_inv h; obtain ⟨_, _, h⟩ := map_some_inv h; cases h
    · obtain ⟨_, _, h⟩ := bind_some_inv h; obtain ⟨_, _, h⟩ := bind_some_inv h; obtain ⟨_, _, h⟩ := map_some_inv h; cases h
    · cases h
  case index t y i =>
    simp only [cOp] at h
    split at h
    · obtain ⟨_, _, h⟩ := bind_some_inv h; obtain ⟨_, _, h⟩ := bind_some_inv h; obtain ⟨_, _, h⟩ := bind_some_inv h; obtain ⟨_, _, h⟩ := map_some_inv h; cases h
    · obtain ⟨_, _, h⟩ := bind_some_inv h; obtain ⟨_, _, h⟩ := map_some_inv h; cases h
    · cases h
  case extract y i => obtain ⟨_, _, h⟩ := map_some_inv h; cases h
  all_goals (cases h)

/-- A call, as one operation. -/
theorem opSem_call {n0 : Nat} {o : Oper} {x : X} {q : List X} (hop : cOp T o.op = some (.call x q)) {E : Env} {H H1 H2 : Heap} {g : Nat} {caps vs : List V} {v : V} (hx : getX E x = .fn g caps) (hp : prep S g H (q.map (getX E) ++ caps) = some (vs, H1))
    (hc : CallSem T g vs H1 v H2) : OpSem T n0 o (AOp.call x q).reads E H v H2 := by
  intro a w M μ K Q hn hs hE hK
  obtain ⟨dst, cop, ty, pos, after, guard⟩ := o
  simp only at hop
  obtain ⟨f, args, argTypes, hcop, h1, h2⟩ := cOp_call hop
  subst hcop
  simp only [AOp.reads] at hE
  have hf := cX_on hs.tab h1 (a := a) (E := E) fun t ht => hE t (List.mem_append_left _ ht)
  have ha := cXs_on hs.tab args.toList h2 (a := a) (E := E) fun t ht => hE t (List.mem_append_right _ ht)
  rw [hx] at hf
  obtain ⟨fid, cs, hfv, hg, hcs⟩ := hf.inv_fn
  obtain ⟨hlen, hc⟩ := hc
  obtain ⟨fn, h5, h6, h7, h8⟩ := hc fid hg
  have hall := Rs.append ha hcs
  have hprep : ∃ M1, Step T.gid n0 w M μ H w M1 μ H1 ∧ Rs T.gid w M1 μ (args.toList.map a.eval ++ cs.toList) vs ∧ H1.length = H.length := by
    unfold prep at hp
    split at hp
    · split at hp
      · injection hp with hp; injection hp with hp1 hp2
        subst hp1; subst hp2
        exact ⟨M, .refl hs, hall, rfl⟩
      · exact frzVs_sound _ hs hp hall
    · exact frzVs_sound _ hs hp hall
  obtain ⟨M1, st1, hrs, hl1⟩ := hprep
  have hcall := h8 w M1 μ _ st1.sim hrs
  have hb : fn.body.isNone = false := by cases hq : fn.body <;> simp [hq] at h7 ⊢
  have hrun : (execOp a.eval ⟨dst, .call ⟨.value f, args, argTypes⟩, ty, pos, after, guard⟩).run T.P w = .ok (.enter fid (args.map a.eval ++ cs)) w := by
    simp only [execOp, resolve, hfv, Deferred.ofValue, pure_bind, invoke, callFunc, Sem.run_bind, run_program, Result.andThen_ok, h5, Array.empty_append]
    have e1 : (fn.name == "runtime.NumGoroutine") = false := by simpa using h6
    simp [e1, hb]
  unfold Oper.wp
  rw [hrun]
  simp only [Oper.upon]
  have harr : (args.toList.map a.eval ++ cs.toList).toArray = args.map a.eval ++ cs := by
    apply Array.ext'
    simp
  rw [harr] at hcall
  refine hcall.mono fun e w' he => ?_
  obtain ⟨v', M', μ', rfl, st2, hr⟩ := he
  exact hK v' w' M' μ' (st1.trans ⟨st2.sim, st2.ext, st2.len, st2.size, st2.frame, st2.shape, st2.sub, st2.keepM, st2.fresh, st2.wrmono, st2.alv, fun n hn' => st2.low n (by omega), st2.os, st2.tape, st2.output⟩) hr

end Go.Abs
/- The induction over what abstract code does. -/
namespace Go.Abs

variable {T : Tab} {S : AProg}

/-- The results of a function, read where they lie. -/
theorem resV1_sound {w : World} {M : Nat → Prop} {μ : Inj} {H : Heap} (hs : Sim T.gid w M μ H) {tmps : Array Value} {E : Env} (hE : ERel T.gid w M μ tmps E) {r : ResultVar} {c : RV} (hc : cRV T r = some c) {v : V} (h : resV1 E H c = some v) :
    ∃ v', (match r with | .tmp t => pure (tmps.getD t Go.undef) | .cell a t => do loadVar t (← asAddr (tmps.getD a Go.undef)) : Sem Value).run T.P w = .ok v' w ∧ R T.gid w M μ v' v := by
  cases r with
  | tmp t =>
    simp only [cRV] at hc
    injection hc with hc; subst hc
    simp only [resV1] at h
    injection h with h; subst h
    exact ⟨_, rfl, hE t⟩
  | cell a t =>
    simp only [cRV] at hc
    obtain ⟨ag, h1, hc⟩ := bind_some_inv hc
    obtain ⟨z, h2, rfl⟩ := map_some_inv hc
    simp only [resV1] at h
    obtain ⟨⟨v1, Ha⟩, h3, h4⟩ := map_some_inv h
    simp only at h4
    subst h4
    have hx := hE a
    simp only [stp, getX] at h3
    split at h3
    · rename_i cs hg
      rw [hg] at hx
      obtain ⟨v1, h4, h5⟩ := map_some_inv h3
      injection h5 with h5 h6; subst h5; subst h6
      obtain ⟨ad, he, hp⟩ := hx.inv_eptr
      obtain ⟨v', h7, h8⟩ := run_loadVar h1 h2 (cells_eptr (μ := μ) hp) h4
      exact ⟨v', by simp only [he, asAddr, pure_bind]; exact h7, h8⟩
    · rename_i b i off hg
      rw [hg] at hx
      split at h3
      · rename_i k hk
        split at h3
        · rename_i e he
          obtain ⟨v1, h4, h5⟩ := map_some_inv h3
          injection h5 with h5 h6; subst h5; subst h6
          obtain ⟨c, base, zb, hμ, hv⟩ := hx.inv_ptr
          obtain ⟨v', h7, h8⟩ := run_loadVar h1 h2 (cells_ptr hs hμ hk he) h4
          exact ⟨v', by simp only [hv, asAddr, pure_bind]; exact h7, h8⟩
        · cases h3
      · cases h3
    · cases h3

theorem resVs_sound {w : World} {M : Nat → Prop} {μ : Inj} {H : Heap} (hs : Sim T.gid w M μ H) {tmps : Array Value} {E : Env} (hE : ERel T.gid w M μ tmps E) : ∀ (rs : List ResultVar) {cs : List RV} (_ : cRVs T rs = some cs) {vs : List V} (_ : resVs E H cs = some vs),
    ∃ vs', (rs.mapM fun r => (match r with | .tmp t => pure (tmps.getD t Go.undef) | .cell a t => do loadVar t (← asAddr (tmps.getD a Go.undef)) : Sem Value)).run T.P w = .ok vs' w ∧ Rs T.gid w M μ vs' vs
  | [], cs, hc, vs, h => by
    simp only [cRVs] at hc
    injection hc with hc; subst hc
    simp only [resVs] at h
    injection h with h; subst h
    exact ⟨[], rfl, rfl, by simp⟩
  | r :: rs, cs, hc, vs, h => by
    simp only [cRVs] at hc
    obtain ⟨c, h1, hc⟩ := bind_some_inv hc
    obtain ⟨cs', h2, h3⟩ := bind_some_inv hc
    injection h3 with h3; subst h3
    simp only [resVs] at h
    obtain ⟨v, h4, h⟩ := bind_some_inv h
    obtain ⟨vs', h5, h6⟩ := bind_some_inv h
    injection h6 with h6; subst h6
    obtain ⟨x, g1, g2⟩ := resV1_sound hs hE h1 h4
    obtain ⟨xs, g3, g4⟩ := resVs_sound hs hE rs h2 h5
    refine ⟨x :: xs, ?_, Rs.cons g2 g4⟩
    rw [List.mapM_cons]
    simp only [Sem.run_bind, g1, Result.andThen_ok, g3, Sem.run_pure]

theorem resV_sound {w : World} {M : Nat → Prop} {μ : Inj} {H : Heap} (hs : Sim T.gid w M μ H) {fn : Func} {tmps : Array Value} {E : Env} (hE : ERel T.gid w M μ tmps E) {cs : List RV} (hc : cRVs T fn.results.toList = some cs) {v : V} (h : resV E H cs = some v) :
    ∃ v', (results fn tmps).run T.P w = .ok v' w ∧ R T.gid w M μ v' v := by
  unfold resV at h
  obtain ⟨vs, h1, h2⟩ := map_some_inv h
  obtain ⟨xs, g1, g2⟩ := resVs_sound hs hE _ hc h1
  have hrun : (fn.results.mapM fun r => (match r with | .tmp t => pure (tmps.getD t Go.undef) | .cell a t => do loadVar t (← asAddr (tmps.getD a Go.undef)) : Sem Value)).run T.P w = .ok xs.toArray w := by
    rw [Array.mapM_eq_mapM_toList]
    simp only [Sem.run_map, g1, Result.andThen_ok]
  refine ⟨if h : xs.toArray.size = 1 then xs.toArray[0] else .tuple xs.toArray, ?_, ?_⟩
  · unfold results
    rw [Sem.run_bind]
    erw [hrun]
    rfl
  · have hl := g2.1
    match vs, xs, h2, hl, g2 with
    | [v0], [x0], h2, _, g2 =>
      simp only at h2
      subst h2
      simp only [List.size_toArray, List.length_singleton, dite_true, List.getElem_toArray, List.getElem_cons_zero]
      exact g2.2 0 x0 v0 rfl rfl
    | [], [], h2, _, g2 =>
      simp only at h2
      subst h2
      exact .tup #[] [] rfl (by simp)
    | v0 :: v1 :: vs, x0 :: x1 :: xs, h2, _, g2 =>
      simp only at h2
      subst h2
      rw [dif_neg (by simp)]
      exact .tup _ _ (by simpa using g2.1) (fun i x y hx hy => g2.2 i x y (by simpa using hx) hy)

theorem ends_trans {n0 nt : Nat} {w w1 : World} {M M1 : Nat → Prop} {μ μ1 : Inj} {H H1 : Heap} {x : AX} {E' : Env} {H' : Heap} {Q : Exit → Act → World → Prop} (h : Ends T n0 nt w M μ H x E' H' Q) (st : Step T.gid n0 w M μ H w1 M1 μ1 H1) : Ends T n0 nt w1 M1 μ1 H1 x E' H' Q :=
  fun a' w' M' μ' s2 hE hd hn => h a' w' M' μ' (st.trans s2) hE hd hn

theorem codeSem_of {n0 : Nat} {c : AC} {E : Env} {H : Heap} {x : AX} {E' : Env} {H' : Heap} (hl : H.length ≤ H'.length) (hc : ∀ c', c ≠ .loop c')
    (h : ∀ (nt : Nat) (C : Code) (a : Act) (w : World) (M : Nat → Prop) (μ : Inj) (Q : Exit → Act → World → Prop), comp T nt C = some c → n0 ≤ H.length → nt ≤ a.tmps.size → Sim T.gid w M μ H → ERel T.gid w M μ a.tmps E → a.defers = [] →
      Ends T n0 nt w M μ H x E' H' Q → C.wp T.P Q a w) : CodeSem T n0 c E H x E' H' := ⟨hl, h, fun c' e => absurd e (hc c')⟩

theorem frzC_len {H : Heap} {c c' : V} {H1 : Heap} (h : frzC H c = some (c', H1)) : H1.length = H.length := (frzC_append (acc := []) h).2
theorem frzCs_len : ∀ (cs : List V) {H : Heap} {cs' : List V} {H1 : Heap}, frzCs H cs = some (cs', H1) → H1.length = H.length
  | [], H, cs', H1, h => by simp only [frzCs] at h; injection h with h; injection h with _ h; rw [h]
  | c :: cs, H, cs', H1, h => by
    simp only [frzCs] at h
    obtain ⟨⟨c', Ha⟩, h1, h⟩ := bind_some_inv h
    obtain ⟨⟨cs'', Hb⟩, h2, h3⟩ := bind_some_inv h
    injection h3 with h3; injection h3 with _ h4
    rw [← h4, frzCs_len cs h2, frzC_len h1]
theorem frzV_len {H : Heap} {c c' : V} {H1 : Heap} (h : frzV H c = some (c', H1)) : H1.length = H.length := by
  cases c <;> simp only [frzV] at h <;> first
    | exact frzC_len h
    | (obtain ⟨⟨cs', Ha⟩, h1, h2⟩ := bind_some_inv h
       injection h2 with h2; injection h2 with _ h3
       rw [← h3]; exact frzCs_len _ h1)
theorem frzVs_len : ∀ (cs : List V) {H : Heap} {cs' : List V} {H1 : Heap}, frzVs H cs = some (cs', H1) → H1.length = H.length
  | [], H, cs', H1, h => by simp only [frzVs] at h; injection h with h; injection h with _ h; rw [h]
  | c :: cs, H, cs', H1, h => by
    simp only [frzVs] at h
    obtain ⟨⟨c', Ha⟩, h1, h⟩ := bind_some_inv h
    obtain ⟨⟨cs'', Hb⟩, h2, h3⟩ := bind_some_inv h
    injection h3 with h3; injection h3 with _ h4
    rw [← h4, frzVs_len cs h2, frzV_len h1]
theorem pureIn_len {H : Heap} {c c' : V} {H1 : Heap} (h : pureIn H c = some (c', H1)) : H1.length = H.length := by
  simp only [pureIn] at h
  obtain ⟨⟨c1, Ha⟩, h1, h2⟩ := bind_some_inv h
  simp only [] at h2
  split at h2
  · injection h2 with h2; injection h2 with _ h3; rw [← h3]; exact frzV_len h1
  · cases h2
theorem pureIns_len : ∀ (cs : List V) {H : Heap} {cs' : List V} {H1 : Heap}, pureIns H cs = some (cs', H1) → H1.length = H.length
  | [], H, cs', H1, h => by simp only [pureIns] at h; injection h with h; injection h with _ h; rw [h]
  | c :: cs, H, cs', H1, h => by
    simp only [pureIns] at h
    obtain ⟨⟨c', Ha⟩, h1, h⟩ := bind_some_inv h
    obtain ⟨⟨cs'', Hb⟩, h2, h3⟩ := bind_some_inv h
    injection h3 with h3; injection h3 with _ h4
    rw [← h4, pureIns_len cs h2, pureIn_len h1]
theorem ownC_len {n0 : Nat} {H acc : Heap} {c c' : V} {H1 acc1 : Heap} (h : ownC n0 H acc c = some (c', H1, acc1)) : H1.length = H.length := by
  have other : (frzC H c).bind (fun (c', H1) => if c'.cellPure = true then some (c', H1, acc) else none) = some (c', H1, acc1) → H1.length = H.length := by
    intro h
    obtain ⟨⟨c1, Ha⟩, h1, h2⟩ := bind_some_inv h
    simp only [] at h2
    split at h2
    · injection h2 with h2; injection h2 with _ h3; injection h3 with h3 _; rw [← h3]; exact frzC_len h1
    · cases h2
  cases c
  case ref b z off len =>
    simp only [ownC] at h
    split at h
    · split at h
      · injection h with h; injection h with _ h3; injection h3 with h3 _; rw [← h3]; simp
      · cases h
    · cases h
  all_goals exact other h
theorem ownCs_len {n0 : Nat} : ∀ (cs : List V) {H acc : Heap} {cs' : List V} {H1 acc1 : Heap}, ownCs n0 H acc cs = some (cs', H1, acc1) → H1.length = H.length
  | [], H, acc, cs', H1, acc1, h => by simp only [ownCs] at h; injection h with h; injection h with _ h; injection h with h _; rw [h]
  | c :: cs, H, acc, cs', H1, acc1, h => by
    simp only [ownCs] at h
    obtain ⟨⟨c', Ha, aa⟩, h1, h⟩ := bind_some_inv h
    obtain ⟨⟨cs'', Hb, ab⟩, h2, h3⟩ := bind_some_inv h
    injection h3 with h3; injection h3 with _ h4; injection h4 with h4 _
    rw [← h4, ownCs_len cs h2, ownC_len h1]
theorem ownV_len {n0 : Nat} {H acc : Heap} {c c' : V} {H1 acc1 : Heap} (h : ownV n0 H acc c = some (c', H1, acc1)) : H1.length = H.length := by
  cases c <;> simp only [ownV] at h <;> first
    | exact ownC_len h
    | (obtain ⟨⟨cs', Ha, aa⟩, h1, h2⟩ := bind_some_inv h
       injection h2 with h2; injection h2 with _ h3; injection h3 with h3 _
       rw [← h3]; exact ownCs_len _ h1)
theorem ownVs_len {n0 : Nat} : ∀ (cs : List V) {H acc : Heap} {cs' : List V} {H1 acc1 : Heap}, ownVs n0 H acc cs = some (cs', H1, acc1) → H1.length = H.length
  | [], H, acc, cs', H1, acc1, h => by simp only [ownVs] at h; injection h with h; injection h with _ h; injection h with h _; rw [h]
  | c :: cs, H, acc, cs', H1, acc1, h => by
    simp only [ownVs] at h
    obtain ⟨⟨c', Ha, aa⟩, h1, h⟩ := bind_some_inv h
    obtain ⟨⟨cs'', Hb, ab⟩, h2, h3⟩ := bind_some_inv h
    injection h3 with h3; injection h3 with _ h4; injection h4 with h4 _
    rw [← h4, ownVs_len cs h2, ownV_len h1]
theorem fin_len {own : Bool} {n0 : Nat} {H : Heap} {v v2 : V} {H2 : Heap} (hl : n0 ≤ H.length) (h : fin own n0 H v = some (v2, H2)) : n0 ≤ H2.length := by
  unfold fin at h
  cases own with
  | true =>
    simp only [if_true] at h
    split at h
    · obtain ⟨⟨vs', H1, acc⟩, h1, h2⟩ := bind_some_inv h
      injection h2 with h2; injection h2 with _ h3
      have := ownVs_len _ h1
      rw [← h3]; simp; omega
    · obtain ⟨⟨vs', H1, acc⟩, h1, h2⟩ := bind_some_inv h
      injection h2 with h2; injection h2 with _ h3
      have := ownV_len h1
      rw [← h3]; simp; omega
  | false =>
    simp only [Bool.false_eq_true, if_false] at h
    split at h
    · obtain ⟨⟨vs', H1⟩, h1, h2⟩ := bind_some_inv h
      injection h2 with h2; injection h2 with _ h3
      have := pureIns_len _ h1
      rw [← h3]; simp; omega
    · obtain ⟨⟨v', H1⟩, h1, h2⟩ := bind_some_inv h
      injection h2 with h2; injection h2 with _ h3
      have := pureIn_len h1
      rw [← h3]; simp; omega

theorem stStore_len {n0 z : Nat} {x y : V} {H : Heap} {v : V} {H1 : Heap} (h : stStore n0 z x y H = some (v, H1)) : H.length ≤ H1.length := by
  unfold stStore at h
  split at h
  · split at h
    · split at h
      · obtain ⟨⟨v1, Ha⟩, h1, h⟩ := bind_some_inv h
        have hla : Ha.length = H.length := by
          split at h1
          · exact pureIn_len h1
          · injection h1 with h1; injection h1 with _ h1; rw [h1]
        simp only [] at h
        split at h
        · split at h
          · split at h
            · injection h with h; injection h with _ h; rw [← h]; simp [hla]
            · cases h
          · cases h
        · cases h
      · cases h
    · cases h
  · cases h

theorem stp_len {n0 : Nat} {op : AOp} {E : Env} {H : Heap} {v : V} {H1 : Heap} (h : stp n0 op E H = some (v, H1)) : H.length ≤ H1.length := by
  by_cases hl : op.loud = false
  · by_cases hs : ∃ ag z t, op = .sload ag z t
    · obtain ⟨ag, z, t, rfl⟩ := hs
      simp only [stp] at h
      split at h
      · obtain ⟨u, _, h⟩ := map_some_inv h
        injection h with _ h; rw [h]; exact Nat.le_refl _
      · split at h
        · split at h
          · obtain ⟨u, _, h⟩ := bind_some_inv h
            split at h
            · injection h with h; injection h with _ h; rw [h]; exact Nat.le_refl _
            · cases h
          · cases h
        · cases h
      · cases h
    · rw [(stp_quiet hl (fun ag z t e => hs ⟨ag, z, t, e⟩) h).1]; exact Nat.le_refl _
  · cases op <;> try (exact absurd rfl hl)
    case box z x =>
      simp only [stp] at h
      split at h
      · injection h with h; injection h with _ h; rw [← h]; simp
      · cases h
    case new z x =>
      simp only [stp] at h
      split at h
      · injection h with h; injection h with _ h; rw [← h]; simp
      · cases h
    case bslice z len zero ps =>
      simp only [stp] at h
      split at h
      · obtain ⟨⟨vs, Ha⟩, h1, h⟩ := bind_some_inv h
        obtain ⟨el, h2, h3⟩ := map_some_inv h
        injection h3 with _ h3
        rw [← h3]
        simp [pureIns_len _ h1]
      · cases h
    case load ag z x =>
      simp only [stp] at h
      split at h
      · obtain ⟨q, h1, h2⟩ := map_some_inv h; injection h2 with _ h2; rw [h2]; exact Nat.le_refl _
      · split at h
        · split at h
          · obtain ⟨q, h1, h2⟩ := map_some_inv h; injection h2 with _ h2; rw [h2]; exact Nat.le_refl _
          · cases h
        · cases h
      · cases h
    case store z x y => exact stStore_len (by simpa only [stp] using h)
    case storeN z x y av =>
      simp only [stp] at h
      split at h
      · exact stStore_len h
      · cases h
    case mkslice z b zero l c =>
      simp only [stp] at h
      split at h
      · split at h
        · injection h with h; injection h with _ h; rw [← h]; simp
        · cases h
      · cases h
    case appendZ z b zero x m =>
      simp only [stp] at h
      split at h
      · split at h
        · injection h with h; injection h with _ h; rw [← h]; simp
        · cases h
      · cases h
    case append z b x y =>
      simp only [stp] at h
      obtain ⟨ys, h1, h⟩ := bind_some_inv h
      split at h
      · split at h
        · split at h
          · injection h with h; injection h with _ h; rw [h]; exact Nat.le_refl _
          · split at h
            · injection h with h; injection h with _ h; rw [← h]; simp
            · cases h
        · split at h
          · split at h
            · split at h
              · injection h with h; injection h with _ h; rw [h]; exact Nat.le_refl _
              · injection h with h; injection h with _ h; rw [← h]; simp
            · cases h
          · cases h
        · cases h
      · cases h
    case copy z x y =>
      simp only [stp] at h
      split at h
      · obtain ⟨ys, h1, h⟩ := bind_some_inv h
        split at h
        · split at h
          · injection h with h; injection h with _ h; rw [← h]; simp
          · cases h
        · cases h
      · cases h
    case call x q => simp [stp] at h

theorem prep_len {g : Nat} {H : Heap} {args vs : List V} {H1 : Heap} (h : prep S g H args = some (vs, H1)) : H1.length = H.length := by
  unfold prep at h
  split at h
  · split at h
    · injection h with h; injection h with _ h; rw [h]
    · exact frzVs_len _ h
  · exact frzVs_len _ h

theorem softOp_soft (bits : List Nat) (l : List AOper) (i : Nat) (o : AOper) : Soft (softOp bits l i o) o.op := by
  unfold softOp
  split
  · rename_i ag z t h
    rw [h]
    split
    · exact .load ag z t
    · exact .refl _
  · rename_i z a x h
    rw [h]
    split
    · exact .refl _
    · exact .store z a x _
  · exact .refl _

theorem finalOps_len (bits : List Nat) (l : List AOper) : (finalOps bits l).length = l.length := by simp [finalOps, soften]

theorem finalOps_get {bits : List Nat} {l : List AOper} {i : Nat} {ao : AOper} (h : (finalOps bits l)[i]? = some ao) : ∃ a0 sy op, l[i]? = some a0 ∧ Soft op a0.op ∧ ao = { a0 with sync := sy, op := op } := by
  unfold finalOps at h
  rw [List.getElem?_mapIdx] at h
  obtain ⟨a1, h1, h2⟩ := map_some_inv h
  unfold soften at h1
  rw [List.getElem?_mapIdx] at h1
  obtain ⟨a0, h3, h4⟩ := map_some_inv h1
  exact ⟨a0, syncOf bits (soften bits l) i a1, softOp bits l i a0, h3, softOp_soft bits l i a0, by rw [← h2, ← h4]⟩

theorem link_tail {ops : Array Oper} {os : List Oper} {o : Oper} {l : List AOper} {ao : AOper} (h : ∀ (i : Nat) (x : Oper) (y : AOper), (o :: os)[i]? = some x → (ao :: l)[i]? = some y → Link T ops x y) :
    Link T ops o ao ∧ ∀ (i : Nat) (x : Oper) (y : AOper), os[i]? = some x → l[i]? = some y → Link T ops x y :=
  ⟨h 0 o ao rfl rfl, fun i x y hx hy => h (i + 1) x y (by simpa using hx) (by simpa using hy)⟩

theorem E0_rel {w : World} {M : Nat → Prop} {μ : Inj} {vs : List Value} {args : List V} (h : Rs T.gid w M μ vs args) (n : Nat) : ERel T.gid w M μ (vs.toArray ++ Array.replicate n Go.undef) (E0 args) := by
  intro t
  unfold E0
  rw [Array.getD_eq_getD_getElem?, List.getD_eq_getElem?_getD]
  by_cases ht : t < vs.length
  · have ht' : t < args.length := by rw [← h.1]; exact ht
    rw [Array.getElem?_append_left (by simpa using ht)]
    simp only [List.getElem?_toArray, List.getElem?_eq_getElem ht, List.getElem?_eq_getElem ht', Option.getD_some]
    exact h.2 t _ _ (List.getElem?_eq_getElem ht) (List.getElem?_eq_getElem ht')
  · have ht' : ¬ t < args.length := by rw [← h.1]; exact ht
    rw [List.getElem?_eq_none (by omega), Array.getElem?_append_right (by simp; omega), Array.getElem?_replicate]
    split <;> exact R.undef

theorem Rs.emp {gid : Gid} {w : World} {M : Nat → Prop} {μ : Inj} {vs : List Value} {pre post : List V} (h : Rs gid w M μ vs (pre ++ .sl [] :: post)) : Rs gid w M μ vs (pre ++ .nil :: post) ∨ Rs gid w M μ vs (pre ++ .emp :: post) := by
  have hlt : pre.length < vs.length := by have := h.1; simp at this; omega
  have hr : R gid w M μ vs[pre.length] (.sl []) := h.2 pre.length _ _ (List.getElem?_eq_getElem hlt) (by simp)
  have key : ∀ {b : V}, R gid w M μ vs[pre.length] b → Rs gid w M μ vs (pre ++ b :: post) := by
    intro b hb
    refine ⟨by simpa using h.1, fun i v c hv hc => ?_⟩
    by_cases hi : i = pre.length
    · subst hi
      simp at hc
      subst hc
      rw [List.getElem?_eq_getElem hlt] at hv
      injection hv with hv
      subst hv
      exact hb
    · refine h.2 i v c hv ?_
      rw [← hc]
      by_cases hlt : i < pre.length
      · rw [List.getElem?_append_left hlt, List.getElem?_append_left hlt]
      · rw [List.getElem?_append_right (by omega), List.getElem?_append_right (by omega)]
        obtain ⟨k, hk⟩ : ∃ k, i - pre.length = k + 1 := ⟨i - pre.length - 1, by omega⟩
        rw [hk]
        rfl
  have : ∀ {v : Value}, R gid w M μ v (.sl []) → R gid w M μ v .nil ∨ R gid w M μ v .emp := by
    intro v hr
    cases hr with
    | c hr => cases hr with
      | p hr =>
        rcases hr.sl_emp with h1 | h1
        · exact .inl (.c (.p h1))
        · exact .inr (.c (.p h1))
  rcases this hr with h1 | h1
  · exact .inl (key h1)
  · exact .inr (key h1)

theorem sound (seat : Seat T S) {t : Task} {r : Res} (h : Ev S t r) : Motive T t r := by
  induction h with
  | skip =>
    refine codeSem_of (Nat.le_refl _) (by simp) fun nt C a w M μ Q hc hn ht hs hE hd he => ?_
    have hC : C = _ := comp_inv hc
    rw [hC]
    exact wp_skip (he a w M μ (.refl hs) hE hd ht)
  | @seqN n0 ca cb E H E1 H1 r _ _ ih1 ih2 =>
    cases r with
    | ret v H' => trivial
    | cd x E' H' =>
      refine codeSem_of (Nat.le_trans ih1.1 ih2.1) (by simp) fun nt C a w M μ Q hc hn ht hs hE hd he => ?_
      obtain ⟨A, B, rfl, g1, g2⟩ := comp_inv hc
      refine wp_seq (ih1.2.1 nt A a w M μ _ g1 hn ht hs hE hd fun a' w' M' μ' st hE' hd' ht' => ?_)
      exact ih2.2.1 nt B a' w' M' μ' Q g2 (by have := ih1.1; omega) ht' st.sim hE' hd' (ends_trans he st)
  | @seqX n0 ca cb E H x E1 H1 _ hx ih1 =>
    refine codeSem_of ih1.1 (by simp) fun nt C a w M μ Q hc hn ht hs hE hd he => ?_
    obtain ⟨A, B, rfl, g1, g2⟩ := comp_inv hc
    refine wp_seq (ih1.2.1 nt A a w M μ _ g1 hn ht hs hE hd fun a' w' M' μ' st hE' hd' ht' => ?_)
    have := he a' w' M' μ' st hE' hd' ht'
    cases x with
    | normal => exact absurd rfl hx
    | exit id => exact this
    | ret => exact this
  | @cond n0 cx ca cb E H t r hcx _ ih1 =>
    cases r with
    | ret v H' => trivial
    | cd x E' H' =>
      refine codeSem_of ih1.1 (by simp) fun nt C a w M μ Q hc hn ht hs hE hd he => ?_
      obtain ⟨X, A, B, rfl, g0, g1, g2⟩ := comp_inv hc
      have hxr := cX_sound hs.tab g0 hE
      rw [hcx] at hxr
      refine wp_cond hxr.inv_bool ?_
      cases t with
      | true => exact ih1.2.1 nt A a w M μ Q g1 hn ht hs hE hd he
      | false => exact ih1.2.1 nt B a w M μ Q g2 hn ht hs hE hd he
  | @block n0 id cc E H x E1 H1 _ ih1 =>
    refine codeSem_of ih1.1 (by simp) fun nt C a w M μ Q hc hn ht hs hE hd he => ?_
    obtain ⟨A, rfl, g1⟩ := comp_inv hc
    refine wp_block (ih1.2.1 nt A a w M μ _ g1 hn ht hs hE hd fun a' w' M' μ' st hE' hd' ht' => ?_)
    have := he a' w' M' μ' st hE' hd' ht'
    cases x with
    | normal => exact this
    | ret => exact this
    | exit id' =>
      simp only [AX.toExit, Exit.inBlock, AX.outOf] at this ⊢
      split
      · rename_i e; rw [if_pos e] at this; exact this
      · rename_i e; rw [if_neg e] at this; exact this
  | @loopN n0 cc E H E1 H1 r _ _ ih1 ih2 =>
    cases r with
    | ret v H' => trivial
    | cd x E' H' =>
      obtain ⟨n, hn2⟩ := ih2.2.2 cc rfl
      have rounds : ∀ (nt : Nat) (C : Code) (a : Act) (w : World) (M : Nat → Prop) (μ : Inj) (Q : Exit → Act → World → Prop), comp T nt C = some cc → n0 ≤ H.length → nt ≤ a.tmps.size → Sim T.gid w M μ H → ERel T.gid w M μ a.tmps E → a.defers = [] →
          Ends T n0 nt w M μ H x E' H' Q → Code.rounds T.P C Q (n + 1) a w := by
        intro nt C a w M μ Q hc hn ht hs hE hd he
        rw [rounds_succ]
        refine ih1.2.1 nt C a w M μ _ hc hn ht hs hE hd fun a' w' M' μ' st hE' hd' ht' => ?_
        exact hn2 nt C a' w' M' μ' Q hc (by have := ih1.1; omega) ht' st.sim hE' hd' (ends_trans he st)
      refine ⟨Nat.le_trans ih1.1 ih2.1, fun nt C a w M μ Q hc hn ht hs hE hd he => ?_, fun c' e => by injection e with e; subst e; exact ⟨n + 1, rounds⟩⟩
      obtain ⟨A, rfl, g1⟩ := comp_inv hc
      exact wp_loop_rounds (n + 1) (rounds nt A a w M μ Q g1 hn ht hs hE hd he)
  | @loopX n0 cc E H x E1 H1 _ hx ih1 =>
    have rounds : ∀ (nt : Nat) (C : Code) (a : Act) (w : World) (M : Nat → Prop) (μ : Inj) (Q : Exit → Act → World → Prop), comp T nt C = some cc → n0 ≤ H.length → nt ≤ a.tmps.size → Sim T.gid w M μ H → ERel T.gid w M μ a.tmps E → a.defers = [] →
        Ends T n0 nt w M μ H x E1 H1 Q → Code.rounds T.P C Q (0 + 1) a w := by
      intro nt C a w M μ Q hc hn ht hs hE hd he
      rw [rounds_succ]
      refine ih1.2.1 nt C a w M μ _ hc hn ht hs hE hd fun a' w' M' μ' st hE' hd' ht' => ?_
      have := he a' w' M' μ' st hE' hd' ht'
      cases x with
      | normal => exact absurd rfl hx
      | exit id => exact this
      | ret => exact this
    refine ⟨ih1.1, fun nt C a w M μ Q hc hn ht hs hE hd he => ?_, fun c' e => by injection e with e; subst e; exact ⟨0 + 1, rounds⟩⟩
    obtain ⟨A, rfl, g1⟩ := comp_inv hc
    exact wp_loop_rounds (0 + 1) (rounds nt A a w M μ Q g1 hn ht hs hE hd he)
  | exit =>
    refine codeSem_of (Nat.le_refl _) (by simp) fun nt C a w M μ Q hc hn ht hs hE hd he => ?_
    have hC : C = _ := comp_inv hc
    rw [hC]
    exact wp_exit (he a w M μ (.refl hs) hE hd ht)
  | ret =>
    refine codeSem_of (Nat.le_refl _) (by simp) fun nt C a w M μ Q hc hn ht hs hE hd he => ?_
    have hC : C = _ := comp_inv hc
    rw [hC]
    exact wp_ret (he a w M μ (.refl hs) hE hd ht)
  | @region n0 d l E H E1 H1 _ ih1 =>
    obtain ⟨_, hlen, htr⟩ := ih1
    refine codeSem_of hlen (by simp) fun nt C a w M μ Q hc hn ht hs hE hd he => ?_
    obtain ⟨id, ops, rfl, g1⟩ := comp_inv hc
    obtain ⟨l0, g2, g3, g4⟩ := cRegion_inv g1
    obtain ⟨g5, g6⟩ := cOpers_get _ g2
    rcases g4 with ⟨rfl, g4⟩ | ⟨rfl, g4, g7, g8⟩
    · injection g4 with _ g4
      subst g4
      have tr := htr ops ops.toList g5 fun i o ao h1 h2 => cOper_link (g6 i o ao h1 h2) ao.sync (.refl _)
      refine wp_region ?_
      have := tr.plain 0 (by simp) nt g3 a w M μ ht hn hs hE hd Q fun a' w' M' μ' st hE' hd' hsz => he a' w' M' μ' st hE' hd' (by omega)
      rw [List.range_eq_range']
      simpa using this
    · injection g4 with _ g4
      subst g4
      have gl : ∀ (i : Nat) (ao : AOper), (finalOps (befores ops.toList []) l0)[i]? = some ao → ∃ a0 sy op, l0[i]? = some a0 ∧ Soft op a0.op ∧ ao = { a0 with sync := sy, op := op } := fun i ao h => finalOps_get h
      have tr := htr ops ops.toList (by rw [finalOps_len]; exact g5) fun i o ao h1 h2 => by
        obtain ⟨a0, sy, op, h3, h4, h5⟩ := gl i ao h2
        subst h5
        exact cOper_link (g6 i o a0 h1 h3) _ h4
      obtain ⟨Es, Hs, vs, hr, h1, h2, h3, h4⟩ := tr.run
      have hds : dstsOk nt (finalOps (befores ops.toList []) l0) = true := by
        unfold dstsOk
        rw [List.all_eq_true]
        intro ao hao
        obtain ⟨i, hi⟩ := List.getElem?_of_mem hao
        obtain ⟨a0, sy, op, h5, _, h6⟩ := gl i ao hi
        subst h6
        exact List.all_eq_true.1 g3 a0 (List.mem_of_getElem? h5)
      have hst : Static ops.toList (finalOps (befores ops.toList []) l0) := by
        refine ⟨fun i o hi => ?_, fun i o ao _ hao => ?_, fun i j a b hij ha hb => ?_⟩
        · have hi' : i < ops.size := by
            have := (List.getElem?_eq_some_iff.1 hi).1
            simpa using this
          have := List.all_eq_true.1 g7 i (List.mem_range.2 hi')
          have ho : ops[i]? = some o := by simpa using hi
          simpa [ho] using this
        · unfold drawOk at g8
          rw [Bool.and_eq_true] at g8
          exact List.all_eq_true.1 g8.1 ao (List.mem_of_getElem? hao)
        · have hj : j < (finalOps (befores ops.toList []) l0).length := (List.getElem?_eq_some_iff.1 hb).1
          unfold drawOk at g8
          rw [Bool.and_eq_true] at g8
          have := List.all_eq_true.1 g8.2 j (List.mem_range.2 hj)
          have := List.all_eq_true.1 this i (List.mem_range.2 hij)
          rw [ha, hb] at this
          exact this
      refine wp_region_any seat.mixed ?_
      subst h1; subst h2
      have hs' := hs.same (Same.drew w)
      obtain ⟨e, hH⟩ := HInv.begin (D := fun i => (Array.replicate ops.size false).getD i false = true) (w0 := w) (M0 := M) (μ0 := μ) (w := w.drew) (M := M) (μ := μ) (s := 0) hr (Nat.zero_le _) (fun j hj => by omega)
        (fun j _ _ hD => by
          rw [Array.getD_eq_getD_getElem?, Array.getElem?_replicate] at hD
          split at hD <;> cases hD) (Step.same hs (Same.drew w))
      refine drawn_all hr hst hn Q hds (fun a' w' M' μ' st hE' hd' hsz => he a' w' M' μ' (by rw [← h4]; exact st) (by rw [← h3]; exact hE') hd' hsz) ops.size _ a w.drew M μ 0 e (by simp) ?_ ?_ hH ?_ ht hd
      · unfold left
        refine Nat.le_trans (List.length_filter_le _ _) ?_
        simp
      · intro i o hD
        have hD : (Array.replicate ops.size false).getD i false = true := hD
        rw [Array.getD_eq_getD_getElem?, Array.getElem?_replicate] at hD
        split at hD <;> cases hD
      · intro t
        refine .inr ⟨fun j _ hD => ?_, ?_⟩
        · have hD : (Array.replicate ops.size false).getD j false = true := hD
          rw [Array.getD_eq_getD_getElem?, Array.getElem?_replicate] at hD
          split at hD <;> cases hD
        · refine (hE t).mono ((Same.drew w).keep M) (Same.drew w).shape fun b x hx => ?_
          unfold cutM
          rw [if_pos (hs.dom b x hx)]
          exact hx
  | opNil =>
    refine ⟨rfl, Nat.le_refl _, fun ops os hl _ => ?_⟩
    have : os = [] := List.eq_nil_of_length_eq_zero (by simpa using hl)
    subst this
    exact .nil
  | @opSkip n0 d o l E H r hg _ ih1 =>
    cases r with
    | ret v H' => trivial
    | cd x E' H' =>
      obtain ⟨hx, hlen, htr⟩ := ih1
      refine ⟨hx, hlen, fun ops os hl hk => ?_⟩
      cases os with
      | nil => simp at hl
      | cons oo os =>
        obtain ⟨k1, k2⟩ := link_tail hk
        exact .skip k1 hg (htr ops os (by simpa using hl) k2)
  | @opDo n0 d o l E H v H1 r hg hstp hpre _ ih1 =>
    cases r with
    | ret v H' => trivial
    | cd x E' H' =>
      obtain ⟨hx, hlen, htr⟩ := ih1
      refine ⟨hx, Nat.le_trans (stp_len hstp) hlen, fun ops os hl hk => ?_⟩
      cases os with
      | nil => simp at hl
      | cons oo os =>
        obtain ⟨k1, k2⟩ := link_tail hk
        obtain ⟨op0, ko, ks⟩ := k1.op
        refine .step k1 hg (opSem_stp ko ks hstp) (stp_len hstp) hpre (fun hq => ?_) (fun z x y av e t ht b i off hE => ?_) (htr ops os (by simpa using hl) k2)
        · by_cases hs : ∃ ag z t, o.op = .sload ag z t
          · obtain ⟨ag, z, t, e⟩ := hs
            rw [e] at hstp ks ⊢
            obtain ⟨q1, q2⟩ := lateSem_stp ko ks hstp
            exact ⟨q1, q2.symm⟩
          · obtain ⟨q1, q2⟩ := stp_quiet hq (fun ag z t e => hs ⟨ag, z, t, e⟩) hstp
            exact ⟨q1, .inl fun Hc => opSem_stp ko ks (q2 Hc)⟩
        · rw [e] at hstp
          exact storeN_spares hstp ht hE
  | @opCall n0 d o l E H x xs g caps vs H1 v H2 r hg ho hx hp _ hpre _ ih1 ih2 =>
    cases r with
    | ret v H' => trivial
    | cd x' E' H' =>
      obtain ⟨hxx, hlen, htr⟩ := ih2
      have hl12 : H.length ≤ H2.length := by
        have := prep_len hp
        have := ih1.1
        omega
      refine ⟨hxx, Nat.le_trans hl12 hlen, fun ops os hl hk => ?_⟩
      cases os with
      | nil => simp at hl
      | cons oo os =>
        obtain ⟨k1, k2⟩ := link_tail hk
        obtain ⟨op0, ko, ks⟩ := k1.op
        have hop : cOp T oo.op = some (.call x xs) := by
          rw [ho] at ks
          cases ks
          exact ko
        refine .step k1 hg (by rw [ho]; exact opSem_call hop hx hp ih1) hl12 hpre (fun hq => ?_) (fun z x y av e => by rw [ho] at e; cases e) (htr ops os (by simpa using hl) k2)
        rw [ho] at hq
        cases hq
  | @call g f args H x E1 H1 v0 v H2 hf _ hx hres hfin ih1 =>
    have hlen2 : H.length ≤ H2.length := fin_len ih1.1 hfin
    refine ⟨hlen2, fun fid hg => ?_⟩
    obtain ⟨fn, C, s1, s2, s3, s4, s5⟩ := seat.fns fid g f hg hf
    refine ⟨fn, s1, s2, by rw [s3]; rfl, fun w M μ vs hs hrs => ?_⟩
    refine calls_of_wp s1 s3 ?_
    have hE := E0_rel hrs (fn.ntmps - vs.toArray.size)
    refine ih1.2.1 fn.ntmps C _ w M μ _ s4 (Nat.le_refl _) (by simp; omega) hs hE rfl fun a' w' M' μ' st hE' hd' ht' => ?_
    obtain ⟨v', r1, r2⟩ := resV_sound st.sim hE' s5 hres
    obtain ⟨M2, μ2, st2, r3⟩ := fin_sound rfl (hs.lowH (Nat.le_refl _)) st r2 hfin
    rcases hx with rfl | rfl
    · exact ⟨hd', v', r1, v', M2, μ2, rfl, st2, r3⟩
    · exact ⟨hd', v', r1, v', M2, μ2, rfl, st2, r3⟩
  | @emp g pre post H r _ _ ih1 ih2 =>
    cases r with
    | cd x E' H' => trivial
    | ret v H' =>
      refine ⟨ih1.1, fun fid hg => ?_⟩
      obtain ⟨fn, h1, h2, h3, h4⟩ := ih1.2 fid hg
      obtain ⟨fn', h1', _, _, h5⟩ := ih2.2 fid hg
      refine ⟨fn, h1, h2, h3, fun w M μ vs hs hrs => ?_⟩
      rcases hrs.emp with hr | hr
      · exact h4 w M μ vs hs hr
      · exact h5 w M μ vs hs hr
  | @prim g args H v hp =>
    refine ⟨Nat.le_refl _, fun fid hg => ?_⟩
    obtain ⟨fn, s1, s2, s3, s4⟩ := seat.prims fid g args v H hg hp
    exact ⟨fn, s1, s2, s3, s4⟩

end Go.Abs
/- A program as a list of functions. -/
namespace Go.Abs

def look (l : List (Nat × AFn)) (g : Nat) : Option AFn := (l.find? fun p => p.1 == g).map (·.2)

end Go.Abs
/- A seat: the program's functions are the abstract ones. -/
namespace Go.Abs

/-- Our number of a function, out of a list by the program's number; 0: none. -/
def gidOf (l : List Nat) (f : FuncId) : Option Nat :=
  match l[f]? with
  | some 0 => none
  | some (n + 1) => some (n + 1)
  | none => none

/-- The package's tables, out of a list. -/
def tabsOf (l : List (Nat × List V)) (g : Nat) : Option (List V) :=
  match l with
  | [] => none
  | (i, cs) :: l => if g = i then some cs else tabsOf l g

/-- A row of the tie: the program's number, ours, and the function. -/
structure Row where
  fid : Nat
  gid : Nat
  fn : AFn

structure RowOk (T : Tab) (r : Row) : Prop where
  ok : ∃ f, T.P.funcs[r.fid]? = some f ∧ compF T f = some (r.fn.results, r.fn.body)

theorem compF_inv {T : Tab} {f : Func} {rs : List RV} {b : AC} (h : compF T f = some (rs, b)) :
    f.name ≠ "runtime.NumGoroutine" ∧ ∃ C, f.body = some C ∧ comp T f.ntmps C = some b ∧ cRVs T f.results.toList = some rs := by
  unfold compF at h
  split at h
  · cases h
  · rename_i hn
    simp only [Option.bind_eq_some_iff, Option.map_eq_some_iff] at h
    obtain ⟨C, h1, c, h2, rs', h3, h4⟩ := h
    injection h4 with h4 h5
    subst h4; subst h5
    exact ⟨hn, C, h1, h2, h3⟩

/-- Each number of ours that the program's table gives and that has code stands in a row. -/
theorem fns_of_rows {T : Tab} {fns : List (Nat × AFn)} {S : AProg} {l : List Nat} (hg : T.gid = gidOf l) (hS : S.fn = look fns) (rows : List Row)
    (hok : ∀ r ∈ rows, RowOk T r)
    (hall : ((List.range l.length).all fun i => match gidOf l i with
      | none => true
      | some g => (fns.find? fun p => p.1 == g).isNone || rows.any fun r => r.fid == i && r.gid == g) = true)
    (hsame : ∀ r ∈ rows, look fns r.gid = some r.fn) :
    ∀ fid g f, T.gid fid = some g → S.fn g = some f → ∃ fn C, T.P.funcs[fid]? = some fn ∧ fn.name ≠ "runtime.NumGoroutine" ∧ fn.body = some C ∧ comp T fn.ntmps C = some f.body ∧ cRVs T fn.results.toList = some f.results := by
  intro fid g f h1 h2
  rw [hg] at h1
  rw [hS] at h2
  have hlt : fid < l.length := by
    unfold gidOf at h1
    split at h1
    · cases h1
    · rename_i n hn; exact (List.getElem?_eq_some_iff.1 hn).1
    · cases h1
  have h3 := List.all_eq_true.1 hall fid (List.mem_range.2 hlt)
  simp only [h1] at h3
  have hf : ∃ p, fns.find? (fun p => p.1 == g) = some p := by
    unfold look at h2
    cases hq : fns.find? (fun p => p.1 == g) with
    | none => rw [hq] at h2; cases h2
    | some p => exact ⟨p, rfl⟩
  obtain ⟨p, hp⟩ := hf
  rw [hp] at h3
  simp only [Option.isNone_some, Bool.false_or, List.any_eq_true, Bool.and_eq_true, beq_iff_eq] at h3
  obtain ⟨r, hr, e1, e2⟩ := h3
  subst e1; subst e2
  have h4 := hsame r hr
  rw [h4] at h2
  injection h2 with h2
  subst h2
  obtain ⟨fn, h5, h6⟩ := (hok r hr).ok
  obtain ⟨h7, C, h8, h9, h10⟩ := compF_inv h6
  exact ⟨fn, C, h5, h7, h8, h9, h10⟩

end Go.Abs
/- Rules to find out what abstract code does: total correctness, backward, no loop without a measure. -/
namespace Go.Abs

section
variable {S : AProg}

def WC (S : AProg) (n0 : Nat) (c : AC) (E : Env) (H : Heap) (Q : AX → Env → Heap → Prop) : Prop :=
  ∃ x E1 H1, Ev S (.code n0 c E H) (.cd x E1 H1) ∧ Q x E1 H1

def WO (S : AProg) (n0 : Nat) (d : Bool) (l : List AOper) (E : Env) (H : Heap) (Q : Env → Heap → Prop) : Prop :=
  ∃ E1 H1, Ev S (.ops n0 d l E H) (.cd .normal E1 H1) ∧ Q E1 H1

def CT (S : AProg) (g : Nat) (args : List V) (H : Heap) (Q : V → Heap → Prop) : Prop :=
  ∃ v H1, Ev S (.call g args H) (.ret v H1) ∧ Q v H1

/-- The everyday contract: the answer, and nothing else has turned. -/
def CQ (S : AProg) (g : Nat) (args : List V) (v : V) : Prop := ∀ H, Ev S (.call g args H) (.ret v H)

variable {n0 : Nat} {E : Env} {H : Heap} {Q : AX → Env → Heap → Prop} {R : Env → Heap → Prop} {d : Bool}

theorem WC.mono {c : AC} {Q' : AX → Env → Heap → Prop} (h : WC S n0 c E H Q) (hq : ∀ x E H, Q x E H → Q' x E H) : WC S n0 c E H Q' :=
  let ⟨x, E1, H1, e, q⟩ := h; ⟨x, E1, H1, e, hq _ _ _ q⟩

theorem WO.mono {l : List AOper} {R' : Env → Heap → Prop} (h : WO S n0 d l E H R) (hq : ∀ E H, R E H → R' E H) : WO S n0 d l E H R' :=
  let ⟨E1, H1, e, q⟩ := h; ⟨E1, H1, e, hq _ _ q⟩

theorem CT.mono {g : Nat} {args : List V} {Q Q' : V → Heap → Prop} (h : CT S g args H Q) (hq : ∀ v H, Q v H → Q' v H) : CT S g args H Q' :=
  let ⟨v, H1, e, q⟩ := h; ⟨v, H1, e, hq _ _ q⟩

theorem WC_skip (h : Q .normal E H) : WC S n0 .skip E H Q := ⟨_, _, _, .skip, h⟩
theorem WC_exit {id : Nat} (h : Q (.exit id) E H) : WC S n0 (.exit id) E H Q := ⟨_, _, _, .exit, h⟩
theorem WC_ret (h : Q .ret E H) : WC S n0 .ret E H Q := ⟨_, _, _, .ret, h⟩

def AX.thn (K : Env → Heap → Prop) (Q : AX → Env → Heap → Prop) : AX → Env → Heap → Prop
  | .normal, E, H => K E H
  | x, E, H => Q x E H

theorem WC_seq {a b : AC} (h : WC S n0 a E H (AX.thn (fun E H => WC S n0 b E H Q) Q)) : WC S n0 (.seq a b) E H Q := by
  obtain ⟨x, E1, H1, e, q⟩ := h
  cases x with
  | normal => obtain ⟨y, E2, H2, e2, q2⟩ := q; exact ⟨y, E2, H2, .seqN e e2, q2⟩
  | exit id => exact ⟨_, _, _, .seqX e (by simp), q⟩
  | ret => exact ⟨_, _, _, .seqX e (by simp), q⟩

theorem WC_cond {c : X} {a b : AC} {t : Bool} (hc : getX E c = .bool t) (h1 : t = true → WC S n0 a E H Q) (h2 : t = false → WC S n0 b E H Q) : WC S n0 (.cond c a b) E H Q := by
  cases t with
  | true => obtain ⟨x, E1, H1, e, q⟩ := h1 rfl; exact ⟨x, E1, H1, .cond hc (by simpa using e), q⟩
  | false => obtain ⟨x, E1, H1, e, q⟩ := h2 rfl; exact ⟨x, E1, H1, .cond hc (by simpa using e), q⟩

theorem WC_true {c : X} {a b : AC} (hc : getX E c = .bool true) (h : WC S n0 a E H Q) : WC S n0 (.cond c a b) E H Q := WC_cond hc (fun _ => h) (by simp)
theorem WC_false {c : X} {a b : AC} (hc : getX E c = .bool false) (h : WC S n0 b E H Q) : WC S n0 (.cond c a b) E H Q := WC_cond hc (by simp) (fun _ => h)

theorem WC_block {id : Nat} {c : AC} (h : WC S n0 c E H (fun x E H => Q (x.outOf id) E H)) : WC S n0 (.block id c) E H Q := by
  obtain ⟨x, E1, H1, e, q⟩ := h
  exact ⟨_, _, _, .block e, q⟩

theorem WC_region {l : List AOper} (h : WO S n0 d l E H (fun E H => Q .normal E H)) : WC S n0 (.region d l) E H Q := by
  obtain ⟨E1, H1, e, q⟩ := h
  exact ⟨_, _, _, .region e, q⟩

theorem WC_loop {c : AC} (I : Nat → Env → Heap → Prop) (k : Nat) (h0 : I k E H)
    (round : ∀ k E H, I k E H → WC S n0 c E H (AX.thn (fun E1 H1 => ∃ j, j < k ∧ I j E1 H1) Q)) : WC S n0 (.loop c) E H Q := by
  induction k using Nat.strongRecOn generalizing E H with
  | _ k ih =>
    obtain ⟨x, E1, H1, e, q⟩ := round k E H h0
    cases x with
    | normal =>
      obtain ⟨j, hj, hI⟩ := q
      obtain ⟨y, E2, H2, e2, q2⟩ := ih j hj hI
      exact ⟨y, E2, H2, .loopN e e2, q2⟩
    | exit id => exact ⟨_, _, _, .loopX e (by simp), q⟩
    | ret => exact ⟨_, _, _, .loopX e (by simp), q⟩

theorem WO_nil (h : R E H) : WO S n0 d [] E H R := ⟨_, _, .opNil, h⟩

/-- The rest of a region, standing at a call: nothing is done before a contract is offered. -/
def WOcall (S : AProg) (n0 : Nat) (d : Bool) (dst : Option Nat) (x : X) (xs : List X) (gu : Option (Nat × Bool)) (sy : Bool) (l : List AOper) (E : Env) (H : Heap) (R : Env → Heap → Prop) : Prop :=
  WO S n0 d (⟨dst, .call x xs, gu, sy⟩ :: l) E H R

/-- What an operation comes to. -/
def stepP (S : AProg) (n0 : Nat) (d : Bool) (dst : Option Nat) (op : AOp) (gu : Option (Nat × Bool)) (sy : Bool) (l : List AOper) (E : Env) (H : Heap) (R : Env → Heap → Prop) : Prop :=
  match gd ⟨dst, op, gu, sy⟩ E with
  | some false => WO S n0 d l (put E dst .undef) H R
  | some true =>
    match op with
    | .call x xs => WOcall S n0 d dst x xs none sy l E H R
    | op =>
      match stp n0 op E H with
      | some (v, H1) => ((d && !sy) = true → H <+: H1) ∧ WO S n0 d l (put E dst v) H1 R
      | none => False
  | none => False

theorem WO_cons {dst : Option Nat} {op : AOp} {gu : Option (Nat × Bool)} {sy : Bool} {l : List AOper} (h : stepP S n0 d dst op gu sy l E H R) : WO S n0 d (⟨dst, op, gu, sy⟩ :: l) E H R := by
  unfold stepP at h
  split at h
  · rename_i hg
    obtain ⟨E1, H1, e, q⟩ := h
    exact ⟨_, _, .opSkip hg e, q⟩
  · rename_i hg
    split at h
    · obtain ⟨E1, H1, e, q⟩ := h
      refine ⟨E1, H1, ?_, q⟩
      cases e with
      | opSkip hg' _ => simp [gd] at hg'
      | opDo _ hs _ _ => cases hs
      | opCall _ ho hx hp e1 hpre e2 => exact .opCall hg ho hx hp e1 hpre e2
    · split at h
      · rename_i v H1 hs
        obtain ⟨hp, E1, H2, e, q⟩ := h
        exact ⟨_, _, .opDo hg hs (fun hd hsy => hp (by simp [hd]; simpa using hsy)) e, q⟩
      · exact h.elim
  · exact h.elim

theorem WO_iff {dst : Option Nat} {op : AOp} {gu : Option (Nat × Bool)} {sy : Bool} {l : List AOper} : WO S n0 d (⟨dst, op, gu, sy⟩ :: l) E H R ↔ stepP S n0 d dst op gu sy l E H R := by
  refine ⟨fun h => ?_, WO_cons⟩
  obtain ⟨E1, H1, e, q⟩ := h
  unfold stepP
  cases e with
  | opSkip hg e1 => rw [hg]; exact ⟨_, _, e1, q⟩
  | opDo hg hs hp e1 =>
    rw [hg]
    cases op <;> first
      | (cases hs; done)
      | (simp only [] at hs ⊢; rw [hs]; exact ⟨fun h => by simp at h; exact hp h.1 h.2, _, _, e1, q⟩)
  | opCall hg ho hx hp e1 hpre e2 =>
    simp only [] at ho
    subst ho
    rw [hg]
    exact ⟨_, _, .opCall rfl rfl hx hp e1 hpre e2, q⟩

theorem WO_nil_iff : WO S n0 d [] E H R ↔ R E H := by
  refine ⟨fun h => ?_, WO_nil⟩
  obtain ⟨E1, H1, e, q⟩ := h
  cases e; exact q

theorem WO_call {dst : Option Nat} {sy : Bool} {l : List AOper} {x : X} {args caps vs : List V} {xs : List X} {g : Nat} {H1 : Heap} (hx : getX E x = .fn g caps)
    (ha : xs.map (getX E) ++ caps = args) (hp : prep S g H args = some (vs, H1))
    (h : CT S g vs H1 (fun v H2 => ((d && !sy) = true → H <+: H2) ∧ WO S n0 d l (put E dst v) H2 R)) : WOcall S n0 d dst x xs none sy l E H R := by
  obtain ⟨v, H2, e, hpre, E1, H3, e1, q⟩ := h
  subst ha
  exact ⟨_, _, .opCall rfl rfl hx hp e (fun hd hsy => hpre (by simp [hd]; simpa using hsy)) e1, q⟩

theorem CQ.ct {g : Nat} {args : List V} {v : V} {Q : V → Heap → Prop} (h : CQ S g args v) (hq : Q v H) : CT S g args H Q := ⟨_, _, h H, hq⟩

theorem CQ_of {g : Nat} {f : AFn} {args : List V} {v : V} (hf : S.fn g = some f)
    (h : ∀ H, WC S H.length f.body (E0 args) H (fun x E1 H1 => (x = .normal ∨ x = .ret) ∧ ∃ v0, resV E1 H1 f.results = some v0 ∧ fin f.own H.length H1 v0 = some (v, H))) : CQ S g args v := by
  intro H
  obtain ⟨x, E1, H1, e, hx, v0, hr, hfin⟩ := h H
  exact .call hf e hx hr hfin

theorem CT_of {g : Nat} {f : AFn} {args : List V} {Q : V → Heap → Prop} (hf : S.fn g = some f)
    (h : WC S H.length f.body (E0 args) H (fun x E1 H1 => (x = .normal ∨ x = .ret) ∧ ∃ v0 v H2, resV E1 H1 f.results = some v0 ∧ fin f.own H.length H1 v0 = some (v, H2) ∧ Q v H2)) : CT S g args H Q := by
  obtain ⟨x, E1, H1, e, hx, v0, v, H2, hr, hfin, hq⟩ := h
  exact ⟨_, _, .call hf e hx hr hfin, hq⟩

theorem CQ_emp {g : Nat} {pre post : List V} {v : V} (h1 : CQ S g (pre ++ .nil :: post) v) (h2 : CQ S g (pre ++ .emp :: post) v) : CQ S g (pre ++ .sl [] :: post) v := fun H => .emp (h1 H) (h2 H)

theorem CQ_prim {g : Nat} {args : List V} {v : V} (h : S.prim g args = some v) : CQ S g args v := fun _ => .prim h

end

/-- The variables of an environment, one by one. -/
theorem upd_apply (E : Env) (d : Nat) (v : V) (i : Nat) : upd E d v i = if i = d then v else E i := rfl

theorem wrap_i64 {n : Int} (h1 : -9223372036854775808 ≤ n) (h2 : n < 9223372036854775808) : IntKind.wrap .i64 n = n := by
  simp [IntKind.wrap, IntKind.bits, IntKind.signed]; split <;> omega
theorem wrap_u32 {n : Int} (h1 : 0 ≤ n) (h2 : n < 4294967296) : IntKind.wrap .u32 n = n := by
  simp only [IntKind.wrap, IntKind.bits, IntKind.signed]; simp; omega
theorem wrap_u64 {n : Int} (h1 : 0 ≤ n) (h2 : n < 18446744073709551616) : IntKind.wrap .u64 n = n := by
  simp only [IntKind.wrap, IntKind.bits, IntKind.signed]; simp; omega

end Go.Abs
/- The abstract program: the functions of this seat. -/
namespace Go.Abs

def prog : AProg := ⟨look fnList, fun _ _ => none⟩

end Go.Abs
/- MADE BY A PROGRAM (wip/tools/mkseat.py): the functions of this seat's program are the abstract ones. -/
namespace Go.Abs
open Go.Proofs
set_option maxRecDepth 100000

def gidList : List Nat := [0, 0, 0, 1, 2, 3, 4, 5, 6, 7, 8, 9, 10, 11, 12, 13, 14, 15, 16, 17, 18, 19, 20, 21, 22, 23, 24, 25, 26, 27, 28, 29, 30, 31, 32, 33, 34, 35, 36, 37, 38, 39, 40, 41, 42, 43, 44, 45, 46, 47, 48, 49, 50, 51, 52, 53, 54, 55, 56, 57, 58, 59, 60, 61, 62, 63, 64, 65, 66, 67, 68, 69, 70, 71, 72, 73, 74, 75, 76, 77, 78, 79, 80, 81, 82, 83, 84, 85, 86, 87, 88, 89, 90, 91, 92, 93, 94, 95, 96, 97, 98, 99, 100, 101, 102, 103, 104, 105, 106, 107, 108, 109, 110, 111, 112, 113, 114, 115, 116, 117, 118, 119, 120, 0, 0, 0, 0, 0, 0, 0, 0, 0, 0, 0, 0, 0, 0, 0, 0]

def tabList : List (Nat × List V) := []

noncomputable def tab : Tab := ⟨Try.prog, ⟨gidOf gidList, tabsOf tabList⟩⟩

theorem k_fplaw37_PipeCuts : RowOk tab ⟨3, 1, c_fplaw37_PipeCuts⟩ := ⟨Try.f3, Try.func3, by kernel_rfl⟩
theorem k_fplaw37_PipeValid : RowOk tab ⟨4, 2, c_fplaw37_PipeValid⟩ := ⟨Try.f4, Try.func4, by kernel_rfl⟩
theorem k_fplaw37_PipeJoins : RowOk tab ⟨5, 3, c_fplaw37_PipeJoins⟩ := ⟨Try.f5, Try.func5, by kernel_rfl⟩
theorem k_fplaw37_PipeFirst : RowOk tab ⟨6, 4, c_fplaw37_PipeFirst⟩ := ⟨Try.f6, Try.func6, by kernel_rfl⟩
theorem k_fplaw37_PipeAt : RowOk tab ⟨7, 5, c_fplaw37_PipeAt⟩ := ⟨Try.f7, Try.func7, by kernel_rfl⟩
theorem k_fplaw37_PipeOver : RowOk tab ⟨8, 6, c_fplaw37_PipeOver⟩ := ⟨Try.f8, Try.func8, by kernel_rfl⟩
theorem k_fplaw37_awake : RowOk tab ⟨9, 7, c_fplaw37_awake⟩ := ⟨Try.f9, Try.func9, by kernel_rfl⟩
theorem k_fplaw37_great : RowOk tab ⟨10, 8, c_fplaw37_great⟩ := ⟨Try.f10, Try.func10, by kernel_rfl⟩
theorem k_fplaw37_long : RowOk tab ⟨11, 9, c_fplaw37_long⟩ := ⟨Try.f11, Try.func11, by kernel_rfl⟩
theorem k_pipe_Cut : RowOk tab ⟨12, 10, c_pipe_Cut⟩ := ⟨Try.f12, Try.func12, by kernel_rfl⟩
theorem k_fpref37_Valid : RowOk tab ⟨13, 11, c_fpref37_Valid⟩ := ⟨Try.f13, Try.func13, by kernel_rfl⟩
theorem k_fpref02_Valid : RowOk tab ⟨14, 12, c_fpref02_Valid⟩ := ⟨Try.f14, Try.func14, by kernel_rfl⟩
theorem k_fplaw37_zero : RowOk tab ⟨15, 13, c_fplaw37_zero⟩ := ⟨Try.f15, Try.func15, by kernel_rfl⟩
theorem k_fpref37_Time : RowOk tab ⟨16, 14, c_fpref37_Time⟩ := ⟨Try.f16, Try.func16, by kernel_rfl⟩
theorem k_fpref37_Same : RowOk tab ⟨17, 15, c_fpref37_Same⟩ := ⟨Try.f17, Try.func17, by kernel_rfl⟩
theorem k_fpref37_Cut : RowOk tab ⟨18, 16, c_fpref37_Cut⟩ := ⟨Try.f18, Try.func18, by kernel_rfl⟩
theorem k_pipe_Valid : RowOk tab ⟨19, 17, c_pipe_Valid⟩ := ⟨Try.f19, Try.func19, by kernel_rfl⟩
theorem k_fpref02_Cmp : RowOk tab ⟨20, 18, c_fpref02_Cmp⟩ := ⟨Try.f20, Try.func20, by kernel_rfl⟩
theorem k_pipe_At : RowOk tab ⟨21, 19, c_pipe_At⟩ := ⟨Try.f21, Try.func21, by kernel_rfl⟩
theorem k_fpref37_Equal : RowOk tab ⟨22, 20, c_fpref37_Equal⟩ := ⟨Try.f22, Try.func22, by kernel_rfl⟩
theorem k_pipe_End : RowOk tab ⟨23, 21, c_pipe_End⟩ := ⟨Try.f23, Try.func23, by kernel_rfl⟩
theorem k_pipe_All : RowOk tab ⟨24, 22, c_pipe_All⟩ := ⟨Try.f24, Try.func24, by kernel_rfl⟩
theorem k_fpref02_Equal : RowOk tab ⟨25, 23, c_fpref02_Equal⟩ := ⟨Try.f25, Try.func25, by kernel_rfl⟩
theorem k_fpref37_Last : RowOk tab ⟨26, 24, c_fpref37_Last⟩ := ⟨Try.f26, Try.func26, by kernel_rfl⟩
theorem k_pipe_Join : RowOk tab ⟨27, 25, c_pipe_Join⟩ := ⟨Try.f27, Try.func27, by kernel_rfl⟩
theorem k_fpref37_First : RowOk tab ⟨28, 26, c_fpref37_First⟩ := ⟨Try.f28, Try.func28, by kernel_rfl⟩
theorem k_fpref37_Inside : RowOk tab ⟨29, 27, c_fpref37_Inside⟩ := ⟨Try.f29, Try.func29, by kernel_rfl⟩
theorem k_slices_Concat_Segment : RowOk tab ⟨30, 28, c_slices_Concat_Segment⟩ := ⟨Try.f30, Try.func30, by kernel_rfl⟩
theorem k_fplaw37_wide : RowOk tab ⟨31, 29, c_fplaw37_wide⟩ := ⟨Try.f31, Try.func31, by kernel_rfl⟩
theorem k_pipe_First : RowOk tab ⟨32, 30, c_pipe_First⟩ := ⟨Try.f32, Try.func32, by kernel_rfl⟩
theorem k_fpref37_Box : RowOk tab ⟨33, 31, c_fpref37_Box⟩ := ⟨Try.f33, Try.func33, by kernel_rfl⟩
theorem k_slices_IndexFunc_Segment : RowOk tab ⟨34, 32, c_slices_IndexFunc_Segment⟩ := ⟨Try.f34, Try.func34, by kernel_rfl⟩
theorem k_fplaw37_PipeFirst_1 : RowOk tab ⟨35, 33, c_fplaw37_PipeFirst_1⟩ := ⟨Try.f35, Try.func35, by kernel_rfl⟩
theorem k_fpref37_Common : RowOk tab ⟨36, 34, c_fpref37_Common⟩ := ⟨Try.f36, Try.func36, by kernel_rfl⟩
theorem k_pipe_Over : RowOk tab ⟨37, 35, c_pipe_Over⟩ := ⟨Try.f37, Try.func37, by kernel_rfl⟩
theorem k_fpref37_At : RowOk tab ⟨38, 36, c_fpref37_At⟩ := ⟨Try.f38, Try.func38, by kernel_rfl⟩
theorem k_fpref37_Over : RowOk tab ⟨39, 37, c_fpref37_Over⟩ := ⟨Try.f39, Try.func39, by kernel_rfl⟩
theorem k_fplaw37_example : RowOk tab ⟨40, 38, c_fplaw37_example⟩ := ⟨Try.f40, Try.func40, by kernel_rfl⟩
theorem k_fplaw37_n : RowOk tab ⟨41, 39, c_fplaw37_n⟩ := ⟨Try.f41, Try.func41, by kernel_rfl⟩
theorem k_fplaw37_of : RowOk tab ⟨42, 40, c_fplaw37_of⟩ := ⟨Try.f42, Try.func42, by kernel_rfl⟩
theorem k_slices_ContainsFunc_Pipe : RowOk tab ⟨43, 41, c_slices_ContainsFunc_Pipe⟩ := ⟨Try.f43, Try.func43, by kernel_rfl⟩
theorem k_fplaw37_great_1 : RowOk tab ⟨44, 42, c_fplaw37_great_1⟩ := ⟨Try.f44, Try.func44, by kernel_rfl⟩
theorem k_slices_ContainsFunc_Segment : RowOk tab ⟨45, 43, c_slices_ContainsFunc_Segment⟩ := ⟨Try.f45, Try.func45, by kernel_rfl⟩
theorem k_fplaw37_great_1_1 : RowOk tab ⟨46, 44, c_fplaw37_great_1_1⟩ := ⟨Try.f46, Try.func46, by kernel_rfl⟩
theorem k_pipe_copied : RowOk tab ⟨47, 45, c_pipe_copied⟩ := ⟨Try.f47, Try.func47, by kernel_rfl⟩
theorem k_pipe_less : RowOk tab ⟨48, 46, c_pipe_less⟩ := ⟨Try.f48, Try.func48, by kernel_rfl⟩
theorem k_slices_Clone_Interval : RowOk tab ⟨49, 47, c_slices_Clone_Interval⟩ := ⟨Try.f49, Try.func49, by kernel_rfl⟩
theorem k_fpref37_Before : RowOk tab ⟨50, 48, c_fpref37_Before⟩ := ⟨Try.f50, Try.func50, by kernel_rfl⟩
theorem k_fpref02_bits : RowOk tab ⟨51, 49, c_fpref02_bits⟩ := ⟨Try.f51, Try.func51, by kernel_rfl⟩
theorem k_box_Valid : RowOk tab ⟨52, 50, c_box_Valid⟩ := ⟨Try.f52, Try.func52, by kernel_rfl⟩
theorem k_dyadic_Valid : RowOk tab ⟨53, 51, c_dyadic_Valid⟩ := ⟨Try.f53, Try.func53, by kernel_rfl⟩
theorem k_dyadic_Cmp : RowOk tab ⟨54, 52, c_dyadic_Cmp⟩ := ⟨Try.f54, Try.func54, by kernel_rfl⟩
theorem k_box_Inside : RowOk tab ⟨55, 53, c_box_Inside⟩ := ⟨Try.f55, Try.func55, by kernel_rfl⟩
theorem k_fpref02_Sign : RowOk tab ⟨56, 54, c_fpref02_Sign⟩ := ⟨Try.f56, Try.func56, by kernel_rfl⟩
theorem k_fpref02_Top : RowOk tab ⟨57, 55, c_fpref02_Top⟩ := ⟨Try.f57, Try.func57, by kernel_rfl⟩
theorem k_fpref02_Sum : RowOk tab ⟨58, 56, c_fpref02_Sum⟩ := ⟨Try.f58, Try.func58, by kernel_rfl⟩
theorem k_fpref02_Neg : RowOk tab ⟨59, 57, c_fpref02_Neg⟩ := ⟨Try.f59, Try.func59, by kernel_rfl⟩
theorem k_pipe_during : RowOk tab ⟨60, 58, c_pipe_during⟩ := ⟨Try.f60, Try.func60, by kernel_rfl⟩
theorem k_pipe_at : RowOk tab ⟨61, 59, c_pipe_at⟩ := ⟨Try.f61, Try.func61, by kernel_rfl⟩
theorem k_fpref05_Equal : RowOk tab ⟨62, 60, c_fpref05_Equal⟩ := ⟨Try.f62, Try.func62, by kernel_rfl⟩
theorem k_pipe_last : RowOk tab ⟨63, 61, c_pipe_last⟩ := ⟨Try.f63, Try.func63, by kernel_rfl⟩
theorem k_pipe_All_1 : RowOk tab ⟨64, 62, c_pipe_All_1⟩ := ⟨Try.f64, Try.func64, by kernel_rfl⟩
theorem k_fpref02_compare : RowOk tab ⟨65, 63, c_fpref02_compare⟩ := ⟨Try.f65, Try.func65, by kernel_rfl⟩
theorem k_pipe_begin : RowOk tab ⟨66, 64, c_pipe_begin⟩ := ⟨Try.f66, Try.func66, by kernel_rfl⟩
theorem k_fpref05_Inside : RowOk tab ⟨67, 65, c_fpref05_Inside⟩ := ⟨Try.f67, Try.func67, by kernel_rfl⟩
theorem k_slices_Grow_Segment : RowOk tab ⟨68, 66, c_slices_Grow_Segment⟩ := ⟨Try.f68, Try.func68, by kernel_rfl⟩
theorem k_slices_ContainsFunc_Interval : RowOk tab ⟨69, 67, c_slices_ContainsFunc_Interval⟩ := ⟨Try.f69, Try.func69, by kernel_rfl⟩
theorem k_fplaw37_wide_1 : RowOk tab ⟨70, 68, c_fplaw37_wide_1⟩ := ⟨Try.f70, Try.func70, by kernel_rfl⟩
theorem k_box_Meet : RowOk tab ⟨71, 69, c_box_Meet⟩ := ⟨Try.f71, Try.func71, by kernel_rfl⟩
theorem k_fpref05_Valid : RowOk tab ⟨72, 70, c_fpref05_Valid⟩ := ⟨Try.f72, Try.func72, by kernel_rfl⟩
theorem k_fpref05_Meet : RowOk tab ⟨73, 71, c_fpref05_Meet⟩ := ⟨Try.f73, Try.func73, by kernel_rfl⟩
theorem k_box_Hull : RowOk tab ⟨74, 72, c_box_Hull⟩ := ⟨Try.f74, Try.func74, by kernel_rfl⟩
theorem k_fpref37_Hull : RowOk tab ⟨75, 73, c_fpref37_Hull⟩ := ⟨Try.f75, Try.func75, by kernel_rfl⟩
theorem k_fpref02_Int : RowOk tab ⟨76, 74, c_fpref02_Int⟩ := ⟨Try.f76, Try.func76, by kernel_rfl⟩
theorem k_slices_IndexFunc_Pipe : RowOk tab ⟨77, 75, c_slices_IndexFunc_Pipe⟩ := ⟨Try.f77, Try.func77, by kernel_rfl⟩
theorem k_box_Valid_1 : RowOk tab ⟨78, 76, c_box_Valid_1⟩ := ⟨Try.f78, Try.func78, by kernel_rfl⟩
theorem k_interval_Valid : RowOk tab ⟨79, 77, c_interval_Valid⟩ := ⟨Try.f79, Try.func79, by kernel_rfl⟩
theorem k_dyadic_inRange : RowOk tab ⟨80, 78, c_dyadic_inRange⟩ := ⟨Try.f80, Try.func80, by kernel_rfl⟩
theorem k_dyadic_Sign : RowOk tab ⟨81, 79, c_dyadic_Sign⟩ := ⟨Try.f81, Try.func81, by kernel_rfl⟩
theorem k_dyadic_compare : RowOk tab ⟨82, 80, c_dyadic_compare⟩ := ⟨Try.f82, Try.func82, by kernel_rfl⟩
theorem k_box_two : RowOk tab ⟨83, 81, c_box_two⟩ := ⟨Try.f83, Try.func83, by kernel_rfl⟩
theorem k_slices_EqualFunc_Interval : RowOk tab ⟨84, 82, c_slices_EqualFunc_Interval⟩ := ⟨Try.f84, Try.func84, by kernel_rfl⟩
theorem k_interval_Inside : RowOk tab ⟨85, 83, c_interval_Inside⟩ := ⟨Try.f85, Try.func85, by kernel_rfl⟩
theorem k_fpref02_left : RowOk tab ⟨86, 84, c_fpref02_left⟩ := ⟨Try.f86, Try.func86, by kernel_rfl⟩
theorem k_fpref02_Of : RowOk tab ⟨87, 85, c_fpref02_Of⟩ := ⟨Try.f87, Try.func87, by kernel_rfl⟩
theorem k_fpref02_plus : RowOk tab ⟨88, 86, c_fpref02_plus⟩ := ⟨Try.f88, Try.func88, by kernel_rfl⟩
theorem k_fpref02_minus : RowOk tab ⟨89, 87, c_fpref02_minus⟩ := ⟨Try.f89, Try.func89, by kernel_rfl⟩
theorem k_pipe_at_1 : RowOk tab ⟨90, 88, c_pipe_at_1⟩ := ⟨Try.f90, Try.func90, by kernel_rfl⟩
theorem k_slices_IndexFunc_Interval : RowOk tab ⟨91, 89, c_slices_IndexFunc_Interval⟩ := ⟨Try.f91, Try.func91, by kernel_rfl⟩
theorem k_interval_Meet : RowOk tab ⟨92, 90, c_interval_Meet⟩ := ⟨Try.f92, Try.func92, by kernel_rfl⟩
theorem k_fpref05_zero : RowOk tab ⟨93, 91, c_fpref05_zero⟩ := ⟨Try.f93, Try.func93, by kernel_rfl⟩
theorem k_fpref05_most : RowOk tab ⟨94, 92, c_fpref05_most⟩ := ⟨Try.f94, Try.func94, by kernel_rfl⟩
theorem k_fpref05_least : RowOk tab ⟨95, 93, c_fpref05_least⟩ := ⟨Try.f95, Try.func95, by kernel_rfl⟩
theorem k_interval_Hull : RowOk tab ⟨96, 94, c_interval_Hull⟩ := ⟨Try.f96, Try.func96, by kernel_rfl⟩
theorem k_fpref05_Hull : RowOk tab ⟨97, 95, c_fpref05_Hull⟩ := ⟨Try.f97, Try.func97, by kernel_rfl⟩
theorem k_interval_Valid_1 : RowOk tab ⟨98, 96, c_interval_Valid_1⟩ := ⟨Try.f98, Try.func98, by kernel_rfl⟩
theorem k_dyadic_size : RowOk tab ⟨99, 97, c_dyadic_size⟩ := ⟨Try.f99, Try.func99, by kernel_rfl⟩
theorem k_dyadic_Top : RowOk tab ⟨100, 98, c_dyadic_Top⟩ := ⟨Try.f100, Try.func100, by kernel_rfl⟩
theorem k_natural_Cmp : RowOk tab ⟨101, 99, c_natural_Cmp⟩ := ⟨Try.f101, Try.func101, by kernel_rfl⟩
theorem k_dyadic_shifted : RowOk tab ⟨102, 100, c_dyadic_shifted⟩ := ⟨Try.f102, Try.func102, by kernel_rfl⟩
theorem k_fpref02_trim : RowOk tab ⟨103, 101, c_fpref02_trim⟩ := ⟨Try.f103, Try.func103, by kernel_rfl⟩
theorem k_fpref02_zeros : RowOk tab ⟨104, 102, c_fpref02_zeros⟩ := ⟨Try.f104, Try.func104, by kernel_rfl⟩
theorem k_fpref02_right : RowOk tab ⟨105, 103, c_fpref02_right⟩ := ⟨Try.f105, Try.func105, by kernel_rfl⟩
theorem k_interval_more : RowOk tab ⟨106, 104, c_interval_more⟩ := ⟨Try.f106, Try.func106, by kernel_rfl⟩
theorem k_interval_less : RowOk tab ⟨107, 105, c_interval_less⟩ := ⟨Try.f107, Try.func107, by kernel_rfl⟩
theorem k_interval_known : RowOk tab ⟨108, 106, c_interval_known⟩ := ⟨Try.f108, Try.func108, by kernel_rfl⟩
theorem k_interval_Whole : RowOk tab ⟨109, 107, c_interval_Whole⟩ := ⟨Try.f109, Try.func109, by kernel_rfl⟩
theorem k_fpref05_known : RowOk tab ⟨110, 108, c_fpref05_known⟩ := ⟨Try.f110, Try.func110, by kernel_rfl⟩
theorem k_fpref05_Whole : RowOk tab ⟨111, 109, c_fpref05_Whole⟩ := ⟨Try.f111, Try.func111, by kernel_rfl⟩
theorem k_natural_Bits : RowOk tab ⟨112, 110, c_natural_Bits⟩ := ⟨Try.f112, Try.func112, by kernel_rfl⟩
theorem k_natural_trim : RowOk tab ⟨113, 111, c_natural_trim⟩ := ⟨Try.f113, Try.func113, by kernel_rfl⟩
theorem k_natural_Shl : RowOk tab ⟨114, 112, c_natural_Shl⟩ := ⟨Try.f114, Try.func114, by kernel_rfl⟩
theorem k_math_bits_Len32 : RowOk tab ⟨115, 113, c_math_bits_Len32⟩ := ⟨Try.f115, Try.func115, by kernel_rfl⟩
theorem k_natural_long : RowOk tab ⟨116, 114, c_natural_long⟩ := ⟨Try.f116, Try.func116, by kernel_rfl⟩
theorem k_natural_done : RowOk tab ⟨117, 115, c_natural_done⟩ := ⟨Try.f117, Try.func117, by kernel_rfl⟩
theorem k_natural_shl : RowOk tab ⟨118, 116, c_natural_shl⟩ := ⟨Try.f118, Try.func118, by kernel_rfl⟩
theorem k_slices_ContainsFunc_uint32s : RowOk tab ⟨119, 117, c_slices_ContainsFunc_uint32s⟩ := ⟨Try.f119, Try.func119, by kernel_rfl⟩
theorem k_natural_long_1 : RowOk tab ⟨120, 118, c_natural_long_1⟩ := ⟨Try.f120, Try.func120, by kernel_rfl⟩
theorem k_slices_Clip_uint32 : RowOk tab ⟨121, 119, c_slices_Clip_uint32⟩ := ⟨Try.f121, Try.func121, by kernel_rfl⟩
theorem k_slices_IndexFunc_uint32s : RowOk tab ⟨122, 120, c_slices_IndexFunc_uint32s⟩ := ⟨Try.f122, Try.func122, by kernel_rfl⟩

def rows : List Row :=
  [⟨3, 1, c_fplaw37_PipeCuts⟩,
   ⟨4, 2, c_fplaw37_PipeValid⟩,
   ⟨5, 3, c_fplaw37_PipeJoins⟩,
   ⟨6, 4, c_fplaw37_PipeFirst⟩,
   ⟨7, 5, c_fplaw37_PipeAt⟩,
   ⟨8, 6, c_fplaw37_PipeOver⟩,
   ⟨9, 7, c_fplaw37_awake⟩,
   ⟨10, 8, c_fplaw37_great⟩,
   ⟨11, 9, c_fplaw37_long⟩,
   ⟨12, 10, c_pipe_Cut⟩,
   ⟨13, 11, c_fpref37_Valid⟩,
   ⟨14, 12, c_fpref02_Valid⟩,
   ⟨15, 13, c_fplaw37_zero⟩,
   ⟨16, 14, c_fpref37_Time⟩,
   ⟨17, 15, c_fpref37_Same⟩,
   ⟨18, 16, c_fpref37_Cut⟩,
   ⟨19, 17, c_pipe_Valid⟩,
   ⟨20, 18, c_fpref02_Cmp⟩,
   ⟨21, 19, c_pipe_At⟩,
   ⟨22, 20, c_fpref37_Equal⟩,
   ⟨23, 21, c_pipe_End⟩,
   ⟨24, 22, c_pipe_All⟩,
   ⟨25, 23, c_fpref02_Equal⟩,
   ⟨26, 24, c_fpref37_Last⟩,
   ⟨27, 25, c_pipe_Join⟩,
   ⟨28, 26, c_fpref37_First⟩,
   ⟨29, 27, c_fpref37_Inside⟩,
   ⟨30, 28, c_slices_Concat_Segment⟩,
   ⟨31, 29, c_fplaw37_wide⟩,
   ⟨32, 30, c_pipe_First⟩,
   ⟨33, 31, c_fpref37_Box⟩,
   ⟨34, 32, c_slices_IndexFunc_Segment⟩,
   ⟨35, 33, c_fplaw37_PipeFirst_1⟩,
   ⟨36, 34, c_fpref37_Common⟩,
   ⟨37, 35, c_pipe_Over⟩,
   ⟨38, 36, c_fpref37_At⟩,
   ⟨39, 37, c_fpref37_Over⟩,
   ⟨40, 38, c_fplaw37_example⟩,
   ⟨41, 39, c_fplaw37_n⟩,
   ⟨42, 40, c_fplaw37_of⟩,
   ⟨43, 41, c_slices_ContainsFunc_Pipe⟩,
   ⟨44, 42, c_fplaw37_great_1⟩,
   ⟨45, 43, c_slices_ContainsFunc_Segment⟩,
   ⟨46, 44, c_fplaw37_great_1_1⟩,
   ⟨47, 45, c_pipe_copied⟩,
   ⟨48, 46, c_pipe_less⟩,
   ⟨49, 47, c_slices_Clone_Interval⟩,
   ⟨50, 48, c_fpref37_Before⟩,
   ⟨51, 49, c_fpref02_bits⟩,
   ⟨52, 50, c_box_Valid⟩,
   ⟨53, 51, c_dyadic_Valid⟩,
   ⟨54, 52, c_dyadic_Cmp⟩,
   ⟨55, 53, c_box_Inside⟩,
   ⟨56, 54, c_fpref02_Sign⟩,
   ⟨57, 55, c_fpref02_Top⟩,
   ⟨58, 56, c_fpref02_Sum⟩,
   ⟨59, 57, c_fpref02_Neg⟩,
   ⟨60, 58, c_pipe_during⟩,
   ⟨61, 59, c_pipe_at⟩,
   ⟨62, 60, c_fpref05_Equal⟩,
   ⟨63, 61, c_pipe_last⟩,
   ⟨64, 62, c_pipe_All_1⟩,
   ⟨65, 63, c_fpref02_compare⟩,
   ⟨66, 64, c_pipe_begin⟩,
   ⟨67, 65, c_fpref05_Inside⟩,
   ⟨68, 66, c_slices_Grow_Segment⟩,
   ⟨69, 67, c_slices_ContainsFunc_Interval⟩,
   ⟨70, 68, c_fplaw37_wide_1⟩,
   ⟨71, 69, c_box_Meet⟩,
   ⟨72, 70, c_fpref05_Valid⟩,
   ⟨73, 71, c_fpref05_Meet⟩,
   ⟨74, 72, c_box_Hull⟩,
   ⟨75, 73, c_fpref37_Hull⟩,
   ⟨76, 74, c_fpref02_Int⟩,
   ⟨77, 75, c_slices_IndexFunc_Pipe⟩,
   ⟨78, 76, c_box_Valid_1⟩,
   ⟨79, 77, c_interval_Valid⟩,
   ⟨80, 78, c_dyadic_inRange⟩,
   ⟨81, 79, c_dyadic_Sign⟩,
   ⟨82, 80, c_dyadic_compare⟩,
   ⟨83, 81, c_box_two⟩,
   ⟨84, 82, c_slices_EqualFunc_Interval⟩,
   ⟨85, 83, c_interval_Inside⟩,
   ⟨86, 84, c_fpref02_left⟩,
   ⟨87, 85, c_fpref02_Of⟩,
   ⟨88, 86, c_fpref02_plus⟩,
   ⟨89, 87, c_fpref02_minus⟩,
   ⟨90, 88, c_pipe_at_1⟩,
   ⟨91, 89, c_slices_IndexFunc_Interval⟩,
   ⟨92, 90, c_interval_Meet⟩,
   ⟨93, 91, c_fpref05_zero⟩,
   ⟨94, 92, c_fpref05_most⟩,
   ⟨95, 93, c_fpref05_least⟩,
   ⟨96, 94, c_interval_Hull⟩,
   ⟨97, 95, c_fpref05_Hull⟩,
   ⟨98, 96, c_interval_Valid_1⟩,
   ⟨99, 97, c_dyadic_size⟩,
   ⟨100, 98, c_dyadic_Top⟩,
   ⟨101, 99, c_natural_Cmp⟩,
   ⟨102, 100, c_dyadic_shifted⟩,
   ⟨103, 101, c_fpref02_trim⟩,
   ⟨104, 102, c_fpref02_zeros⟩,
   ⟨105, 103, c_fpref02_right⟩,
   ⟨106, 104, c_interval_more⟩,
   ⟨107, 105, c_interval_less⟩,
   ⟨108, 106, c_interval_known⟩,
   ⟨109, 107, c_interval_Whole⟩,
   ⟨110, 108, c_fpref05_known⟩,
   ⟨111, 109, c_fpref05_Whole⟩,
   ⟨112, 110, c_natural_Bits⟩,
   ⟨113, 111, c_natural_trim⟩,
   ⟨114, 112, c_natural_Shl⟩,
   ⟨115, 113, c_math_bits_Len32⟩,
   ⟨116, 114, c_natural_long⟩,
   ⟨117, 115, c_natural_done⟩,
   ⟨118, 116, c_natural_shl⟩,
   ⟨119, 117, c_slices_ContainsFunc_uint32s⟩,
   ⟨120, 118, c_natural_long_1⟩,
   ⟨121, 119, c_slices_Clip_uint32⟩,
   ⟨122, 120, c_slices_IndexFunc_uint32s⟩]

theorem rows_ok : ∀ r ∈ rows, RowOk tab r := (List.forall_mem_cons.2 ⟨k_fplaw37_PipeCuts, (List.forall_mem_cons.2 ⟨k_fplaw37_PipeValid, (List.forall_mem_cons.2 ⟨k_fplaw37_PipeJoins, (List.forall_mem_cons.2 ⟨k_fplaw37_PipeFirst, (List.forall_mem_cons.2 ⟨k_fplaw37_PipeAt, (List.forall_mem_cons.2 ⟨k_fplaw37_PipeOver, (List.forall_mem_cons.2 ⟨k_fplaw37_awake, (List.forall_mem_cons.2 ⟨k_fplaw37_great, (List.forall_mem_cons.2 ⟨k_fplaw37_long, (List.forall_mem_cons.2 ⟨k_pipe_Cut, (List.forall_mem_cons.2 ⟨k_fpref37_Valid, (List.forall_mem_cons.2 ⟨k_fpref02_Valid, (List.forall_mem_cons.2 ⟨k_fplaw37_zero, (List.forall_mem_cons.2 ⟨k_fpref37_Time, (List.forall_mem_cons.2 ⟨k_fpref37_Same, (List.forall_mem_cons.2 ⟨k_fpref37_Cut, (List.forall_mem_cons.2 ⟨k_pipe_Valid, (List.forall_mem_cons.2 ⟨k_fpref02_Cmp, (List.forall_mem_cons.2 ⟨k_pipe_At, (List.forall_mem_cons.2 ⟨k_fpref37_Equal, (List.forall_mem_cons.2 ⟨k_pipe_End, (List.forall_mem_cons.2 ⟨k_pipe_All, (List.forall_mem_cons.2 ⟨k_fpref02_Equal, (List.forall_mem_cons.2 ⟨k_fpref37_Last, (List.forall_mem_cons.2 ⟨k_pipe_Join, (List.forall_mem_cons.2 ⟨k_fpref37_First, (List.forall_mem_cons.2 ⟨k_fpref37_Inside, (List.forall_mem_cons.2 ⟨k_slices_Concat_Segment, (List.forall_mem_cons.2 ⟨k_fplaw37_wide, (List.forall_mem_cons.2 ⟨k_pipe_First, (List.forall_mem_cons.2 ⟨k_fpref37_Box, (List.forall_mem_cons.2 ⟨k_slices_IndexFunc_Segment, (List.forall_mem_cons.2 ⟨k_fplaw37_PipeFirst_1, (List.forall_mem_cons.2 ⟨k_fpref37_Common, (List.forall_mem_cons.2 ⟨k_pipe_Over, (List.forall_mem_cons.2 ⟨k_fpref37_At, (List.forall_mem_cons.2 ⟨k_fpref37_Over, (List.forall_mem_cons.2 ⟨k_fplaw37_example, (List.forall_mem_cons.2 ⟨k_fplaw37_n, (List.forall_mem_cons.2 ⟨k_fplaw37_of, (List.forall_mem_cons.2 ⟨k_slices_ContainsFunc_Pipe, (List.forall_mem_cons.2 ⟨k_fplaw37_great_1, (List.forall_mem_cons.2 ⟨k_slices_ContainsFunc_Segment, (List.forall_mem_cons.2 ⟨k_fplaw37_great_1_1, (List.forall_mem_cons.2 ⟨k_pipe_copied, (List.forall_mem_cons.2 ⟨k_pipe_less, (List.forall_mem_cons.2 ⟨k_slices_Clone_Interval, (List.forall_mem_cons.2 ⟨k_fpref37_Before, (List.forall_mem_cons.2 ⟨k_fpref02_bits, (List.forall_mem_cons.2 ⟨k_box_Valid, (List.forall_mem_cons.2 ⟨k_dyadic_Valid, (List.forall_mem_cons.2 ⟨k_dyadic_Cmp, (List.forall_mem_cons.2 ⟨k_box_Inside, (List.forall_mem_cons.2 ⟨k_fpref02_Sign, (List.forall_mem_cons.2 ⟨k_fpref02_Top, (List.forall_mem_cons.2 ⟨k_fpref02_Sum, (List.forall_mem_cons.2 ⟨k_fpref02_Neg, (List.forall_mem_cons.2 ⟨k_pipe_during, (List.forall_mem_cons.2 ⟨k_pipe_at, (List.forall_mem_cons.2 ⟨k_fpref05_Equal, (List.forall_mem_cons.2 ⟨k_pipe_last, (List.forall_mem_cons.2 ⟨k_pipe_All_1, (List.forall_mem_cons.2 ⟨k_fpref02_compare, (List.forall_mem_cons.2 ⟨k_pipe_begin, (List.forall_mem_cons.2 ⟨k_fpref05_Inside, (List.forall_mem_cons.2 ⟨k_slices_Grow_Segment, (List.forall_mem_cons.2 ⟨k_slices_ContainsFunc_Interval, (List.forall_mem_cons.2 ⟨k_fplaw37_wide_1, (List.forall_mem_cons.2 ⟨k_box_Meet, (List.forall_mem_cons.2 ⟨k_fpref05_Valid, (List.forall_mem_cons.2 ⟨k_fpref05_Meet, (List.forall_mem_cons.2 ⟨k_box_Hull, (List.forall_mem_cons.2 ⟨k_fpref37_Hull, (List.forall_mem_cons.2 ⟨k_fpref02_Int, (List.forall_mem_cons.2 ⟨k_slices_IndexFunc_Pipe, (List.forall_mem_cons.2 ⟨k_box_Valid_1, (List.forall_mem_cons.2 ⟨k_interval_Valid, (List.forall_mem_cons.2 ⟨k_dyadic_inRange, (List.forall_mem_cons.2 ⟨k_dyadic_Sign, (List.forall_mem_cons.2 ⟨k_dyadic_compare, (List.forall_mem_cons.2 ⟨k_box_two, (List.forall_mem_cons.2 ⟨k_slices_EqualFunc_Interval, (List.forall_mem_cons.2 ⟨k_interval_Inside, (List.forall_mem_cons.2 ⟨k_fpref02_left, (List.forall_mem_cons.2 ⟨k_fpref02_Of, (List.forall_mem_cons.2 ⟨k_fpref02_plus, (List.forall_mem_cons.2 ⟨k_fpref02_minus, (List.forall_mem_cons.2 ⟨k_pipe_at_1, (List.forall_mem_cons.2 ⟨k_slices_IndexFunc_Interval, (List.forall_mem_cons.2 ⟨k_interval_Meet, (List.forall_mem_cons.2 ⟨k_fpref05_zero, (List.forall_mem_cons.2 ⟨k_fpref05_most, (List.forall_mem_cons.2 ⟨k_fpref05_least, (List.forall_mem_cons.2 ⟨k_interval_Hull, (List.forall_mem_cons.2 ⟨k_fpref05_Hull, (List.forall_mem_cons.2 ⟨k_interval_Valid_1, (List.forall_mem_cons.2 ⟨k_dyadic_size, (List.forall_mem_cons.2 ⟨k_dyadic_Top, (List.forall_mem_cons.2 ⟨k_natural_Cmp, (List.forall_mem_cons.2 ⟨k_dyadic_shifted, (List.forall_mem_cons.2 ⟨k_fpref02_trim, (List.forall_mem_cons.2 ⟨k_fpref02_zeros, (List.forall_mem_cons.2 ⟨k_fpref02_right, (List.forall_mem_cons.2 ⟨k_interval_more, (List.forall_mem_cons.2 ⟨k_interval_less, (List.forall_mem_cons.2 ⟨k_interval_known, (List.forall_mem_cons.2 ⟨k_interval_Whole, (List.forall_mem_cons.2 ⟨k_fpref05_known, (List.forall_mem_cons.2 ⟨k_fpref05_Whole, (List.forall_mem_cons.2 ⟨k_natural_Bits, (List.forall_mem_cons.2 ⟨k_natural_trim, (List.forall_mem_cons.2 ⟨k_natural_Shl, (List.forall_mem_cons.2 ⟨k_math_bits_Len32, (List.forall_mem_cons.2 ⟨k_natural_long, (List.forall_mem_cons.2 ⟨k_natural_done, (List.forall_mem_cons.2 ⟨k_natural_shl, (List.forall_mem_cons.2 ⟨k_slices_ContainsFunc_uint32s, (List.forall_mem_cons.2 ⟨k_natural_long_1, (List.forall_mem_cons.2 ⟨k_slices_Clip_uint32, (List.forall_mem_cons.2 ⟨k_slices_IndexFunc_uint32s, (by simp)⟩)⟩)⟩)⟩)⟩)⟩)⟩)⟩)⟩)⟩)⟩)⟩)⟩)⟩)⟩)⟩)⟩)⟩)⟩)⟩)⟩)⟩)⟩)⟩)⟩)⟩)⟩)⟩)⟩)⟩)⟩)⟩)⟩)⟩)⟩)⟩)⟩)⟩)⟩)⟩)⟩)⟩)⟩)⟩)⟩)⟩)⟩)⟩)⟩)⟩)⟩)⟩)⟩)⟩)⟩)⟩)⟩)⟩)⟩)⟩)⟩)⟩)⟩)⟩)⟩)⟩)⟩)⟩)⟩)⟩)⟩)⟩)⟩)⟩)⟩)⟩)⟩)⟩)⟩)⟩)⟩)⟩)⟩)⟩)⟩)⟩)⟩)⟩)⟩)⟩)⟩)⟩)⟩)⟩)⟩)⟩)⟩)⟩)⟩)⟩)⟩)⟩)⟩)⟩)⟩)⟩)⟩)⟩)⟩)⟩)⟩)⟩)⟩)⟩)⟩)⟩)⟩)⟩)⟩)⟩)
theorem s_fplaw37_PipeCuts : look fnList 1 = some c_fplaw37_PipeCuts := by kernel_rfl
theorem s_fplaw37_PipeValid : look fnList 2 = some c_fplaw37_PipeValid := by kernel_rfl
theorem s_fplaw37_PipeJoins : look fnList 3 = some c_fplaw37_PipeJoins := by kernel_rfl
theorem s_fplaw37_PipeFirst : look fnList 4 = some c_fplaw37_PipeFirst := by kernel_rfl
theorem s_fplaw37_PipeAt : look fnList 5 = some c_fplaw37_PipeAt := by kernel_rfl
theorem s_fplaw37_PipeOver : look fnList 6 = some c_fplaw37_PipeOver := by kernel_rfl
theorem s_fplaw37_awake : look fnList 7 = some c_fplaw37_awake := by kernel_rfl
theorem s_fplaw37_great : look fnList 8 = some c_fplaw37_great := by kernel_rfl
theorem s_fplaw37_long : look fnList 9 = some c_fplaw37_long := by kernel_rfl
theorem s_pipe_Cut : look fnList 10 = some c_pipe_Cut := by kernel_rfl
theorem s_fpref37_Valid : look fnList 11 = some c_fpref37_Valid := by kernel_rfl
theorem s_fpref02_Valid : look fnList 12 = some c_fpref02_Valid := by kernel_rfl
theorem s_fplaw37_zero : look fnList 13 = some c_fplaw37_zero := by kernel_rfl
theorem s_fpref37_Time : look fnList 14 = some c_fpref37_Time := by kernel_rfl
theorem s_fpref37_Same : look fnList 15 = some c_fpref37_Same := by kernel_rfl
theorem s_fpref37_Cut : look fnList 16 = some c_fpref37_Cut := by kernel_rfl
theorem s_pipe_Valid : look fnList 17 = some c_pipe_Valid := by kernel_rfl
theorem s_fpref02_Cmp : look fnList 18 = some c_fpref02_Cmp := by kernel_rfl
theorem s_pipe_At : look fnList 19 = some c_pipe_At := by kernel_rfl
theorem s_fpref37_Equal : look fnList 20 = some c_fpref37_Equal := by kernel_rfl
theorem s_pipe_End : look fnList 21 = some c_pipe_End := by kernel_rfl
theorem s_pipe_All : look fnList 22 = some c_pipe_All := by kernel_rfl
theorem s_fpref02_Equal : look fnList 23 = some c_fpref02_Equal := by kernel_rfl
theorem s_fpref37_Last : look fnList 24 = some c_fpref37_Last := by kernel_rfl
theorem s_pipe_Join : look fnList 25 = some c_pipe_Join := by kernel_rfl
theorem s_fpref37_First : look fnList 26 = some c_fpref37_First := by kernel_rfl
theorem s_fpref37_Inside : look fnList 27 = some c_fpref37_Inside := by kernel_rfl
theorem s_slices_Concat_Segment : look fnList 28 = some c_slices_Concat_Segment := by kernel_rfl
theorem s_fplaw37_wide : look fnList 29 = some c_fplaw37_wide := by kernel_rfl
theorem s_pipe_First : look fnList 30 = some c_pipe_First := by kernel_rfl
theorem s_fpref37_Box : look fnList 31 = some c_fpref37_Box := by kernel_rfl
theorem s_slices_IndexFunc_Segment : look fnList 32 = some c_slices_IndexFunc_Segment := by kernel_rfl
theorem s_fplaw37_PipeFirst_1 : look fnList 33 = some c_fplaw37_PipeFirst_1 := by kernel_rfl
theorem s_fpref37_Common : look fnList 34 = some c_fpref37_Common := by kernel_rfl
theorem s_pipe_Over : look fnList 35 = some c_pipe_Over := by kernel_rfl
theorem s_fpref37_At : look fnList 36 = some c_fpref37_At := by kernel_rfl
theorem s_fpref37_Over : look fnList 37 = some c_fpref37_Over := by kernel_rfl
theorem s_fplaw37_example : look fnList 38 = some c_fplaw37_example := by kernel_rfl
theorem s_fplaw37_n : look fnList 39 = some c_fplaw37_n := by kernel_rfl
theorem s_fplaw37_of : look fnList 40 = some c_fplaw37_of := by kernel_rfl
theorem s_slices_ContainsFunc_Pipe : look fnList 41 = some c_slices_ContainsFunc_Pipe := by kernel_rfl
theorem s_fplaw37_great_1 : look fnList 42 = some c_fplaw37_great_1 := by kernel_rfl
theorem s_slices_ContainsFunc_Segment : look fnList 43 = some c_slices_ContainsFunc_Segment := by kernel_rfl
theorem s_fplaw37_great_1_1 : look fnList 44 = some c_fplaw37_great_1_1 := by kernel_rfl
theorem s_pipe_copied : look fnList 45 = some c_pipe_copied := by kernel_rfl
theorem s_pipe_less : look fnList 46 = some c_pipe_less := by kernel_rfl
theorem s_slices_Clone_Interval : look fnList 47 = some c_slices_Clone_Interval := by kernel_rfl
theorem s_fpref37_Before : look fnList 48 = some c_fpref37_Before := by kernel_rfl
theorem s_fpref02_bits : look fnList 49 = some c_fpref02_bits := by kernel_rfl
theorem s_box_Valid : look fnList 50 = some c_box_Valid := by kernel_rfl
theorem s_dyadic_Valid : look fnList 51 = some c_dyadic_Valid := by kernel_rfl
theorem s_dyadic_Cmp : look fnList 52 = some c_dyadic_Cmp := by kernel_rfl
theorem s_box_Inside : look fnList 53 = some c_box_Inside := by kernel_rfl
theorem s_fpref02_Sign : look fnList 54 = some c_fpref02_Sign := by kernel_rfl
theorem s_fpref02_Top : look fnList 55 = some c_fpref02_Top := by kernel_rfl
theorem s_fpref02_Sum : look fnList 56 = some c_fpref02_Sum := by kernel_rfl
theorem s_fpref02_Neg : look fnList 57 = some c_fpref02_Neg := by kernel_rfl
theorem s_pipe_during : look fnList 58 = some c_pipe_during := by kernel_rfl
theorem s_pipe_at : look fnList 59 = some c_pipe_at := by kernel_rfl
theorem s_fpref05_Equal : look fnList 60 = some c_fpref05_Equal := by kernel_rfl
theorem s_pipe_last : look fnList 61 = some c_pipe_last := by kernel_rfl
theorem s_pipe_All_1 : look fnList 62 = some c_pipe_All_1 := by kernel_rfl
theorem s_fpref02_compare : look fnList 63 = some c_fpref02_compare := by kernel_rfl
theorem s_pipe_begin : look fnList 64 = some c_pipe_begin := by kernel_rfl
theorem s_fpref05_Inside : look fnList 65 = some c_fpref05_Inside := by kernel_rfl
theorem s_slices_Grow_Segment : look fnList 66 = some c_slices_Grow_Segment := by kernel_rfl
theorem s_slices_ContainsFunc_Interval : look fnList 67 = some c_slices_ContainsFunc_Interval := by kernel_rfl
theorem s_fplaw37_wide_1 : look fnList 68 = some c_fplaw37_wide_1 := by kernel_rfl
theorem s_box_Meet : look fnList 69 = some c_box_Meet := by kernel_rfl
theorem s_fpref05_Valid : look fnList 70 = some c_fpref05_Valid := by kernel_rfl
theorem s_fpref05_Meet : look fnList 71 = some c_fpref05_Meet := by kernel_rfl
theorem s_box_Hull : look fnList 72 = some c_box_Hull := by kernel_rfl
theorem s_fpref37_Hull : look fnList 73 = some c_fpref37_Hull := by kernel_rfl
theorem s_fpref02_Int : look fnList 74 = some c_fpref02_Int := by kernel_rfl
theorem s_slices_IndexFunc_Pipe : look fnList 75 = some c_slices_IndexFunc_Pipe := by kernel_rfl
theorem s_box_Valid_1 : look fnList 76 = some c_box_Valid_1 := by kernel_rfl
theorem s_interval_Valid : look fnList 77 = some c_interval_Valid := by kernel_rfl
theorem s_dyadic_inRange : look fnList 78 = some c_dyadic_inRange := by kernel_rfl
theorem s_dyadic_Sign : look fnList 79 = some c_dyadic_Sign := by kernel_rfl
theorem s_dyadic_compare : look fnList 80 = some c_dyadic_compare := by kernel_rfl
theorem s_box_two : look fnList 81 = some c_box_two := by kernel_rfl
theorem s_slices_EqualFunc_Interval : look fnList 82 = some c_slices_EqualFunc_Interval := by kernel_rfl
theorem s_interval_Inside : look fnList 83 = some c_interval_Inside := by kernel_rfl
theorem s_fpref02_left : look fnList 84 = some c_fpref02_left := by kernel_rfl
theorem s_fpref02_Of : look fnList 85 = some c_fpref02_Of := by kernel_rfl
theorem s_fpref02_plus : look fnList 86 = some c_fpref02_plus := by kernel_rfl
theorem s_fpref02_minus : look fnList 87 = some c_fpref02_minus := by kernel_rfl
theorem s_pipe_at_1 : look fnList 88 = some c_pipe_at_1 := by kernel_rfl
theorem s_slices_IndexFunc_Interval : look fnList 89 = some c_slices_IndexFunc_Interval := by kernel_rfl
theorem s_interval_Meet : look fnList 90 = some c_interval_Meet := by kernel_rfl
theorem s_fpref05_zero : look fnList 91 = some c_fpref05_zero := by kernel_rfl
theorem s_fpref05_most : look fnList 92 = some c_fpref05_most := by kernel_rfl
theorem s_fpref05_least : look fnList 93 = some c_fpref05_least := by kernel_rfl
theorem s_interval_Hull : look fnList 94 = some c_interval_Hull := by kernel_rfl
theorem s_fpref05_Hull : look fnList 95 = some c_fpref05_Hull := by kernel_rfl
theorem s_interval_Valid_1 : look fnList 96 = some c_interval_Valid_1 := by kernel_rfl
theorem s_dyadic_size : look fnList 97 = some c_dyadic_size := by kernel_rfl
theorem s_dyadic_Top : look fnList 98 = some c_dyadic_Top := by kernel_rfl
theorem s_natural_Cmp : look fnList 99 = some c_natural_Cmp := by kernel_rfl
theorem s_dyadic_shifted : look fnList 100 = some c_dyadic_shifted := by kernel_rfl
theorem s_fpref02_trim : look fnList 101 = some c_fpref02_trim := by kernel_rfl
theorem s_fpref02_zeros : look fnList 102 = some c_fpref02_zeros := by kernel_rfl
theorem s_fpref02_right : look fnList 103 = some c_fpref02_right := by kernel_rfl
theorem s_interval_more : look fnList 104 = some c_interval_more := by kernel_rfl
theorem s_interval_less : look fnList 105 = some c_interval_less := by kernel_rfl
theorem s_interval_known : look fnList 106 = some c_interval_known := by kernel_rfl
theorem s_interval_Whole : look fnList 107 = some c_interval_Whole := by kernel_rfl
theorem s_fpref05_known : look fnList 108 = some c_fpref05_known := by kernel_rfl
theorem s_fpref05_Whole : look fnList 109 = some c_fpref05_Whole := by kernel_rfl
theorem s_natural_Bits : look fnList 110 = some c_natural_Bits := by kernel_rfl
theorem s_natural_trim : look fnList 111 = some c_natural_trim := by kernel_rfl
theorem s_natural_Shl : look fnList 112 = some c_natural_Shl := by kernel_rfl
theorem s_math_bits_Len32 : look fnList 113 = some c_math_bits_Len32 := by kernel_rfl
theorem s_natural_long : look fnList 114 = some c_natural_long := by kernel_rfl
theorem s_natural_done : look fnList 115 = some c_natural_done := by kernel_rfl
theorem s_natural_shl : look fnList 116 = some c_natural_shl := by kernel_rfl
theorem s_slices_ContainsFunc_uint32s : look fnList 117 = some c_slices_ContainsFunc_uint32s := by kernel_rfl
theorem s_natural_long_1 : look fnList 118 = some c_natural_long_1 := by kernel_rfl
theorem s_slices_Clip_uint32 : look fnList 119 = some c_slices_Clip_uint32 := by kernel_rfl
theorem s_slices_IndexFunc_uint32s : look fnList 120 = some c_slices_IndexFunc_uint32s := by kernel_rfl

theorem rows_same : ∀ r ∈ rows, look fnList r.gid = some r.fn := (List.forall_mem_cons.2 ⟨s_fplaw37_PipeCuts, (List.forall_mem_cons.2 ⟨s_fplaw37_PipeValid, (List.forall_mem_cons.2 ⟨s_fplaw37_PipeJoins, (List.forall_mem_cons.2 ⟨s_fplaw37_PipeFirst, (List.forall_mem_cons.2 ⟨s_fplaw37_PipeAt, (List.forall_mem_cons.2 ⟨s_fplaw37_PipeOver, (List.forall_mem_cons.2 ⟨s_fplaw37_awake, (List.forall_mem_cons.2 ⟨s_fplaw37_great, (List.forall_mem_cons.2 ⟨s_fplaw37_long, (List.forall_mem_cons.2 ⟨s_pipe_Cut, (List.forall_mem_cons.2 ⟨s_fpref37_Valid, (List.forall_mem_cons.2 ⟨s_fpref02_Valid, (List.forall_mem_cons.2 ⟨s_fplaw37_zero, (List.forall_mem_cons.2 ⟨s_fpref37_Time, (List.forall_mem_cons.2 ⟨s_fpref37_Same, (List.forall_mem_cons.2 ⟨s_fpref37_Cut, (List.forall_mem_cons.2 ⟨s_pipe_Valid, (List.forall_mem_cons.2 ⟨s_fpref02_Cmp, (List.forall_mem_cons.2 ⟨s_pipe_At, (List.forall_mem_cons.2 ⟨s_fpref37_Equal, (List.forall_mem_cons.2 ⟨s_pipe_End, (List.forall_mem_cons.2 ⟨s_pipe_All, (List.forall_mem_cons.2 ⟨s_fpref02_Equal, (List.forall_mem_cons.2 ⟨s_fpref37_Last, (List.forall_mem_cons.2 ⟨s_pipe_Join, (List.forall_mem_cons.2 ⟨s_fpref37_First, (List.forall_mem_cons.2 ⟨s_fpref37_Inside, (List.forall_mem_cons.2 ⟨s_slices_Concat_Segment, (List.forall_mem_cons.2 ⟨s_fplaw37_wide, (List.forall_mem_cons.2 ⟨s_pipe_First, (List.forall_mem_cons.2 ⟨s_fpref37_Box, (List.forall_mem_cons.2 ⟨s_slices_IndexFunc_Segment, (List.forall_mem_cons.2 ⟨s_fplaw37_PipeFirst_1, (List.forall_mem_cons.2 ⟨s_fpref37_Common, (List.forall_mem_cons.2 ⟨s_pipe_Over, (List.forall_mem_cons.2 ⟨s_fpref37_At, (List.forall_mem_cons.2 ⟨s_fpref37_Over, (List.forall_mem_cons.2 ⟨s_fplaw37_example, (List.forall_mem_cons.2 ⟨s_fplaw37_n, (List.forall_mem_cons.2 ⟨s_fplaw37_of, (List.forall_mem_cons.2 ⟨s_slices_ContainsFunc_Pipe, (List.forall_mem_cons.2 ⟨s_fplaw37_great_1, (List.forall_mem_cons.2 ⟨s_slices_ContainsFunc_Segment, (List.forall_mem_cons.2 ⟨s_fplaw37_great_1_1, (List.forall_mem_cons.2 ⟨s_pipe_copied, (List.forall_mem_cons.2 ⟨s_pipe_less, (List.forall_mem_cons.2 ⟨s_slices_Clone_Interval, (List.forall_mem_cons.2 ⟨s_fpref37_Before, (List.forall_mem_cons.2 ⟨s_fpref02_bits, (List.forall_mem_cons.2 ⟨s_box_Valid, (List.forall_mem_cons.2 ⟨s_dyadic_Valid, (List.forall_mem_cons.2 ⟨s_dyadic_Cmp, (List.forall_mem_cons.2 ⟨s_box_Inside, (List.forall_mem_cons.2 ⟨s_fpref02_Sign, (List.forall_mem_cons.2 ⟨s_fpref02_Top, (List.forall_mem_cons.2 ⟨s_fpref02_Sum, (List.forall_mem_cons.2 ⟨s_fpref02_Neg, (List.forall_mem_cons.2 ⟨s_pipe_during, (List.forall_mem_cons.2 ⟨s_pipe_at, (List.forall_mem_cons.2 ⟨s_fpref05_Equal, (List.forall_mem_cons.2 ⟨s_pipe_last, (List.forall_mem_cons.2 ⟨s_pipe_All_1, (List.forall_mem_cons.2 ⟨s_fpref02_compare, (List.forall_mem_cons.2 ⟨s_pipe_begin, (List.forall_mem_cons.2 ⟨s_fpref05_Inside, (List.forall_mem_cons.2 ⟨s_slices_Grow_Segment, (List.forall_mem_cons.2 ⟨s_slices_ContainsFunc_Interval, (List.forall_mem_cons.2 ⟨s_fplaw37_wide_1, (List.forall_mem_cons.2 ⟨s_box_Meet, (List.forall_mem_cons.2 ⟨s_fpref05_Valid, (List.forall_mem_cons.2 ⟨s_fpref05_Meet, (List.forall_mem_cons.2 ⟨s_box_Hull, (List.forall_mem_cons.2 ⟨s_fpref37_Hull, (List.forall_mem_cons.2 ⟨s_fpref02_Int, (List.forall_mem_cons.2 ⟨s_slices_IndexFunc_Pipe, (List.forall_mem_cons.2 ⟨s_box_Valid_1, (List.forall_mem_cons.2 ⟨s_interval_Valid, (List.forall_mem_cons.2 ⟨s_dyadic_inRange, (List.forall_mem_cons.2 ⟨s_dyadic_Sign, (List.forall_mem_cons.2 ⟨s_dyadic_compare, (List.forall_mem_cons.2 ⟨s_box_two, (List.forall_mem_cons.2 ⟨s_slices_EqualFunc_Interval, (List.forall_mem_cons.2 ⟨s_interval_Inside, (List.forall_mem_cons.2 ⟨s_fpref02_left, (List.forall_mem_cons.2 ⟨s_fpref02_Of, (List.forall_mem_cons.2 ⟨s_fpref02_plus, (List.forall_mem_cons.2 ⟨s_fpref02_minus, (List.forall_mem_cons.2 ⟨s_pipe_at_1, (List.forall_mem_cons.2 ⟨s_slices_IndexFunc_Interval, (List.forall_mem_cons.2 ⟨s_interval_Meet, (List.forall_mem_cons.2 ⟨s_fpref05_zero, (List.forall_mem_cons.2 ⟨s_fpref05_most, (List.forall_mem_cons.2 ⟨s_fpref05_least, (List.forall_mem_cons.2 ⟨s_interval_Hull, (List.forall_mem_cons.2 ⟨s_fpref05_Hull, (List.forall_mem_cons.2 ⟨s_interval_Valid_1, (List.forall_mem_cons.2 ⟨s_dyadic_size, (List.forall_mem_cons.2 ⟨s_dyadic_Top, (List.forall_mem_cons.2 ⟨s_natural_Cmp, (List.forall_mem_cons.2 ⟨s_dyadic_shifted, (List.forall_mem_cons.2 ⟨s_fpref02_trim, (List.forall_mem_cons.2 ⟨s_fpref02_zeros, (List.forall_mem_cons.2 ⟨s_fpref02_right, (List.forall_mem_cons.2 ⟨s_interval_more, (List.forall_mem_cons.2 ⟨s_interval_less, (List.forall_mem_cons.2 ⟨s_interval_known, (List.forall_mem_cons.2 ⟨s_interval_Whole, (List.forall_mem_cons.2 ⟨s_fpref05_known, (List.forall_mem_cons.2 ⟨s_fpref05_Whole, (List.forall_mem_cons.2 ⟨s_natural_Bits, (List.forall_mem_cons.2 ⟨s_natural_trim, (List.forall_mem_cons.2 ⟨s_natural_Shl, (List.forall_mem_cons.2 ⟨s_math_bits_Len32, (List.forall_mem_cons.2 ⟨s_natural_long, (List.forall_mem_cons.2 ⟨s_natural_done, (List.forall_mem_cons.2 ⟨s_natural_shl, (List.forall_mem_cons.2 ⟨s_slices_ContainsFunc_uint32s, (List.forall_mem_cons.2 ⟨s_natural_long_1, (List.forall_mem_cons.2 ⟨s_slices_Clip_uint32, (List.forall_mem_cons.2 ⟨s_slices_IndexFunc_uint32s, (by simp)⟩)⟩)⟩)⟩)⟩)⟩)⟩)⟩)⟩)⟩)⟩)⟩)⟩)⟩)⟩)⟩)⟩)⟩)⟩)⟩)⟩)⟩)⟩)⟩)⟩)⟩)⟩)⟩)⟩)⟩)⟩)⟩)⟩)⟩)⟩)⟩)⟩)⟩)⟩)⟩)⟩)⟩)⟩)⟩)⟩)⟩)⟩)⟩)⟩)⟩)⟩)⟩)⟩)⟩)⟩)⟩)⟩)⟩)⟩)⟩)⟩)⟩)⟩)⟩)⟩)⟩)⟩)⟩)⟩)⟩)⟩)⟩)⟩)⟩)⟩)⟩)⟩)⟩)⟩)⟩)⟩)⟩)⟩)⟩)⟩)⟩)⟩)⟩)⟩)⟩)⟩)⟩)⟩)⟩)⟩)⟩)⟩)⟩)⟩)⟩)⟩)⟩)⟩)⟩)⟩)⟩)⟩)⟩)⟩)⟩)⟩)⟩)⟩)⟩)⟩)⟩)⟩)⟩)⟩)⟩)

theorem tab_mixed : tab.P.follows .mixedOrders = true := by kernel_rfl

theorem tab_fns : ∀ fid g f, tab.gid fid = some g → prog.fn g = some f → ∃ fn C, tab.P.funcs[fid]? = some fn ∧ fn.name ≠ "runtime.NumGoroutine" ∧ fn.body = some C ∧ comp tab fn.ntmps C = some f.body ∧ cRVs tab fn.results.toList = some f.results :=
  fns_of_rows (l := gidList) rfl (fns := fnList) (S := prog) rfl rows rows_ok (by kernel_rfl) rows_same

end Go.Abs
/- From a row's arguments to abstract values, and from the abstract answer back to the row. -/
namespace Go.Abs
open Go.ChangeShapes Go.RowKit

/-- Cells and abstract cells, one by one, where nothing is written any more. -/
def RPs (gid : Gid) (w : World) (cs : List Value) (vs : List V) : Prop :=
  cs.length = vs.length ∧ ∀ (i : Nat) (x : Value) (c : V), cs[i]? = some x → vs[i]? = some c → RP gid w (fun _ => False) x c

section
variable {H : Type} {enc : TypeId × Value → H} {P : Program} {w : World} {gid : Gid}

theorem RPs.nil : RPs gid w [] [] := ⟨rfl, by simp⟩
theorem RPs.one {x : Value} {c : V} (h : RP gid w (fun _ => False) x c) : RPs gid w [x] [c] := by
  refine ⟨rfl, fun i y d hy hd => ?_⟩
  cases i with
  | zero => simp at hy hd; subst hy; subst hd; exact h
  | succ i => simp at hy

theorem RPs.append {a b : List Value} {c d : List V} (h : RPs gid w a c) (k : RPs gid w b d) : RPs gid w (a ++ b) (c ++ d) := by
  refine ⟨by simp [h.1, k.1], fun i x y hx hy => ?_⟩
  by_cases hi : i < a.length
  · rw [List.getElem?_append_left hi] at hx
    rw [List.getElem?_append_left (by rw [← h.1]; exact hi)] at hy
    exact h.2 i x y hx hy
  · rw [List.getElem?_append_right (by omega)] at hx
    rw [List.getElem?_append_right (by rw [← h.1]; omega), ← h.1] at hy
    exact k.2 _ x y hx hy

/-- What a type's cells read as: an abstract value of the kind Q. -/
def Rd (enc : TypeId × Value → H) (P : Program) (w : World) (gid : Gid) (t : TypeId) (Q : V → Prop) : Prop :=
  ∀ (fuel : Nat) (cs : List Value) (d : DataW H) (ps : List MemPlace), DataW.trod enc P w 0 (fun _ => true) true fuel t cs = some (d, ps) → ∃ v, Q v ∧ v.isTup = false ∧ RPs gid w cs v.cells

theorem Rd.mono {t : TypeId} {Q Q' : V → Prop} (h : Rd enc P w gid t Q) (hq : ∀ v, Q v → Q' v) : Rd enc P w gid t Q' := fun fuel cs d ps e => by
  obtain ⟨v, h1, h2, h3⟩ := h fuel cs d ps e
  exact ⟨v, hq v h1, h2, h3⟩

theorem rd_bool {t : TypeId} (ht : P.underlying t = some .bool) : Rd enc P w gid t (fun v => ∃ b, v = .bool b) := by
  intro fuel cs d ps h
  cases fuel with
  | zero => cases h
  | succ fuel =>
    unfold DataW.trod at h
    rw [ht] at h
    simp only at h
    split at h <;> rename_i h1 <;> try (cases h1; done)
    · exact ⟨_, ⟨_, rfl⟩, rfl, .one (.bool _)⟩
    all_goals (try (simp at h1; done))
    cases h

theorem rd_int {t : TypeId} {k : IntKind} (ht : P.underlying t = some (.int k)) : Rd enc P w gid t (fun v => ∃ n, v = .int k n ∧ k.min ≤ n ∧ n ≤ k.max) := by
  intro fuel cs d ps h
  cases fuel with
  | zero => cases h
  | succ fuel =>
    unfold DataW.trod at h
    rw [ht] at h
    simp only at h
    split at h <;> rename_i h1 <;> try (cases h1; done)
    · injection h1 with h1; injection h1 with h1
      subst h1
      split at h
      · rename_i hc
        obtain ⟨rfl, hw⟩ := hc
        simp only [Lit.wf, Bool.and_eq_true, decide_eq_true_eq] at hw
        exact ⟨_, ⟨_, rfl, hw.1, hw.2⟩, rfl, .one (.int _ _)⟩
      · cases h
    all_goals (try (simp at h1; done))
    cases h

theorem mapM_some {α β : Type} {f : α → Option β} : ∀ {l : List α} {r : List β}, l.mapM f = some r → l.length = r.length ∧ ∀ (i : Nat) (a : α) (b : β), l[i]? = some a → r[i]? = some b → f a = some b := by
  intro l
  induction l with
  | nil => intro r h; simp at h; subst h; exact ⟨rfl, by simp⟩
  | cons x xs ih =>
    intro r h
    rw [List.mapM_cons] at h
    simp only [Option.bind_eq_bind, Option.bind_eq_some_iff, Option.pure_def, Option.some.injEq] at h
    obtain ⟨y, h1, ys, h2, h3⟩ := h
    subst h3
    obtain ⟨e1, e2⟩ := ih h2
    refine ⟨by simp [e1], fun i a b ha hb => ?_⟩
    cases i with
    | zero => simp at ha hb; subst ha; subst hb; exact h1
    | succ i => exact e2 i a b (by simpa using ha) (by simpa using hb)

theorem choose_list {α : Type} {R : Nat → α → Prop} : ∀ (n : Nat), (∀ i, i < n → ∃ a, R i a) → ∃ l : List α, l.length = n ∧ ∀ (i : Nat) (a : α), l[i]? = some a → R i a
  | 0, _ => ⟨[], rfl, by simp⟩
  | n + 1, h => by
    obtain ⟨l, h1, h2⟩ := choose_list (R := R) n (fun i hi => h i (by omega))
    obtain ⟨a, ha⟩ := h n (by omega)
    refine ⟨l ++ [a], by simp [h1], fun i b hb => ?_⟩
    by_cases hi : i < l.length
    · rw [List.getElem?_append_left hi] at hb; exact h2 i b hb
    · have hin : i = n := by
        have := (List.getElem?_eq_some_iff.1 hb).1
        simp at this; omega
      subst hin
      rw [List.getElem?_append_right (by omega)] at hb
      simp [h1] at hb
      subst hb
      exact ha

theorem cell_lt {a : Addr} {v : Value} (h : w.cell? a = some v) : a.block < w.heap.size ∧ a.spot = none := by
  unfold World.cell? at h
  split at h
  · rename_i c e fr hw
    split at h
    · cases h
    · rename_i hs
      exact ⟨(Array.getElem?_eq_some_iff.1 hw).1, by cases hq : a.spot <;> simp [hq] at hs ⊢⟩
  · cases h

theorem add_flat {a : Addr} (h : a.spot = none) (n : Nat) : a.add n = ⟨a.block, a.off + n, none⟩ := by
  unfold Addr.add
  split
  · rename_i e; subst e; cases a; simp at h; subst h; rfl
  · rfl

theorem rd_slice {t e : TypeId} {z : Nat} {Q : V → Prop} (ht : P.underlying t = some (.slice e)) (hz : P.cellsOf e = z) (h0 : 0 < z) (hQ : Rd enc P w gid e Q) (hlen : ∀ v, Q v → v.cells.length = z) :
    Rd enc P w gid t (fun v => ∃ l : List V, v = .sl l ∧ (∀ x ∈ l, Q x) ∧ l.length ≤ maxLen) := by
  intro fuel cs d ps h
  cases fuel with
  | zero => cases h
  | succ fuel =>
    unfold DataW.trod at h
    rw [ht] at h
    simp only at h
    split at h <;> rename_i h1 <;> try (cases h1; done)
    all_goals (try (simp at h1; done))
    · exact ⟨.sl [], ⟨[], rfl, by simp, by simp⟩, rfl, .one .sl0⟩
    · rename_i a len cap
      injection h1 with h1; injection h1 with h1
      subst h1
      split at h
      · rename_i hc
        simp only [Option.bind_eq_some_iff, Option.map_eq_some_iff] at h
        obtain ⟨elems, h2, rest, h3, h4⟩ := h
        obtain ⟨e1, e2⟩ := mapM_some h2
        simp at e1
        have row0 : ∀ i, i < len → ∃ row v, (Q v ∧ v.isTup = false ∧ v.cells.length = z) ∧ RPs gid w row v.cells ∧ row.length = z ∧ ∀ j x, row[j]? = some x → w.cell? ((a.add (i * z)).add j) = some x := by
          intro i hi
          have hel := e2 i i (elems[i]'(by omega)) (by simp [hi]) (List.getElem?_eq_getElem _)
          obtain ⟨row, g1, g2⟩ := Option.bind_eq_some_iff.1 hel
          obtain ⟨v, q1, q2, q3⟩ := hQ fuel row _ _ g2
          have hl := hlen v q1
          unfold World.cells? at g1
          rw [if_pos (Nat.zero_le _), hz] at g1
          obtain ⟨m1, m2⟩ := mapM_some g1
          simp at m1
          refine ⟨row, v, ⟨q1, q2, hl⟩, q3, m1.symm, fun j x hj => ?_⟩
          have hjlt : j < z := by rw [m1]; exact (List.getElem?_eq_some_iff.1 hj).1
          exact m2 j j x (by simp [hjlt]) hj
        have flat : 0 < len → a.spot = none ∧ a.block < w.heap.size := by
          intro hp
          obtain ⟨row, v, _, _, hrl, hr⟩ := row0 0 hp
          have h5 := hr 0 (row[0]'(by omega)) (List.getElem?_eq_getElem _)
          have e0 : (a.add (0 * z)).add 0 = a := by simp [Addr.add]
          rw [e0] at h5
          obtain ⟨b1, b2⟩ := cell_lt h5
          exact ⟨b2, b1⟩
        have key : ∀ i, i < len → ∃ v, (Q v ∧ v.isTup = false ∧ v.cells.length = z) ∧ a.spot = none ∧ a.block < w.heap.size ∧ ∃ f : Nat → Value, ∀ (j : Nat) (c : V), v.cells[j]? = some c → w.cell? ⟨a.block, a.off + (i * z + j), none⟩ = some (f j) ∧ RP gid w (fun _ => False) (f j) c := by
          intro i hi
          obtain ⟨hsp, hbl⟩ := flat (by omega)
          obtain ⟨row, v, hv, hrp, hrl, hr⟩ := row0 i hi
          refine ⟨v, hv, hsp, hbl, fun j => (row[j]?).getD Go.undef, fun j c hj => ?_⟩
          have hjlt : j < z := by rw [← hv.2.2]; exact (List.getElem?_eq_some_iff.1 hj).1
          have hrj : row[j]? = some (row[j]'(by omega)) := List.getElem?_eq_getElem _
          have g := hr j _ hrj
          refine ⟨?_, ?_⟩
          · simp only [hrj, Option.getD_some]
            rw [← g]
            rw [add_flat hsp, add_flat rfl, Nat.add_assoc]
          · simp only [hrj, Option.getD_some]
            exact hrp.2 j _ c hrj hj
        obtain ⟨l, l1, l2⟩ := choose_list len key
        have hF : ∃ f : Nat → Nat → Value, ∀ (i : Nat) (e : V) (j : Nat) (c : V), l[i]? = some e → e.cells[j]? = some c → w.cell? ⟨a.block, a.off + (i * z + j), none⟩ = some (f i j) ∧ RP gid w (fun _ => False) (f i j) c := by
          refine ⟨fun i j => (w.cell? ⟨a.block, a.off + (i * z + j), none⟩).getD Go.undef, fun i e j c hi hj => ?_⟩
          obtain ⟨_, _, _, f, hf⟩ := l2 i e hi
          obtain ⟨g1, g2⟩ := hf j c hj
          refine ⟨by simp only [g1, Option.getD_some], ?_⟩
          simp only [g1, Option.getD_some]
          exact g2
        obtain ⟨f, hf⟩ := hF
        have any : l ≠ [] → a.spot = none ∧ a.block < w.heap.size := by
          intro hn
          cases hl : l with
          | nil => exact absurd hl hn
          | cons x xs =>
            obtain ⟨_, g1, g2, _⟩ := l2 0 x (by rw [hl]; rfl)
            exact ⟨g1, g2⟩
        refine ⟨.sl l, ⟨l, rfl, fun x hx => ?_, ?_⟩, rfl, .one ?_⟩
        · obtain ⟨i, hi⟩ := List.getElem?_of_mem hx
          exact (l2 i x hi).1.1
        · omega
        · exact .sl a len cap z l f l1.symm (fun hn => (any hn).1) (fun _ h => h) (fun hn => (any hn).2) hc.2.1 (fun i e hi => (l2 i e hi).1.2.2) (fun i e j c hi hj => (hf i e j c hi hj).1) (fun i e j c hi hj => (hf i e j c hi hj).2)
      · cases h
    · cases h

/-- The fields of a struct, one behind the other. -/
theorem rd_fields {fuel : Nat} : ∀ (fs : List Field) (Qs : List (V → Prop)) (cs : List Value) (off : Nat) (xs : List (DataW H × List MemPlace)),
    fs.length = Qs.length → (∀ (i : Nat) (f : Field) (Q : V → Prop), fs[i]? = some f → Qs[i]? = some Q → Rd enc P w gid f.type Q) →
    (fs.foldl (fun (o : Option Nat) f => o.bind fun o => if f.offset = o then some (o + P.cellsOf f.type) else none) (some off) = some cs.length) → off ≤ cs.length →
    (fs.mapM fun f => DataW.trod enc P w 0 (fun _ => true) true fuel f.type ((cs.drop f.offset).take (P.cellsOf f.type))) = some xs →
    ∃ vs : List V, vs.length = Qs.length ∧ (∀ (i : Nat) (v : V) (Q : V → Prop), vs[i]? = some v → Qs[i]? = some Q → Q v ∧ v.isTup = false) ∧ RPs gid w (cs.drop off) (vs.flatMap V.cells)
  | [], Qs, cs, off, xs, hl, _, hoff, _, _ => by
    simp at hoff hl
    refine ⟨[], by simp [hl], by simp, ?_⟩
    rw [hoff]
    simp
    exact .nil
  | f :: fs, Qs, cs, off, xs, hl, hQ, hoff, hle, h => by
    cases Qs with
    | nil => simp at hl
    | cons Q Qs =>
      simp only [List.foldl_cons, Option.bind_some] at hoff
      split at hoff
      · rename_i ho
        rw [List.mapM_cons] at h
        simp only [Option.bind_eq_bind, Option.bind_eq_some_iff, Option.pure_def, Option.some.injEq] at h
        obtain ⟨x, h1, ys, h2, h3⟩ := h
        have grow : ∀ (fs : List Field) (o n : Nat), fs.foldl (fun (o : Option Nat) f => o.bind fun o => if f.offset = o then some (o + P.cellsOf f.type) else none) (some o) = some n → o ≤ n := by
          intro fs
          induction fs with
          | nil => intro o n h; simp at h; omega
          | cons g gs ih =>
            intro o n h
            simp only [List.foldl_cons, Option.bind_some] at h
            split at h
            · have := ih _ _ h; omega
            · have none' : ∀ (gs : List Field), gs.foldl (fun (o : Option Nat) f => o.bind fun o => if f.offset = o then some (o + P.cellsOf f.type) else none) none = none := by
                intro gs
                induction gs with
                | nil => rfl
                | cons _ _ ih => simpa using ih
              rw [none'] at h; cases h
        have hle2 := grow fs _ _ hoff
        obtain ⟨v, q1, q2, q3⟩ := hQ 0 f Q rfl rfl fuel _ _ _ h1
        obtain ⟨vs, v1, v2, v3⟩ := rd_fields fs Qs cs (off + P.cellsOf f.type) ys (by simpa using hl) (fun i g R hg hR => hQ (i + 1) g R (by simpa using hg) (by simpa using hR)) hoff hle2 h2
        refine ⟨v :: vs, by simp [v1], fun i u R hu hR => ?_, ?_⟩
        · cases i with
          | zero => simp at hu hR; subst hu; subst hR; exact ⟨q1, q2⟩
          | succ i => exact v2 i u R (by simpa using hu) (by simpa using hR)
        · rw [List.flatMap_cons]
          have e : cs.drop off = (cs.drop f.offset).take (P.cellsOf f.type) ++ cs.drop (off + P.cellsOf f.type) := by
            rw [ho, ← List.drop_drop]
            exact (List.take_append_drop _ _).symm
          rw [e]
          exact q3.append v3
      · have none' : ∀ (gs : List Field), gs.foldl (fun (o : Option Nat) f => o.bind fun o => if f.offset = o then some (o + P.cellsOf f.type) else none) none = none := by
          intro gs
          induction gs with
          | nil => rfl
          | cons _ _ ih => simpa using ih
        rw [none'] at hoff; cases hoff

theorem rd_struct {t : TypeId} {fs : Array Field} {z : Nat} (Qs : List (V → Prop)) (ht : P.underlying t = some (.struct fs)) (hz : P.cellsOf t = z) (hl : fs.toList.length = Qs.length)
    (hQ : ∀ (i : Nat) (f : Field) (Q : V → Prop), fs.toList[i]? = some f → Qs[i]? = some Q → Rd enc P w gid f.type Q)
    (hoff : fs.toList.foldl (fun (o : Option Nat) f => o.bind fun o => if f.offset = o then some (o + P.cellsOf f.type) else none) (some 0) = some z) :
    Rd enc P w gid t (fun v => ∃ vs : List V, v = .agg (vs.flatMap V.cells) ∧ vs.length = Qs.length ∧ ∀ (i : Nat) (v : V) (Q : V → Prop), vs[i]? = some v → Qs[i]? = some Q → Q v) := by
  intro fuel cs d ps h
  cases fuel with
  | zero => cases h
  | succ fuel =>
    unfold DataW.trod at h
    rw [ht] at h
    simp only at h
    split at h
    · rename_i hcs
      rw [hz] at hcs
      obtain ⟨xs, h2, h3⟩ := Option.map_eq_some_iff.1 h
      obtain ⟨vs, v1, v2, v3⟩ := rd_fields fs.toList Qs cs 0 xs hl hQ (by rw [hcs]; exact hoff) (Nat.zero_le _) h2
      exact ⟨.agg (vs.flatMap V.cells), ⟨vs, rfl, v1, fun i v Q hv hq => (v2 i v Q hv hq).1⟩, rfl, by simp only [List.drop_zero] at v3; exact v3⟩
    · cases h

theorem RPs.get {μ : Inj} {cs : List Value} {vs : List V} (h : RPs gid w cs vs) : ∀ (i : Nat) (x : Value) (c : V), cs[i]? = some x → vs[i]? = some c → RC gid w (fun _ => False) μ x c := fun i x c hx hc => .p (h.2 i x c hx hc)

/-- An argument of a struct's type. -/
theorem Rd.struct {μ : Inj} {t : TypeId} {Q : V → Prop} {fs : Array Field} {r : Reach} {base : Nat} (hQ : Rd enc P w gid t Q) (ht : P.underlying t = some (.struct fs)) (hagg : ∀ a, Q a → ∃ cs, a = .agg cs) {v : Value} {d : DataW H} {ps : List MemPlace}
    (h : DataW.Trod enc P w 0 (fun _ => true) true t v d ps) (hok : Value.okWide P w r base t v) : ∃ a, Q a ∧ R gid w (fun _ => False) μ v a := by
  obtain ⟨fuel, h⟩ := h
  unfold Value.okWide at hok
  rw [ht] at hok
  obtain ⟨cs, rfl, _⟩ := hok
  obtain ⟨a, q1, _, q3⟩ := hQ fuel _ d ps h
  obtain ⟨as', rfl⟩ := hagg a q1
  exact ⟨_, q1, .agg cs as' (by have := q3.1; simp only [Value.cells, Array.length_toList] at this; exact this) fun i x c hx hc => .p (q3.2 i x c (by simpa [Value.cells] using hx) hc)⟩

/-- An argument of one cell. -/
theorem Rd.cell {μ : Inj} {t : TypeId} {Q : V → Prop} (hQ : Rd enc P w gid t Q) (hcell : ∀ a, Q a → a.isCell = true) {v : Value} {d : DataW H} {ps : List MemPlace}
    (h : DataW.Trod enc P w 0 (fun _ => true) true t v d ps) (hv : v.cells = #[v]) : ∃ a, Q a ∧ R gid w (fun _ => False) μ v a := by
  obtain ⟨fuel, h⟩ := h
  obtain ⟨a, q1, _, q3⟩ := hQ fuel _ d ps h
  rw [hv, V.cells_cell (hcell a q1)] at q3
  exact ⟨a, q1, .c (.p (q3.2 0 v a rfl rfl))⟩

theorem one_slice {t e : TypeId} {r : Reach} {base : Nat} (ht : P.underlying t = some (.slice e)) {v : Value} (h : Value.okWide P w r base t v) : v.cells = #[v] := by
  unfold Value.okWide at h
  rw [ht] at h
  simp only [Cell.okWide, ht, Cell.ok] at h
  cases v <;> first | rfl | exact h.elim

theorem one_int {t : TypeId} {k : IntKind} {r : Reach} {base : Nat} (ht : P.underlying t = some (.int k)) {v : Value} (h : Value.okWide P w r base t v) : v.cells = #[v] := by
  unfold Value.okWide at h
  rw [ht] at h
  simp only [Cell.okWide, ht, Cell.ok] at h
  cases v <;> first | rfl | exact h.elim

theorem one_bool {t : TypeId} {r : Reach} {base : Nat} (ht : P.underlying t = some .bool) {v : Value} (h : Value.okWide P w r base t v) : v.cells = #[v] := by
  unfold Value.okWide at h
  rw [ht] at h
  simp only [Cell.okWide, ht, Cell.ok] at h
  cases v <;> first | rfl | exact h.elim

theorem trodAll_stays (hl : laidOutB P = true) {W W' : World} {sp : Nat → Bool} : ∀ {ts : List TypeId} {vs : List Value} {ds : List (DataW H)} {ps : List MemPlace}, (∀ t ∈ ts, P.readableRec t = true ∧ t < P.types.size) →
    DataW.TrodAll enc P W 0 (fun _ => true) true ts vs ds ps → (∀ p ∈ ps, W.sameAt W' p) → (∀ p ∈ ps, sp p.block = true) → DataW.TrodAll enc P W' 0 sp true ts vs ds ps
  | [], vs, ds, ps, _, h, _, _ => by
    obtain ⟨rfl, rfl, rfl⟩ := trodAll_nil h
    exact h
  | t :: ts, vs, ds, ps, hr, h, hs, hsp => by
    obtain ⟨v, vs', d, ds', p, q, rfl, rfl, rfl, h1, h2⟩ := trodAll_cons h
    exact ⟨p, q, WideElems.Trod_stays hl (hr t (by simp)).1 (hr t (by simp)).2 h1 (fun x hx => hs x (List.mem_append_left _ hx)) (fun x hx => hsp x (List.mem_append_left _ hx)),
      trodAll_stays hl (fun u hu => hr u (by simp [hu])) h2 (fun x hx => hs x (List.mem_append_right _ hx)) (fun x hx => hsp x (List.mem_append_right _ hx)), rfl⟩

/-- What the row asks behind a call that returned true and turned nothing that was there. -/
theorem post_true {f : Func} {s : ChangeSpec} {apart fresh handsOn again : Bool} {W W' : World} {args : Array Value} {ds gs : List (DataW H)} {before : List MemPlace} {tb : TypeId}
    (hl : laidOutB P = true) (hvars : s.vars = []) (hr : ∀ t ∈ f.params.toList, P.readableRec t = true ∧ t < P.types.size) (hres : f.resultTypes = #[tb]) (htb : P.underlying tb = some .bool)
    (hfn : (s.fn H (ds ++ gs)).results = [.lit (.bool true)] ∧ (s.fn H (ds ++ gs)).args = ds ∧ (s.fn H (ds ++ gs)).vars = [])
    (hW : DataW.Whole enc P f.params.toList s.vars apart W args.toList ds gs before) (hb : Below W.heap.size W W') :
    s.post enc P f apart fresh handsOn again W args (.bool true) W' := by
  have hlt := hW.lt
  have hW0 := hW
  obtain ⟨p, q, hA, hV, rfl, hz, hn⟩ := hW
  rw [hvars] at hV
  obtain ⟨hq, hg⟩ : q = [] ∧ gs = [] := by
    cases gs with
    | nil => exact ⟨hV, rfl⟩
    | cons _ _ => exact hV.elim
  subst hq; subst hg
  simp only [List.append_nil] at hW0 hz hn hlt
  have hA' : ∀ sp : Nat → Bool, (∀ x ∈ p, sp x.block = true) → DataW.TrodAll enc P W' 0 sp true f.params.toList args.toList ds p := fun sp hsp =>
    trodAll_stays hl hr hA (fun x hx => hb.same (hlt x hx)) hsp
  have hrv : (Value.bool true).resultList f.resultTypes.size = [.bool true] := by rw [hres]; rfl
  have hR : ∀ (b : Nat) (sp : Nat → Bool) (hd : Bool), DataW.TrodAll enc P W' b sp hd f.resultTypes.toList ((Value.bool true).resultList f.resultTypes.size) (s.fn H (ds ++ [])).results [] := by
    intro b sp hd
    rw [hfn.1, hrv, hres]
    exact trodAll_mk1 (shut_bool htb true)
  have hVs : ∀ (sp : Nat → Bool), DataW.TrodVars enc P W' sp s.vars (s.fn H (ds ++ [])).vars [] := by
    intro sp
    rw [hfn.2.2, hvars]
    rfl
  refine ⟨ds, [], p, [], p, [], hW0, hR _ _ _, by rw [hfn.2.1]; exact hA' _ (fun x hx => by simpa using hlt x hx), hVs _, hb.frame _, fun _ => ⟨?_, ?_⟩⟩
  · exact ok_one hres rfl (okWide_bool_mk htb true)
  · refine ⟨_, _, ([] ++ p) ++ [], ⟨[] ++ p, [], trodAll_append (hA' _ (fun _ _ => rfl)) (hR _ _ _), hVs _, rfl, ?_, ?_⟩, ?_⟩
    · intro b off hp
      rw [hb.frozen (p := ⟨b, off, none⟩) (hlt (.cell b off) (by simpa using hp))]
      exact hz b off (by simpa using hp)
    · intro ha
      simpa using hn ha
    · intro x hx _
      simpa using hx

/-- A law's call, out of the abstract machine. -/
theorem law_calls {T : Tab} {S : AProg} (seat : Seat T S) {g fid : Nat} (hg : T.gid fid = some g) {args : List V} (hc : Ev S (.call g args []) (.ret (.bool true) [])) {W : World} {vs : List Value}
    (hr : Rs T.gid W (fun _ => False) (fun _ => none) vs args) (tb : Tabs T.gid W fun _ => False) : Calls T.P fid vs.toArray W fun e W' => e = .returned (.bool true) ∧ Below W.heap.size W W' := by
  have hs : Sim T.gid W (fun _ => False) (fun _ => none) [] := ⟨(by intro b x h; cases h), (by intro b b' c base z base' z' h; cases h), (by intro b c base z k h; cases h), tb⟩
  obtain ⟨_, h⟩ := sound seat hc
  obtain ⟨fn, _, _, _, h⟩ := h fid hg
  refine (h W _ _ vs hs hr).mono fun e W' he => ?_
  obtain ⟨v', M', μ', rfl, st, hv⟩ := he
  refine ⟨by rw [hv.inv_bool], st.os, st.tape, st.output, st.size, fun k hk => st.frame k hk ?_⟩
  intro b base z h
  cases h

end
end Go.Abs
/- Numbers out of limbs. -/
namespace Go.Abs

/-- The number that limbs are, the least significant one first. -/
def natV : List Nat → Nat
  | [] => 0
  | x :: l => x + 4294967296 * natV l

def Li (l : List Nat) : Prop := ∀ x ∈ l, x < 4294967296

theorem Li.cons {x : Nat} {l : List Nat} (h : Li (x :: l)) : x < 4294967296 ∧ Li l := ⟨h x (by simp), fun y hy => h y (by simp [hy])⟩
theorem Li.take {l : List Nat} (h : Li l) (n : Nat) : Li (l.take n) := fun x hx => h x (List.mem_of_mem_take hx)
theorem Li.drop {l : List Nat} (h : Li l) (n : Nat) : Li (l.drop n) := fun x hx => h x (List.mem_of_mem_drop hx)
theorem Li.append {l m : List Nat} (h : Li l) (k : Li m) : Li (l ++ m) := fun x hx => (List.mem_append.1 hx).elim (h x) (k x)

theorem natV_append : ∀ (l m : List Nat), natV (l ++ m) = natV l + 4294967296 ^ l.length * natV m
  | [], m => by simp [natV]
  | x :: l, m => by
    simp only [List.cons_append, natV, natV_append l m, List.length_cons, Nat.pow_succ]
    rw [Nat.mul_add, ← Nat.mul_assoc, Nat.mul_comm 4294967296 (4294967296 ^ l.length)]
    omega

theorem natV_lt : ∀ {l : List Nat}, Li l → natV l < 4294967296 ^ l.length
  | [], _ => by simp [natV]
  | x :: l, h => by
    have h1 := natV_lt h.cons.2
    have h2 := h.cons.1
    simp only [natV, List.length_cons, Nat.pow_succ]
    omega

theorem natV_zeros (n : Nat) : natV (List.replicate n 0) = 0 := by
  induction n with
  | zero => rfl
  | succ n ih => simp [List.replicate_succ, natV, ih]

/-- How many limbs are left of the first n, without zeros at the top. -/
def trimN (l : List Nat) : Nat → Nat
  | 0 => 0
  | n + 1 => if l[n]? = some 0 then trimN l n else n + 1
def trimL (l : List Nat) : List Nat := l.take (trimN l l.length)

theorem trimN_le (l : List Nat) : ∀ n, trimN l n ≤ n
  | 0 => Nat.le_refl _
  | n + 1 => by unfold trimN; split; exact Nat.le_succ_of_le (trimN_le l n); exact Nat.le_refl _

theorem natV_trimN (l : List Nat) : ∀ n, n ≤ l.length → natV (l.take (trimN l n)) = natV (l.take n)
  | 0, _ => by simp [trimN]
  | n + 1, h => by
    unfold trimN
    split
    · rename_i h0
      rw [natV_trimN l n (by omega), List.take_add_one, h0, natV_append]
      simp [natV]
    · rfl

theorem natV_trimL (l : List Nat) : natV (trimL l) = natV l := by rw [trimL, natV_trimN l _ (Nat.le_refl _), List.take_length]

theorem Li.trimL {l : List Nat} (h : Li l) : Li (trimL l) := h.take _

/-- The top limb, if there is one, is not zero. -/
def Trim (l : List Nat) : Prop := ∀ x, l.getLast? = some x → x ≠ 0

theorem trimN_top (l : List Nat) : ∀ n, n ≤ l.length → ∀ m, trimN l n = m + 1 → l[m]? ≠ some 0
  | 0, _, m, h => by simp [trimN] at h
  | n + 1, hn, m, h => by
    unfold trimN at h
    split at h
    · exact trimN_top l n (by omega) m h
    · rename_i h0
      have : n = m := by omega
      subst this
      exact h0

theorem trim_trimL (l : List Nat) : Trim (trimL l) := by
  intro x hx
  unfold trimL at hx
  have hle := trimN_le l l.length
  rw [List.getLast?_eq_getElem?, List.length_take, Nat.min_eq_left hle] at hx
  cases hq : trimN l l.length with
  | zero => rw [hq] at hx; simp at hx
  | succ m =>
    rw [hq] at hx
    have h1 := trimN_top l l.length (Nat.le_refl _) m hq
    have h2 : (l.take (m + 1))[m + 1 - 1]? = l[m]? := by rw [List.getElem?_take]; simp
    rw [h2] at hx
    intro h0
    subst h0
    exact h1 hx

theorem trimL_of_trim {l : List Nat} (h : Trim l) : trimL l = l := by
  unfold trimL
  cases hl : l.length with
  | zero => rw [List.eq_nil_of_length_eq_zero hl]; rfl
  | succ n =>
    have h1 : l[n]? ≠ some 0 := by
      intro h0
      exact h 0 (by rw [List.getLast?_eq_getElem?, hl]; exact h0) rfl
    unfold trimN
    rw [if_neg h1, ← hl, List.take_length]

/-- Trimmed limbs with more limbs are more. -/
theorem natV_ge {l : List Nat} (h : Trim l) (hn : l ≠ []) : 4294967296 ^ (l.length - 1) ≤ natV l := by
  obtain ⟨x, hx⟩ : ∃ x, l.getLast? = some x := by
    cases hq : l.getLast? with
    | none => exact absurd (List.getLast?_eq_none_iff.1 hq) hn
    | some x => exact ⟨x, rfl⟩
  have hx0 := h x hx
  have : l = l.dropLast ++ [x] := by
    have := List.dropLast_concat_getLast hn
    rw [List.getLast?_eq_some_getLast hn] at hx
    injection hx with hx
    rw [hx] at this
    exact this.symm
  rw [this, natV_append]
  simp only [natV, List.length_append, List.length_dropLast, List.length_singleton, Nat.mul_zero, Nat.add_zero]
  have e : l.length - 1 + 1 - 1 = l.length - 1 := by omega
  rw [e]
  have : 4294967296 ^ (l.length - 1) * 1 ≤ 4294967296 ^ (l.length - 1) * x := Nat.mul_le_mul_left _ (by omega)
  omega

theorem natV_lt_of_len {a b : List Nat} (ha : Li a) (hb : Trim b) (h : a.length < b.length) : natV a < natV b := by
  have h1 := natV_lt ha
  have h2 := natV_ge hb (fun e => by rw [e] at h; simp at h)
  have h3 : 4294967296 ^ a.length ≤ 4294967296 ^ (b.length - 1) := Nat.pow_le_pow_right (by omega) (by omega)
  omega

/-- The first difference from the top decides. -/
theorem natV_lt_of_top {a b : List Nat} (ha : Li a) {k : Nat} (hka : k < a.length) (hkb : k < b.length) (hd : a.drop (k + 1) = b.drop (k + 1)) (h : a[k] < b[k]) : natV a < natV b := by
  have ea : a = a.take k ++ (a[k] :: a.drop (k + 1)) := by rw [← List.drop_eq_getElem_cons hka, List.take_append_drop]
  have eb : b = b.take k ++ (b[k] :: b.drop (k + 1)) := by rw [← List.drop_eq_getElem_cons hkb, List.take_append_drop]
  have h1 := natV_lt (ha.take k)
  rw [ea, eb, natV_append, natV_append]
  simp only [List.length_take, Nat.min_eq_left (Nat.le_of_lt hka), Nat.min_eq_left (Nat.le_of_lt hkb), natV] at h1 ⊢
  rw [hd]
  have h2 : 4294967296 ^ k * (a[k] + 4294967296 * natV (b.drop (k + 1))) + 4294967296 ^ k ≤ 4294967296 ^ k * (b[k] + 4294967296 * natV (b.drop (k + 1))) := by
    rw [← Nat.mul_succ]
    exact Nat.mul_le_mul_left _ (by omega)
  omega

def cmpN (x y : Nat) : Int := if x < y then -1 else if y < x then 1 else 0

end Go.Abs
/- What each operation comes to, one lemma each. -/
namespace Go.Abs

def stpAppend (z bytes : Nat) (x y : V) (H : Heap) : Option (V × Heap) :=
    (elems H y).bind fun ys =>
      if headOk z ys = true then
        match x with
        | .nil =>
          if ys = [] then some (.nil, H)
          else if appendLimit ys.length bytes = true then some (.ref H.length z 0 ys.length, H ++ [some ⟨z, ys, true, true⟩]) else none
        | .ref b z' off len =>
          match H[b]? with
          | some (some k) =>
            if k.arr = true ∧ k.wr = true ∧ k.z = z ∧ z' = z ∧ off + len ≤ k.el.length ∧ appendLimit (len + ys.length) bytes = true then
              if ys = [] then some (.ref b z' off len, H)
              else some (.ref H.length z 0 (len + ys.length), H.set b none ++ [some ⟨z, (k.el.drop off).take len ++ ys, true, true⟩])
            else none
          | _ => none
        | _ => none
      else none

theorem stq_append {n0 z bytes : Nat} {x y : X} {E : Env} {H : Heap} : stp n0 (.append z bytes x y) E H = stpAppend z bytes (getX E x) (getX E y) H := rfl

theorem stq_mv {n0 : Nat} {E : Env} {H : Heap} {x : X} : stp n0 (.mv x) E H = (some (getX E x, H)) := rfl

theorem stq_pick {n0 : Nat} {E : Env} {H : Heap} {c a b : X} : stp n0 (.pick c a b) E H =
    match getX E c with
    | .bool t => some (if t then getX E a else getX E b, H)
    | _ => none := rfl

theorem stq_box {n0 : Nat} {E : Env} {H : Heap} {z : Nat} {x : X} : stp n0 (.box z x) E H =
    if (getX E x).cells.length = z ∧ (getX E x).isTup = false then some (.ptr H.length 0 0, H ++ [some ⟨z, [getX E x], false, true⟩]) else none := rfl

theorem stq_new {n0 : Nat} {E : Env} {H : Heap} {z : Nat} {v : V} : stp n0 (.new z v) E H = (if v.cells.length = z ∧ v.pure = true then some (.ptr H.length 0 0, H ++ [some ⟨z, [v], false, true⟩]) else none) := rfl

theorem stq_build {n0 : Nat} {E : Env} {H : Heap} {zero : List V} {parts : List (Nat × Nat × X)} : stp n0 (.build zero parts) E H =
    if zero.all V.cellPure = true then (fillC zero (parts.map fun p => (p.1, p.2.1, getX E p.2.2))).map fun cs => (.agg cs, H) else none := rfl

theorem stq_bslice {n0 : Nat} {E : Env} {H : Heap} {z len : Nat} {zero : V} {parts : List (Nat × X)} : stp n0 (.bslice z len zero parts) E H =
    if zero.cells.length = z ∧ zero.pure = true then
      (pureIns H (parts.map fun p => getX E p.2)).bind fun (vs, H1) =>
        (fillE z (List.replicate len zero) ((parts.map (·.1)).zip vs)).map fun el => (.ref H1.length z 0 len, H1 ++ [some ⟨z, el, true, true⟩])
    else none := rfl

theorem stq_load {n0 : Nat} {E : Env} {H : Heap} {ag : Bool} {z : Nat} {x : X} : stp n0 (.load ag z x) E H =
    match getX E x with
    | .eptr cs => (wrapC ag z cs).map fun v => (v, H)
    | .ptr b i off =>
      match H[b]? with
      | some (some k) =>
        match k.el[i]? with
        | some e => (wrapC ag z (e.cells.drop off)).map fun v => (v, H)
        | none => none
      | _ => none
    | _ => none := rfl

theorem stq_store {n0 : Nat} {E : Env} {H : Heap} {z : Nat} {a x : X} : stp n0 (.store z a x) E H = (stStore n0 z (getX E a) (getX E x) H) := rfl

theorem stq_sload {n0 : Nat} {E : Env} {H : Heap} {ag : Bool} {z t : Nat} : stp n0 (.sload ag z t) E H =
    match E t with
    | .eptr cs => (wrapC ag z cs).map fun v => (v, H)
    | .ptr b i off =>
      match H[b]? with
      | some (some k) =>
        match k.el[i]? with
        | some e => (wrapC ag z (e.cells.drop off)).bind fun v => if v.cells.all (V.lowB H.length) = true ∧ v.isTup = false then some (v, H) else none
        | none => none
      | _ => none
    | _ => none := rfl

theorem stq_storeN {n0 : Nat} {E : Env} {H : Heap} {z : Nat} {a x : X} {av : List Nat} : stp n0 (.storeN z a x av) E H = (if (getX E x).pure = true ∧ (av.all fun t => apart (E t) (getX E a)) = true then stStore n0 z (getX E a) (getX E x) H else none) := rfl

theorem stq_bin {n0 : Nat} {E : Env} {H : Heap} {bk : BK} {op : BinOp} {x y : X} : stp n0 (.bin bk op x y) E H = ((binV bk op (getX E x) (getX E y)).map fun v => (v, H)) := rfl

theorem stq_un {n0 : Nat} {E : Env} {H : Heap} {op : UnOp} {x : X} : stp n0 (.un op x) E H = ((unV op (getX E x)).map fun v => (v, H)) := rfl

theorem stq_conv {n0 : Nat} {E : Env} {H : Heap} {k : IntKind} {x : X} : stp n0 (.conv k x) E H =
    match getX E x with
    | .int _ n => some (.int k (k.wrap n), H)
    | _ => none := rfl

theorem stq_mkfn {n0 : Nat} {E : Env} {H : Heap} {g : Nat} {caps : List X} : stp n0 (.mkfn g caps) E H = (if (caps.map (getX E)).all V.isCell = true then some (.fn g (caps.map (getX E)), H) else none) := rfl

theorem stq_mkslice {n0 : Nat} {E : Env} {H : Heap} {z bytes : Nat} {zero : V} {l c : X} : stp n0 (.mkslice z bytes zero l c) E H =
    match natOf (getX E l), natOf (getX E c) with
    | some l, some c =>
      if l ≤ c ∧ c * bytes ≤ 281474976710656 ∧ c ≤ 9223372036854775807 ∧ zero.cells.length = z ∧ zero.pure = true then
        some (.ref H.length z 0 l, H ++ [some ⟨z, List.replicate c zero, true, true⟩])
      else none
    | _, _ => none := rfl

theorem stq_appendZ {n0 z bytes : Nat} {zero : V} {x n : X} {E : Env} {H : Heap} : stp n0 (.appendZ z bytes zero x n) E H =
    match getX E x, natOf (getX E n) with
    | .nil, some m =>
      if 0 < m ∧ m * bytes ≤ 140737488355328 ∧ m ≤ 9223372036854775807 ∧ zero.cells.length = z ∧ zero.pure = true then some (.ref H.length z 0 m, H ++ [some ⟨z, List.replicate m zero, true, true⟩]) else none
    | _, _ => none := rfl

theorem stq_slice {n0 : Nat} {E : Env} {H : Heap} {z : Nat} {x : X} {lo hi mx : Option X} : stp n0 (.slice z x lo hi mx) E H =
    match getX E x with
    | .nil =>
      match optNat E 0 lo, optNat E 0 hi, optNat E 0 mx with
      | some 0, some 0, some 0 => some (.nil, H)
      | _, _, _ => none
    | .sl l =>
      match optNat E 0 lo, optNat E l.length hi, optNat E l.length mx with
      | some lo, some hi, some mx =>
        if lo ≤ hi ∧ hi ≤ mx ∧ mx ≤ l.length ∧ (lo = 0 ∨ headOk z ((l.take hi).drop lo) = true) then some (.sl ((l.take hi).drop lo), H) else none
      | _, _, _ => none
    | .ref b z' off len =>
      match optNat E 0 lo, optNat E len hi, mx with
      | some lo, some hi, none => if lo ≤ hi ∧ hi ≤ len ∧ z' = z then some (.ref b z' (off + lo) (hi - lo), H) else none
      | _, _, _ => none
    | _ => none := rfl

theorem stq_faddr {n0 : Nat} {E : Env} {H : Heap} {off : Nat} {x : X} : stp n0 (.faddr off x) E H =
    match getX E x with
    | .ptr b i o => some (.ptr b i (o + off), H)
    | .eptr cs => some (.eptr (cs.drop off), H)
    | _ => none := rfl

theorem stq_field {n0 : Nat} {E : Env} {H : Heap} {ag : Bool} {off z : Nat} {x : X} : stp n0 (.field ag off z x) E H =
    match getX E x with
    | .agg cs => (wrapC ag z (cs.drop off)).map fun v => (v, H)
    | _ => none := rfl

theorem stq_iaddr {n0 : Nat} {E : Env} {H : Heap} {z : Nat} {x i : X} : stp n0 (.iaddr z x i) E H =
    match getX E x, natOf (getX E i) with
    | .sl l, some i =>
      match l[i]? with
      | some e => if e.cells.length = z then some (.eptr e.cells, H) else none
      | none => none
    | .ref b z' off len, some i => if i < len ∧ z' = z then some (.ptr b (off + i) 0, H) else none
    | _, _ => none := rfl

theorem stq_aiaddr {n0 : Nat} {E : Env} {H : Heap} {n z : Nat} {x i : X} : stp n0 (.aiaddr n z x i) E H =
    match getX E x, natOf (getX E i) with
    | .ptr b j off, some i => if i < n then some (.ptr b j (off + i * z), H) else none
    | .eptr cs, some i => if i < n then some (.eptr (cs.drop (i * z)), H) else none
    | _, _ => none := rfl

theorem stq_index {n0 : Nat} {E : Env} {H : Heap} {ag : Bool} {n z : Nat} {x i : X} : stp n0 (.index ag n z x i) E H =
    match getX E x, natOf (getX E i) with
    | .agg cs, some i => if i < n then (wrapC ag z (cs.drop (i * z))).map fun v => (v, H) else none
    | _, _ => none := rfl

theorem stq_sindex {n0 : Nat} {E : Env} {H : Heap} {x i : X} : stp n0 (.sindex x i) E H =
    match getX E x, natOf (getX E i) with
    | .str s, some i =>
      match s[i]? with
      | some b => some (.int .u8 b.toNat, H)
      | none => none
    | _, _ => none := rfl

theorem stq_extract {n0 : Nat} {E : Env} {H : Heap} {i : Nat} {x : X} : stp n0 (.extract i x) E H =
    match getX E x with
    | .tup vs => (vs[i]?).map fun v => (v, H)
    | _ => none := rfl

theorem stq_len {n0 : Nat} {E : Env} {H : Heap} {x : X} : stp n0 (.len x) E H =
    match getX E x with
    | .sl l => some (.int .i64 l.length, H)
    | .nil => some (.int .i64 0, H)
    | .emp => some (.int .i64 0, H)
    | .ref _ _ _ len => some (.int .i64 len, H)
    | _ => none := rfl

theorem stq_lenc {n0 : Nat} {E : Env} {H : Heap} {n : Nat} {x : X} : stp n0 (.lenc n x) E H = (some (.int .i64 n, H)) := rfl

theorem stq_capn {n0 : Nat} {E : Env} {H : Heap} {x : X} : stp n0 (.capn x) E H =
    match getX E x with
    | .nil => some (.int .i64 0, H)
    | _ => none := rfl

theorem stq_copy {n0 : Nat} {E : Env} {H : Heap} {z : Nat} {x y : X} : stp n0 (.copy z x y) E H =
    match getX E x with
    | .ref b z' off len =>
      (elems H (getX E y)).bind fun ys =>
        match H[b]? with
        | some (some k) =>
          if k.arr = true ∧ k.wr = true ∧ k.z = z ∧ z' = z ∧ headOk z ys = true ∧ off + len ≤ k.el.length then
            some (.int .i64 (Nat.min ys.length len), H.set b (some { k with el := splice k.el off (ys.take len) }))
          else none
        | _ => none
    | _ => none := rfl

theorem stq_min {n0 : Nat} {E : Env} {H : Heap} {x y : X} : stp n0 (.min x y) E H =
    match getX E x, getX E y with
    | .int k a, .int k' b => if k = k' then some (.int k (if b < a then b else a), H) else none
    | _, _ => none := rfl

theorem stq_max {n0 : Nat} {E : Env} {H : Heap} {x y : X} : stp n0 (.max x y) E H =
    match getX E x, getX E y with
    | .int k a, .int k' b => if k = k' then some (.int k (if a < b then b else a), H) else none
    | _, _ => none := rfl

theorem stq_max3 {n0 : Nat} {E : Env} {H : Heap} {x y z : X} : stp n0 (.max3 x y z) E H =
    match getX E x, getX E y, getX E z with
    | .int k a, .int k' b, .int k'' c => if k = k' ∧ k = k'' then some (.int k (if (if a < b then b else a) < c then c else if a < b then b else a), H) else none
    | _, _, _ => none := rfl

attribute [simp] stq_max3 stq_append stq_mv stq_pick stq_box stq_new stq_build stq_bslice stq_load stq_store stq_sload stq_storeN stq_bin stq_un stq_conv stq_mkfn stq_mkslice stq_appendZ stq_slice stq_faddr stq_field stq_iaddr stq_aiaddr stq_index stq_sindex stq_extract stq_len stq_lenc stq_capn stq_copy stq_min stq_max

end Go.Abs
/- The rules once more, with what comes behind as a list: so that 'simp' runs straight-line code by itself. -/
namespace Go.Abs

inductive Fr where
  | seq (b : AC)
  | blk (id : Nat)

section
variable {S : AProg} {n0 : Nat} {Q : AX → Env → Heap → Prop}

def WP (S : AProg) (n0 : Nat) (Q : AX → Env → Heap → Prop) : List Fr → AX → Env → Heap → Prop
  | [], x, E, H => Q x E H
  | .seq b :: K, .normal, E, H => WC S n0 b E H (fun x E H => WP S n0 Q K x E H)
  | .seq _ :: K, x, E, H => WP S n0 Q K x E H
  | .blk id :: K, x, E, H => WP S n0 Q K (x.outOf id) E H

/-- Code, and what comes behind. -/
def WK (S : AProg) (n0 : Nat) (c : AC) (K : List Fr) (E : Env) (H : Heap) (Q : AX → Env → Heap → Prop) : Prop := WC S n0 c E H (fun x E H => WP S n0 Q K x E H)
/-- Operations, and what comes behind. -/
def WL (S : AProg) (n0 : Nat) (d : Bool) (l : List AOper) (K : List Fr) (E : Env) (H : Heap) (Q : AX → Env → Heap → Prop) : Prop := WO S n0 d l E H (fun E H => WP S n0 Q K .normal E H)

theorem WC_of_WK {c : AC} {E : Env} {H : Heap} (h : WK S n0 c [] E H Q) : WC S n0 c E H Q := h

theorem WP_nil {x : AX} {E : Env} {H : Heap} : WP S n0 Q [] x E H ↔ Q x E H := Iff.rfl
theorem WP_seq {b : AC} {K : List Fr} {E : Env} {H : Heap} : WP S n0 Q (.seq b :: K) .normal E H ↔ WK S n0 b K E H Q := Iff.rfl
theorem WP_seq_exit {b : AC} {K : List Fr} {id : Nat} {E : Env} {H : Heap} : WP S n0 Q (.seq b :: K) (.exit id) E H ↔ WP S n0 Q K (.exit id) E H := Iff.rfl
theorem WP_seq_ret {b : AC} {K : List Fr} {E : Env} {H : Heap} : WP S n0 Q (.seq b :: K) .ret E H ↔ WP S n0 Q K .ret E H := Iff.rfl
theorem WP_blk {id : Nat} {K : List Fr} {x : AX} {E : Env} {H : Heap} : WP S n0 Q (.blk id :: K) x E H ↔ WP S n0 Q K (x.outOf id) E H := by cases x <;> exact Iff.rfl

theorem WK_skip {K : List Fr} {E : Env} {H : Heap} (h : WP S n0 Q K .normal E H) : WK S n0 .skip K E H Q := WC_skip h
theorem WK_exit {id : Nat} {K : List Fr} {E : Env} {H : Heap} (h : WP S n0 Q K (.exit id) E H) : WK S n0 (.exit id) K E H Q := WC_exit h
theorem WK_ret {K : List Fr} {E : Env} {H : Heap} (h : WP S n0 Q K .ret E H) : WK S n0 .ret K E H Q := WC_ret h

theorem WC_mono {c : AC} {E : Env} {H : Heap} {Q' : AX → Env → Heap → Prop} (h : WC S n0 c E H Q) (hq : ∀ x E H, Q x E H → Q' x E H) : WC S n0 c E H Q' := by
  obtain ⟨x, E1, H1, e, q⟩ := h
  exact ⟨x, E1, H1, e, hq _ _ _ q⟩

theorem WK_seq_iff {a b : AC} {K : List Fr} {E : Env} {H : Heap} : WK S n0 (.seq a b) K E H Q ↔ WK S n0 a (.seq b :: K) E H Q := by
  constructor
  · rintro ⟨x, E1, H1, e, q⟩
    cases e with
    | seqN e1 e2 => exact ⟨.normal, _, _, e1, _, _, _, e2, q⟩
    | seqX e1 hx =>
      refine ⟨x, E1, H1, e1, ?_⟩
      cases x with
      | normal => exact absurd rfl hx
      | exit id => exact q
      | ret => exact q
  · intro h
    refine WC_seq (WC_mono h fun x E1 H1 q => ?_)
    cases x with
    | normal => exact q
    | exit id => exact q
    | ret => exact q

theorem WK_cond_iff {x : X} {a b : AC} {K : List Fr} {E : Env} {H : Heap} : WK S n0 (.cond x a b) K E H Q ↔ match getX E x with | .bool true => WK S n0 a K E H Q | .bool false => WK S n0 b K E H Q | _ => False := by
  constructor
  · rintro ⟨y, E1, H1, e, q⟩
    cases e with
    | @cond _ _ _ _ _ _ t _ hc e1 =>
      rw [hc]
      cases t with
      | true => exact ⟨_, _, _, by simpa using e1, q⟩
      | false => exact ⟨_, _, _, by simpa using e1, q⟩
  · intro h
    split at h
    · rename_i hc; exact WC_true hc h
    · rename_i hc; exact WC_false hc h
    · exact h.elim

theorem WK_block_iff {id : Nat} {c : AC} {K : List Fr} {E : Env} {H : Heap} : WK S n0 (.block id c) K E H Q ↔ WK S n0 c (.blk id :: K) E H Q := by
  constructor
  · rintro ⟨y, E1, H1, e, q⟩
    cases e with
    | block e1 => exact ⟨_, _, _, e1, WP_blk.2 q⟩
  · intro h
    exact WC_block (WC_mono h fun x E1 H1 q => WP_blk.1 q)

theorem WK_region_iff {d : Bool} {l : List AOper} {K : List Fr} {E : Env} {H : Heap} : WK S n0 (.region d l) K E H Q ↔ WL S n0 d l K E H Q := by
  constructor
  · rintro ⟨y, E1, H1, e, q⟩
    cases e with
    | region e1 => exact ⟨_, _, e1, q⟩
  · intro h; exact WC_region h

theorem WK_skip_iff {K : List Fr} {E : Env} {H : Heap} : WK S n0 .skip K E H Q ↔ WP S n0 Q K .normal E H := ⟨by rintro ⟨y, E1, H1, e, q⟩; cases e; exact q, WC_skip⟩
theorem WK_exit_iff {id : Nat} {K : List Fr} {E : Env} {H : Heap} : WK S n0 (.exit id) K E H Q ↔ WP S n0 Q K (.exit id) E H := ⟨by rintro ⟨y, E1, H1, e, q⟩; cases e; exact q, WC_exit⟩
theorem WK_ret_iff {K : List Fr} {E : Env} {H : Heap} : WK S n0 .ret K E H Q ↔ WP S n0 Q K .ret E H := ⟨by rintro ⟨y, E1, H1, e, q⟩; cases e; exact q, WC_ret⟩

theorem WL_nil_iff {d : Bool} {K : List Fr} {E : Env} {H : Heap} : WL S n0 d [] K E H Q ↔ WP S n0 Q K .normal E H := WO_nil_iff

/-- A call, before a contract is offered. -/
def WLcall (S : AProg) (n0 : Nat) (d : Bool) (dst : Option Nat) (x : X) (xs : List X) (sy : Bool) (l : List AOper) (K : List Fr) (E : Env) (H : Heap) (Q : AX → Env → Heap → Prop) : Prop :=
  WOcall S n0 d dst x xs none sy l E H (fun E H => WP S n0 Q K .normal E H)

def stepL (S : AProg) (n0 : Nat) (d : Bool) (dst : Option Nat) (op : AOp) (gu : Option (Nat × Bool)) (sy : Bool) (l : List AOper) (K : List Fr) (E : Env) (H : Heap) (Q : AX → Env → Heap → Prop) : Prop :=
  match gd ⟨dst, op, gu, sy⟩ E with
  | some false => WL S n0 d l K (put E dst .undef) H Q
  | some true =>
    match op with
    | .call x xs => WLcall S n0 d dst x xs sy l K E H Q
    | op =>
      match stp n0 op E H with
      | some (v, H1) => ((d && !sy) = true → H <+: H1) ∧ WL S n0 d l K (put E dst v) H1 Q
      | none => False
  | none => False

theorem WL_cons_iff {d : Bool} {dst : Option Nat} {op : AOp} {gu : Option (Nat × Bool)} {sy : Bool} {l : List AOper} {K : List Fr} {E : Env} {H : Heap} : WL S n0 d (⟨dst, op, gu, sy⟩ :: l) K E H Q ↔ stepL S n0 d dst op gu sy l K E H Q := WO_iff

theorem WL_call {d : Bool} {dst : Option Nat} {sy : Bool} {l : List AOper} {K : List Fr} {E : Env} {H : Heap} {x : X} {args caps vs : List V} {xs : List X} {g : Nat} {v : V} (hx : getX E x = .fn g caps)
    (ha : xs.map (getX E) ++ caps = args) (hp : prep S g H args = some (vs, H)) (h : CQ S g vs v) (k : WL S n0 d l K (put E dst v) H Q) : WLcall S n0 d dst x xs sy l K E H Q :=
  WO_call hx ha hp (h.ct ⟨fun _ => List.prefix_refl H, k⟩)

theorem WL_callT {d : Bool} {dst : Option Nat} {sy : Bool} {l : List AOper} {K : List Fr} {E : Env} {H H1 : Heap} {x : X} {args caps vs : List V} {xs : List X} {g : Nat} (hx : getX E x = .fn g caps)
    (ha : xs.map (getX E) ++ caps = args) (hp : prep S g H args = some (vs, H1)) (h : CT S g vs H1 (fun v H2 => ((d && !sy) = true → H <+: H2) ∧ WL S n0 d l K (put E dst v) H2 Q)) : WLcall S n0 d dst x xs sy l K E H Q :=
  WO_call hx ha hp h

/-- A loop: an invariant, with a number that falls. -/
theorem WK_loop {c : AC} {K : List Fr} {E : Env} {H : Heap} (I : Nat → Env → Heap → Prop) (k : Nat) (h0 : I k E H)
    (round : ∀ k E H, I k E H → WC S n0 c E H (AX.thn (fun E1 H1 => ∃ j, j < k ∧ I j E1 H1) (fun x E H => WP S n0 Q K x E H))) : WK S n0 (.loop c) K E H Q := WC_loop I k h0 round

/-- One round of a loop: the code, with the invariant at its end. -/
theorem WC_round {c : AC} {E : Env} {H : Heap} {J : Env → Heap → Prop} {R : AX → Env → Heap → Prop} (h : WK S n0 c [] E H (AX.thn J R)) : WC S n0 c E H (AX.thn J R) := h

theorem thn_normal {J : Env → Heap → Prop} {R : AX → Env → Heap → Prop} {E : Env} {H : Heap} : AX.thn J R .normal E H ↔ J E H := Iff.rfl
theorem thn_exit {J : Env → Heap → Prop} {R : AX → Env → Heap → Prop} {id : Nat} {E : Env} {H : Heap} : AX.thn J R (.exit id) E H ↔ R (.exit id) E H := Iff.rfl
theorem thn_ret {J : Env → Heap → Prop} {R : AX → Env → Heap → Prop} {E : Env} {H : Heap} : AX.thn J R .ret E H ↔ R .ret E H := Iff.rfl

theorem CQ_run {g : Nat} {f : AFn} {args : List V} {v : V} (hf : S.fn g = some f)
    (h : ∀ H, WK S H.length f.body [] (E0 args) H (fun x E1 H1 => (x = .normal ∨ x = .ret) ∧ ∃ v0, resV E1 H1 f.results = some v0 ∧ fin f.own H.length H1 v0 = some (v, H))) : CQ S g args v := CQ_of hf h

end

theorem fin_sl {n : Nat} {H : Heap} {l : List V} : fin false n H (.sl l) = some (.sl l, H.take n) := rfl
theorem fin_int {n : Nat} {H : Heap} {k : IntKind} {i : Int} : fin false n H (.int k i) = some (.int k i, H.take n) := rfl
theorem fin_bool {n : Nat} {H : Heap} {b : Bool} : fin false n H (.bool b) = some (.bool b, H.take n) := rfl

@[simp] theorem vcells_agg {cs : List V} : (V.agg cs).cells = cs := rfl
@[simp] theorem vcells_bool {b : Bool} : (V.bool b).cells = [.bool b] := rfl
@[simp] theorem vcells_int {k : IntKind} {n : Int} : (V.int k n).cells = [.int k n] := rfl
@[simp] theorem vcells_sl {l : List V} : (V.sl l).cells = [.sl l] := rfl
@[simp] theorem vcells_nil : V.nil.cells = [.nil] := rfl
@[simp] theorem vcells_ref {b z off len : Nat} : (V.ref b z off len).cells = [.ref b z off len] := rfl
@[simp] theorem vcells_ptr {b i off : Nat} : (V.ptr b i off).cells = [.ptr b i off] := rfl
@[simp] theorem vcells_fn {g : Nat} {cs : List V} : (V.fn g cs).cells = [.fn g cs] := rfl
@[simp] theorem vtup_agg {cs : List V} : (V.agg cs).isTup = false := rfl
@[simp] theorem vtup_bool {b : Bool} : (V.bool b).isTup = false := rfl
@[simp] theorem vtup_int {k : IntKind} {n : Int} : (V.int k n).isTup = false := rfl
@[simp] theorem vtup_sl {l : List V} : (V.sl l).isTup = false := rfl
@[simp] theorem vtup_nil : V.nil.isTup = false := rfl
@[simp] theorem vtup_ref {b z off len : Nat} : (V.ref b z off len).isTup = false := rfl
@[simp] theorem vtup_ptr {b i off : Nat} : (V.ptr b i off).isTup = false := rfl
@[simp] theorem vtup_fn {g : Nat} {cs : List V} : (V.fn g cs).isTup = false := rfl

attribute [simp] fin_sl fin_int fin_bool WP_nil WP_seq WP_seq_exit WP_seq_ret WP_blk WK_seq_iff WK_block_iff WK_region_iff WK_skip_iff WK_exit_iff WK_ret_iff WL_nil_iff thn_normal thn_exit thn_ret
attribute [simp] getX put upd_apply E0 AX.outOf binV binI unV natOf optNat stStore wrapC V.isNil resV resVs resV1

end Go.Abs
/- Limbs: what the functions on lists of limbs compute. -/
namespace Go.Abs
attribute [local simp] WK_cond_iff WL_cons_iff stepL gd

def u32 (x : Nat) : V := .int .u32 (x : Int)
def lim (l : List Nat) : V := .sl (l.map u32)
def i64 (n : Int) : V := .int .i64 n
@[simp] theorem cells_u32 {x : Nat} : (u32 x).cells = [u32 x] := rfl
@[simp] theorem cells_lim {l : List Nat} : (lim l).cells = [lim l] := rfl
@[simp] theorem cells_i64 {n : Int} : (i64 n).cells = [i64 n] := rfl
@[simp] theorem isTup_u32 {x : Nat} : (u32 x).isTup = false := rfl
@[simp] theorem isTup_lim {l : List Nat} : (lim l).isTup = false := rfl
@[simp] theorem isTup_i64 {n : Int} : (i64 n).isTup = false := rfl

theorem fn_natural_trim : prog.fn g_natural_trim = some c_natural_trim := by rfl

set_option maxHeartbeats 1000000 in
theorem trim_cq (l : List Nat) (hl : l.length ≤ 9223372036854775807) : CQ prog g_natural_trim [lim l] (lim (trimL l)) := by
  refine CQ_run fn_natural_trim fun H => ?_
  simp [c_natural_trim, c_natural_trim_r0, c_natural_trim_r1, lim]
  refine WK_loop (fun k E H' => H' = H ∧ E 0 = lim l ∧ k ≤ l.length ∧ E 3 = .int .i64 k ∧ trimN l k = trimN l l.length) l.length ?_ ?_
  · simp [lim]
  · rintro n E H' ⟨rfl, h0, hn, h3, ht⟩
    refine WC_round ?_
    simp only [lim] at h0
    rcases n with _ | n
    · simp [c_natural_trim_l0, c_natural_trim_r2, h0, h3, trimL, ← ht, trimN]
    · have e1 : IntKind.i64.wrap (n : Int) = n := by rw [wrap_i64] <;> omega
      have hlt : n < l.length := by omega
      have p1 : (0 : Int) ≤ (n : Int) + 1 := by omega
      by_cases hx : l[n] = 0
      · simp [c_natural_trim_l0, c_natural_trim_r2, c_natural_trim_r3, h0, h3, e1, hlt, hx, u32]
        refine ⟨n, by omega, rfl, by omega, rfl, ?_⟩
        rw [← ht, trimN, if_pos (by rw [List.getElem?_eq_getElem hlt, hx])]
      · simp [c_natural_trim_l0, c_natural_trim_r2, h0, h3, e1, hlt, hx, u32, p1, hn]
        rw [trimL, ← ht, trimN, if_neg (by rw [List.getElem?_eq_getElem hlt]; simpa using hx), List.map_take]

@[simp] theorem frzVs_lim (H : Heap) (l : List Nat) (vs : List V) : frzVs H (lim l :: vs) = (frzVs H vs).bind fun p => some (lim l :: p.1, p.2) := rfl
@[simp] theorem frzVs_int (H : Heap) (k : IntKind) (n : Int) (vs : List V) : frzVs H (.int k n :: vs) = (frzVs H vs).bind fun p => some (.int k n :: p.1, p.2) := rfl
@[simp] theorem frzVs_bool (H : Heap) (b : Bool) (vs : List V) : frzVs H (.bool b :: vs) = (frzVs H vs).bind fun p => some (.bool b :: p.1, p.2) := rfl
@[simp] theorem frzVs_nil (H : Heap) : frzVs H [] = some ([], H) := rfl

theorem fn_natural_Cmp : prog.fn g_natural_Cmp = some c_natural_Cmp := by rfl

theorem prep_trim (H : Heap) (l : List Nat) : prep prog 111 H [lim l] = some ([lim l], H) := rfl

set_option maxHeartbeats 1000000 in
theorem Cmp_cq (a b : List Nat) (ha : a.length ≤ 9223372036854775807) (hb : b.length ≤ 9223372036854775807) (la : Li a) (lb : Li b) : CQ prog g_natural_Cmp [lim a, lim b] (i64 (cmpN (natV a) (natV b))) := by
  refine CQ_run fn_natural_Cmp fun H => ?_
  simp
  refine WL_call rfl rfl (prep_trim H a) (trim_cq a ha) ?_
  simp
  refine WL_call rfl rfl (prep_trim H b) (trim_cq b hb) ?_
  rw [← natV_trimL a, ← natV_trimL b]
  have ta := trim_trimL a
  have tb := trim_trimL b
  have la' := la.trimL
  have lb' := lb.trimL
  have hla : (trimL a).length ≤ 9223372036854775807 := by unfold trimL; simp; omega
  generalize trimL a = x at *
  generalize trimL b = y at *
  by_cases hlt : x.length < y.length
  · have h1 : ¬ ((x.length : Int) = (y.length : Int)) := by omega
    have h2 := natV_lt_of_len la' tb hlt
    simp [lim, hlt, h1, cmpN, h2, i64]
  · by_cases hgt : y.length < x.length
    · have h1 : ¬ ((x.length : Int) = (y.length : Int)) := by omega
      have h2 := natV_lt_of_len lb' ta hgt
      have h3 : ¬ natV x < natV y := by omega
      simp [lim, hlt, h1, cmpN, h2, h3, i64]
    · have heq : x.length = y.length := by omega
      simp [lim, heq]
      refine WK_loop (fun k E H' => H' = H ∧ E 0 = lim x ∧ E 1 = lim y ∧ k ≤ x.length ∧ E 5 = .int .i64 ((k : Int) - 1) ∧ x.drop k = y.drop k) x.length ?_ ?_
      · have e1 : IntKind.i64.wrap ((y.length : Int) - 1) = (y.length : Int) - 1 := by rw [wrap_i64] <;> omega
        have e2 : y.drop x.length = [] := by rw [heq]; exact List.drop_length
        simp [lim, e1, heq]
      · rintro n E H' ⟨rfl, h0, h1, hn, h5, hd⟩
        refine WC_round ?_
        simp only [lim] at h0 h1
        rcases n with _ | n
        · have e1 : x = y := by simpa using hd
          have e2 : ¬ ((0 : Int) ≤ -1) := by omega
          simp [c_natural_Cmp_l0, h5, e1, cmpN, i64]
        · have e1 : (n + 1 : Int) - 1 = n := by omega
          have hx : n < x.length := by omega
          have hy : n < y.length := by omega
          have p1 : ((0 : Int) ≤ n) := by omega
          by_cases hlt : x[n] < y[n]
          · have h2 := natV_lt_of_top la' hx hy hd hlt
            have h3 : ((x[n] : Int) < (y[n] : Int)) := by omega
            simp [c_natural_Cmp_l0, h0, h1, h5, e1, p1, hx, hy, u32, hlt, cmpN, h2, i64]
          · by_cases hgt : y[n] < x[n]
            · have h2 := natV_lt_of_top lb' hy hx hd.symm hgt
              have h3 : ¬ natV x < natV y := by omega
              simp [c_natural_Cmp_l0, h0, h1, h5, e1, p1, hx, hy, u32, hlt, hgt, cmpN, h2, h3, i64]
            · have e2 : IntKind.i64.wrap ((n : Int) - 1) = (n : Int) - 1 := by rw [wrap_i64] <;> omega
              simp [c_natural_Cmp_l0, h0, h1, h5, e1, p1, hx, hy, u32, hlt, hgt, e2]
              refine ⟨n, by omega, rfl, rfl, by omega, rfl, ?_⟩
              rw [List.drop_eq_getElem_cons hx, List.drop_eq_getElem_cons hy, hd]
              congr 1
              omega

end Go.Abs
/- The number of the bits of a limb. -/
namespace Go.Abs
theorem fn_Len32 : prog.fn g_math_bits_Len32 = some c_math_bits_Len32 := by rfl

/-- The number of the bits. -/
def bitL (n : Nat) : Nat := if n = 0 then 0 else Nat.log2 n + 1

theorem tab_len : ∀ i : Fin 256, str_0[i.val]? = some (UInt8.ofNat (bitL i.val)) := by decide +kernel

theorem tab_at {i : Nat} (h : i < 256) : str_0[i]? = some (UInt8.ofNat (bitL i)) := tab_len ⟨i, h⟩

theorem bitL_le {i : Nat} (h : i < 256) : bitL i ≤ 8 := by
  have : ∀ i : Fin 256, bitL i.val ≤ 8 := by decide +kernel
  exact this ⟨i, h⟩

theorem bitL_shift {n k : Nat} (h : 2 ^ k ≤ n) : bitL n = bitL (n / 2 ^ k) + k := by
  have h0 : 0 < 2 ^ k := Nat.two_pow_pos k
  have h1 : n ≠ 0 := by omega
  have h2 : n / 2 ^ k ≠ 0 := by
    have := (Nat.le_div_iff_mul_le h0 (x := 1) (y := n)).2 (by omega)
    omega
  unfold bitL
  rw [if_neg h1, if_neg h2]
  have : Nat.log2 n = Nat.log2 (n / 2 ^ k) + k := by
    rw [Nat.log2_eq_iff h1]
    have h3 := (Nat.log2_eq_iff h2).1 rfl
    rw [Nat.pow_add, show Nat.log2 (n / 2 ^ k) + k + 1 = (Nat.log2 (n / 2 ^ k) + 1) + k by omega, Nat.pow_add]
    exact ⟨(Nat.le_div_iff_mul_le h0).1 h3.1, (Nat.div_lt_iff_lt_mul h0).1 h3.2⟩
  omega

theorem bitL_eq {n b : Nat} (h0 : n ≠ 0) (h1 : 2 ^ b ≤ n) (h2 : n < 2 ^ (b + 1)) : bitL n = b + 1 := by
  unfold bitL
  rw [if_neg h0, (Nat.log2_eq_iff h0).2 ⟨h1, h2⟩]

theorem bitL_pow {n : Nat} (h : n ≠ 0) : 2 ^ (bitL n - 1) ≤ n ∧ n < 2 ^ bitL n ∧ 0 < bitL n := by
  unfold bitL
  rw [if_neg h]
  have := (Nat.log2_eq_iff h).1 rfl
  exact ⟨this.1, this.2, by omega⟩

theorem pow32 (n : Nat) : 4294967296 ^ n = 2 ^ (32 * n) := by rw [Nat.pow_mul]

/-- The bits of trimmed limbs: of the top one, and 32 for each other one. -/
theorem bitL_top {l : List Nat} {t : Nat} (hl : Li l) (ht : t ≠ 0) : bitL (natV (l ++ [t])) = 32 * l.length + bitL t := by
  have h1 := natV_lt hl
  obtain ⟨h2, h3, h4⟩ := bitL_pow ht
  rw [natV_append]
  simp only [natV, Nat.mul_zero, Nat.add_zero]
  rw [pow32] at h1 ⊢
  have e1 : 2 ^ (32 * l.length) * t ≥ 2 ^ (32 * l.length) * 2 ^ (bitL t - 1) := Nat.mul_le_mul_left _ h2
  have e2 : 2 ^ (32 * l.length) * (t + 1) ≤ 2 ^ (32 * l.length) * 2 ^ bitL t := Nat.mul_le_mul_left _ h3
  rw [← Nat.pow_add] at e1 e2
  rw [Nat.mul_add, Nat.mul_one] at e2
  have hp := Nat.two_pow_pos (32 * l.length + (bitL t - 1))
  have := bitL_eq (n := natV l + 2 ^ (32 * l.length) * t) (b := 32 * l.length + (bitL t - 1)) (by omega) (by omega) (by rw [show 32 * l.length + (bitL t - 1) + 1 = 32 * l.length + bitL t by omega]; omega)
  omega

theorem bitL_lt {t : Nat} (h : t < 4294967296) : bitL t ≤ 32 := by
  unfold bitL
  split
  · omega
  · rename_i h0
    have := (Nat.log2_lt h0 (k := 32)).2 (by omega)
    omega

end Go.Abs
namespace Go.Abs
attribute [local simp] WK_cond_iff WL_cons_iff stepL gd shiftI

theorem fdiv_nat (x k : Nat) : Int.fdiv (x : Int) (k : Int) = ((x / k : Nat) : Int) := by
  rw [Int.fdiv_eq_ediv_of_nonneg _ (by omega)]; rfl

theorem fdiv_65536 (x : Nat) : Int.fdiv (x : Int) 65536 = ((x / 65536 : Nat) : Int) := fdiv_nat x 65536
theorem fdiv_256 (x : Nat) : Int.fdiv (x : Int) 256 = ((x / 256 : Nat) : Int) := fdiv_nat x 256

theorem wrap_u8 {n : Int} (h1 : 0 ≤ n) (h2 : n < 256) : IntKind.wrap .u8 n = n := by
  simp only [IntKind.wrap, IntKind.bits, IntKind.signed]; simp; omega

theorem len_fact {y : Nat} (h : y < 256) : ((UInt8.ofNat (bitL y)).toNat : Int) = bitL y := by
  have := bitL_le h
  simp; omega

@[simp] theorem bits_u32 : IntKind.u32.bits = 32 := rfl
@[simp] theorem bits_u64 : IntKind.u64.bits = 64 := rfl
@[simp] theorem bits_i64 : IntKind.i64.bits = 64 := rfl
theorem min_8 : Nat.min 8 32 = 8 := rfl
theorem min_16 : Nat.min 16 32 = 16 := rfl
theorem w8 : IntKind.i64.wrap 8 = 8 := by decide
theorem w24 : IntKind.i64.wrap 24 = 24 := by decide

set_option maxHeartbeats 1000000 in
theorem Len32_cq (x : Nat) (hx : x < 4294967296) : CQ prog g_math_bits_Len32 [u32 x] (i64 (bitL x)) := by
  refine CQ_run fn_Len32 fun H => ?_
  have fin' : ∀ (y k : Nat), y < 256 → k ≤ 24 → bitL x = bitL y + k → IntKind.i64.wrap ((k : Int) + IntKind.i64.wrap (((UInt8.ofNat (bitL y)).toNat : Nat) : Int)) = bitL x := by
    intro y k hy hk he
    have := bitL_le hy
    rw [len_fact hy, wrap_i64 (n := (bitL y : Int)) (by omega) (by omega), wrap_i64 (by omega) (by omega), he]
    omega
  have u8' : ∀ y : Nat, y < 256 → IntKind.u8.wrap (y : Int) = y := fun y hy => wrap_u8 (by omega) (by omega)
  by_cases h1 : x < 65536
  · have e1 : ¬ ((65536 : Int) ≤ x) := by omega
    by_cases h2 : x < 256
    · have e2 : ¬ ((256 : Int) ≤ x) := by omega
      have := fin' x 0 h2 (by omega) rfl
      simp [u32, e1, e2, u8' x h2, tab_at h2, i64]
      simpa using this
    · have e2 : ((256 : Int) ≤ x) := by omega
      obtain ⟨y, hy⟩ : ∃ y, y = x / 256 := ⟨_, rfl⟩
      have f1 : Int.fdiv (x : Int) 256 = (y : Int) := by rw [hy]; exact fdiv_256 x
      have h3 : y < 256 := by omega
      have := fin' y 8 h3 (by omega) (by rw [hy]; exact bitL_shift (k := 8) (by omega))
      simp [u32, e1, e2, f1, w8, u8' _ h3, tab_at h3, i64]
      simpa using this
  · have e1 : ((65536 : Int) ≤ x) := by omega
    obtain ⟨y, hy⟩ : ∃ y, y = x / 65536 := ⟨_, rfl⟩
    have f1 : Int.fdiv (x : Int) 65536 = (y : Int) := by rw [hy]; exact fdiv_65536 x
    have he : bitL x = bitL y + 16 := by rw [hy]; exact bitL_shift (k := 16) (by omega)
    by_cases h2 : y < 256
    · have e2 : ¬ ((256 : Int) ≤ y) := by omega
      have := fin' y 16 h2 (by omega) he
      simp [u32, e1, e2, f1, u8' _ h2, tab_at h2, i64]
      simpa using this
    · have e2 : ((256 : Int) ≤ y) := by omega
      obtain ⟨z, hz⟩ : ∃ z, z = y / 256 := ⟨_, rfl⟩
      have f2 : Int.fdiv (y : Int) 256 = (z : Int) := by rw [hz]; exact fdiv_256 y
      have h3 : z < 256 := by omega
      have he2 : bitL y = bitL z + 8 := by rw [hz]; exact bitL_shift (k := 8) (by omega)
      have := fin' z 24 h3 (by omega) (by rw [he, he2])
      simp [u32, e1, e2, f1, f2, w24, u8' _ h3, tab_at h3, i64]
      simpa using this
end Go.Abs
namespace Go.Abs
attribute [local simp] WK_cond_iff WL_cons_iff stepL gd

theorem fn_natural_Bits : prog.fn g_natural_Bits = some c_natural_Bits := by rfl

@[simp] theorem prep_lim (g : Nat) (hg : (prog.fn g).elim true (fun f => !f.raw) = true) (H : Heap) (l : List Nat) : prep prog g H [lim l] = some ([lim l], H) := by
  unfold prep
  cases hq : prog.fn g with
  | none => rfl
  | some f => rw [hq] at hg; simp at hg; simp [hg]

theorem snoc_cases (l : List Nat) : l = [] ∨ ∃ k t, l = k ++ [t] := by
  cases l with
  | nil => exact .inl rfl
  | cons x xs => exact .inr ⟨(x :: xs).dropLast, (x :: xs).getLast (by simp), (List.dropLast_concat_getLast (by simp)).symm⟩

set_option maxHeartbeats 1000000 in
theorem Bits_cq (a : List Nat) (ha : a.length ≤ 100000000) (la : Li a) : CQ prog g_natural_Bits [lim a] (i64 (bitL (natV a))) := by
  refine CQ_run fn_natural_Bits fun H => ?_
  simp
  refine WL_call rfl rfl (prep_trim H a) (trim_cq a (by omega)) ?_
  rw [← natV_trimL a]
  have ta := trim_trimL a
  have la' := la.trimL
  have hla : (trimL a).length ≤ 100000000 := by unfold trimL; simp; omega
  generalize trimL a = x at *
  rcases snoc_cases x with rfl | ⟨k, t, rfl⟩
  · simp [lim, natV, bitL, i64]
  · have hk : k.length ≤ 100000000 := by simp at hla; omega
    have ht : t ≠ 0 := ta t (by simp)
    have ht2 : t < 4294967296 := la' t (by simp)
    have lk : Li k := fun y hy => la' y (by simp [hy])
    have e1 : ¬ ((k.length : Int) + 1 = 0) := by omega
    have e2 : IntKind.i64.wrap (k.length : Int) = k.length := by rw [wrap_i64] <;> omega
    have e3 : IntKind.i64.wrap (32 * (k.length : Int)) = 32 * k.length := by rw [wrap_i64] <;> omega
    simp [lim, e1, e2, e3]
    refine WL_call rfl rfl (vs := [u32 t]) rfl (Len32_cq t ht2) ?_
    have e4 : IntKind.i64.wrap (32 * (k.length : Int) + bitL t) = bitL (natV (k ++ [t])) := by
      have := bitL_lt ht2
      rw [bitL_top lk ht, wrap_i64] <;> omega
    simp [i64, e4]

end Go.Abs
/- Rules that open both ways of a branch: simp runs a function to its calls and loops on all of its paths. -/
namespace Go.Abs

section
variable {S : AProg} {n0 : Nat} {Q : AX → Env → Heap → Prop}

/-- A branch on a value. -/
def WKc (S : AProg) (n0 : Nat) (v : V) (a b : AC) (K : List Fr) (E : Env) (H : Heap) (Q : AX → Env → Heap → Prop) : Prop :=
  match v with
  | .bool true => WK S n0 a K E H Q
  | .bool false => WK S n0 b K E H Q
  | _ => False

theorem WKc_bool {t : Bool} {a b : AC} {K : List Fr} {E : Env} {H : Heap} : WKc S n0 (.bool t) a b K E H Q ↔ (t = true → WK S n0 a K E H Q) ∧ (t = false → WK S n0 b K E H Q) := by cases t <;> simp [WKc]
theorem WKc_true {a b : AC} {K : List Fr} {E : Env} {H : Heap} : WKc S n0 (.bool true) a b K E H Q ↔ WK S n0 a K E H Q := Iff.rfl
theorem WKc_false {a b : AC} {K : List Fr} {E : Env} {H : Heap} : WKc S n0 (.bool false) a b K E H Q ↔ WK S n0 b K E H Q := Iff.rfl

theorem WK_cond_x {x : X} {a b : AC} {K : List Fr} {E : Env} {H : Heap} : WK S n0 (.cond x a b) K E H Q ↔ WKc S n0 (getX E x) a b K E H Q := by
  rw [WK_cond_iff]; unfold WKc; split <;> simp_all

/-- An operation that is done. -/
def stepN (S : AProg) (n0 : Nat) (d : Bool) (dst : Option Nat) (op : AOp) (sy : Bool) (l : List AOper) (K : List Fr) (E : Env) (H : Heap) (Q : AX → Env → Heap → Prop) : Prop :=
  match op with
  | .call x xs => WLcall S n0 d dst x xs sy l K E H Q
  | op =>
    match stp n0 op E H with
    | some (v, H1) => ((d && !sy) = true → H <+: H1) ∧ WL S n0 d l K (put E dst v) H1 Q
    | none => False

theorem WL_none {d : Bool} {dst : Option Nat} {op : AOp} {sy : Bool} {l : List AOper} {K : List Fr} {E : Env} {H : Heap} :
    WL S n0 d (⟨dst, op, none, sy⟩ :: l) K E H Q ↔ stepN S n0 d dst op sy l K E H Q := WL_cons_iff

theorem upd_self {E : Env} {t : Nat} {v : V} (h : E t = v) : upd E t v = E := by
  funext i; unfold upd; split
  · rename_i e; rw [e, h]
  · rfl

/-- An operation with a guard. -/
def WLg (S : AProg) (n0 : Nat) (v : V) (t : Nat) (want d : Bool) (dst : Option Nat) (op : AOp) (sy : Bool) (l : List AOper) (K : List Fr) (E : Env) (H : Heap) (Q : AX → Env → Heap → Prop) : Prop :=
  match v with
  | .bool b => if b = want then stepN S n0 d dst op sy l K (upd E t (.bool b)) H Q else WL S n0 d l K (put (upd E t (.bool b)) dst .undef) H Q
  | .tup _ => WL S n0 d l K (put E dst .undef) H Q
  | _ => False

theorem WL_some {d : Bool} {dst : Option Nat} {op : AOp} {sy : Bool} {l : List AOper} {K : List Fr} {E : Env} {H : Heap} {t : Nat} {want : Bool} :
    WL S n0 d (⟨dst, op, some (t, want), sy⟩ :: l) K E H Q ↔ WLg S n0 (E t) t want d dst op sy l K E H Q := by
  rw [WL_cons_iff]
  unfold stepL WLg gd
  simp only
  cases hv : E t with
  | bool b => cases b <;> cases want <;> (simp only [upd_self hv]; exact Iff.rfl)
  | tup vs => exact Iff.rfl
  | _ => exact Iff.rfl

variable {t : Nat} {d : Bool} {dst : Option Nat} {op : AOp} {sy : Bool} {l : List AOper} {K : List Fr} {E : Env} {H : Heap}

theorem WLg_t {b : Bool} : WLg S n0 (.bool b) t true d dst op sy l K E H Q ↔ (b = true → stepN S n0 d dst op sy l K (upd E t (.bool true)) H Q) ∧ (b = false → WL S n0 d l K (put (upd E t (.bool false)) dst .undef) H Q) := by
  cases b <;> simp [WLg]
theorem WLg_f {b : Bool} : WLg S n0 (.bool b) t false d dst op sy l K E H Q ↔ (b = true → WL S n0 d l K (put (upd E t (.bool true)) dst .undef) H Q) ∧ (b = false → stepN S n0 d dst op sy l K (upd E t (.bool false)) H Q) := by
  cases b <;> simp [WLg]
theorem WLg_tt : WLg S n0 (.bool true) t true d dst op sy l K E H Q ↔ stepN S n0 d dst op sy l K (upd E t (.bool true)) H Q := Iff.rfl
theorem WLg_ft : WLg S n0 (.bool false) t true d dst op sy l K E H Q ↔ WL S n0 d l K (put (upd E t (.bool false)) dst .undef) H Q := Iff.rfl
theorem WLg_tf : WLg S n0 (.bool true) t false d dst op sy l K E H Q ↔ WL S n0 d l K (put (upd E t (.bool true)) dst .undef) H Q := Iff.rfl
theorem WLg_ff : WLg S n0 (.bool false) t false d dst op sy l K E H Q ↔ stepN S n0 d dst op sy l K (upd E t (.bool false)) H Q := Iff.rfl
theorem WLg_tup {want : Bool} {vs : List V} : WLg S n0 (.tup vs) t want d dst op sy l K E H Q ↔ WL S n0 d l K (put E dst .undef) H Q := Iff.rfl
theorem WLg_undef {want : Bool} : WLg S n0 .undef t want d dst op sy l K E H Q ↔ WL S n0 d l K (put E dst .undef) H Q := Iff.rfl

end

/-- A loop that counts up. -/
theorem WK_up {S : AProg} {n0 : Nat} {Q : AX → Env → Heap → Prop} {c : AC} {K : List Fr} {E : Env} {H : Heap} (I : Nat → Env → Heap → Prop) (n : Nat) (h0 : I 0 E H)
    (round : ∀ i E H, i ≤ n → I i E H → WK S n0 c [] E H (AX.thn (fun E1 H1 => i < n ∧ I (i + 1) E1 H1) (fun x E H => WP S n0 Q K x E H))) : WK S n0 (.loop c) K E H Q := by
  refine WK_loop (fun k E H => ∃ i, i + k = n ∧ I i E H) n ⟨0, by omega, h0⟩ ?_
  rintro k E H ⟨i, hi, h⟩
  refine WC_mono (round i E H (by omega) h) ?_
  intro x E1 H1 hx
  cases x with
  | normal => exact ⟨k - 1, by have := hx.1; omega, i + 1, by have := hx.1; omega, hx.2⟩
  | exit id => exact hx
  | ret => exact hx

theorem getE_app {α : Type} (H l : List α) (k : Nat) : (H ++ l)[H.length + k]? = l[k]? := by
  rw [List.getElem?_append_right (by omega)]; congr 1; omega
theorem getE_app0 {α : Type} (H l : List α) : (H ++ l)[H.length]? = l[0]? := getE_app H l 0
theorem set_app {α : Type} (H l : List α) (k : Nat) (v : α) : (H ++ l).set (H.length + k) v = H ++ l.set k v := by
  rw [List.set_append_right _ _ (by omega)]; congr 2; omega
theorem set_app0 {α : Type} (H l : List α) (v : α) : (H ++ l).set H.length v = H ++ l.set 0 v := set_app H l 0 v

attribute [simp low] WKc_bool WLg_t WLg_f
attribute [simp] WK_cond_x WKc_true WKc_false stepN WL_none WL_some WLg_tt WLg_ft WLg_tf WLg_ff WLg_tup WLg_undef getE_app getE_app0 set_app set_app0

end Go.Abs
