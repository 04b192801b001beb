/- Parts of the proof: FpReads, FpTrace, FpDraw, FpDrawn, FpDrawn2, FpFin, FpIdle, FpSound, FpRange, FpMain, FpIter, FpSeat, FpGlue. -/
import Derived.Orders
import Derived.OrdersIn
import Derived.RangeFuncRecord
import Derived.LoopNIn
import Derived.ProofKit
import Derived.Test.YtnlmgfdifcflgaaGreatFb
import Derived.Test.YtnlmgfdifcflgaaGreatF0
/- An operation hangs on the variables that it names, and on no other. -/
namespace Go.Abs

variable {T : Tab}

theorem cX_reads {x : Operand} {c : X} (h : cX T x = some c) {t : Nat} (hx : x = .tmp t) : t ∈ c.reads := by
 subst hx
 simp only [cX] at h
 injection h with h
 subst h
 simp [X.reads]

theorem cXs_reads : ∀ (xs : List Operand) {cs : List X} (_ : cXs T xs = some cs) {t : Nat}, Operand.tmp t ∈ xs → t ∈ cs.flatMap X.reads
 | [], cs, h, t, ht => by cases ht
 | x :: xs, cs, h, t, ht => by
   simp only [cXs, Option.bind_eq_some_iff] at h
   obtain ⟨c, h1, cs', h2, h3⟩ := h
   injection h3 with h3
   subst h3
   rw [List.flatMap_cons, List.mem_append]
   rcases List.mem_cons.1 ht with h4 | h4
   · exact .inl (cX_reads h1 h4.symm)
   · exact .inr (cXs_reads xs h2 h4)

theorem cParts_reads (place : Nat → Option (Nat × Nat)) : ∀ (ps : List (Nat × Operand)) {cs : List (Nat × Nat × X)} (_ : cParts T place ps = some cs) {t : Nat}, Operand.tmp t ∈ ps.map (·.2) → t ∈ cs.flatMap fun p => p.2.2.reads
 | [], cs, h, t, ht => by cases ht
 | (j, x) :: ps, cs, h, t, ht => by
   simp only [cParts, Option.bind_eq_some_iff] at h
   obtain ⟨⟨off, size⟩, h1, c, h2, cs', h3, h4⟩ := h
   injection h4 with h4
   subst h4
   rw [List.flatMap_cons, List.mem_append]
   rcases List.mem_cons.1 ht with h5 | h5
   · exact .inl (cX_reads h2 h5.symm)
   · exact .inr (cParts_reads place ps h3 h5)

theorem cElems_reads : ∀ (ps : List (Nat × Operand)) {cs : List (Nat × X)} (_ : cElems T ps = some cs) {t : Nat}, Operand.tmp t ∈ ps.map (·.2) → t ∈ cs.flatMap fun p => p.2.reads
 | [], cs, h, t, ht => by cases ht
 | (j, x) :: ps, cs, h, t, ht => by
   simp only [cElems, Option.bind_eq_some_iff] at h
   obtain ⟨c, h2, cs', h3, h4⟩ := h
   injection h4 with h4
   subst h4
   rw [List.flatMap_cons, List.mem_append]
   rcases List.mem_cons.1 ht with h5 | h5
   · exact .inl (cX_reads h2 h5.symm)
   · exact .inr (cElems_reads ps h3 h5)

theorem cOX_reads {x : Option Operand} {c : Option X} (h : cOX T x = some c) {t : Nat} (ht : x = some (.tmp t)) : t ∈ OX.reads c := by
 subst ht
 simp only [cOX] at h
 obtain ⟨q, h1, rfl⟩ := map_some_inv h
 exact cX_reads h1 rfl

theorem cOp_reads {o : Op} {op : AOp} (h : cOp T o = some op) {t : Nat} (ht : Operand.tmp t ∈ o.operands) : t ∈ op.reads := by
 cases o
 case move x =>
   obtain ⟨x', h1, rfl⟩ := map_some_inv h
   simp only [Op.operands, List.mem_toArray, List.mem_singleton] at ht
   exact cX_reads h1 ht.symm
 case assign x =>
   obtain ⟨x', h1, rfl⟩ := map_some_inv h
   simp only [Op.operands, List.mem_toArray, List.mem_singleton] at ht
   exact cX_reads h1 ht.symm
 case pick c x y =>
   obtain ⟨c', h1, h⟩ := bind_some_inv h
   obtain ⟨x', h2, h⟩ := bind_some_inv h
   obtain ⟨y', h3, rfl⟩ := map_some_inv h
   simp only [Op.operands, List.mem_toArray, List.mem_cons, List.not_mem_nil, or_false] at ht
   simp only [AOp.reads, List.mem_append]
   rcases ht with ht | ht | ht
   · exact .inl (.inl (cX_reads h1 ht.symm))
   · exact .inl (.inr (cX_reads h2 ht.symm))
   · exact .inr (cX_reads h3 ht.symm)
 case alloc => simp [Op.operands] at ht
 case box t' x =>
   obtain ⟨z, h1, h⟩ := bind_some_inv h
   obtain ⟨x', h2, rfl⟩ := map_some_inv h
   simp only [Op.operands, List.mem_toArray, List.mem_singleton] at ht
   exact cX_reads h2 ht.symm
 case build t' ps =>
   simp only [Op.operands, List.mem_toArray] at ht
   simp only [cOp] at h
   split at h
   · split at h
     · obtain ⟨zv, h1, h⟩ := bind_some_inv h
       obtain ⟨ps', h2, rfl⟩ := map_some_inv h
       exact cParts_reads _ _ h2 ht
     · cases h
   · obtain ⟨zv, h1, h⟩ := bind_some_inv h
     obtain ⟨s, h1', h⟩ := bind_some_inv h
     obtain ⟨ps', h2, rfl⟩ := map_some_inv h
     exact cParts_reads _ _ h2 ht
   · cases h
 case buildSlice t' len ps =>
   simp only [Op.operands, List.mem_toArray] at ht
   obtain ⟨e, h1, h⟩ := bind_some_inv h
   obtain ⟨zv, h2, h⟩ := bind_some_inv h
   obtain ⟨z, h3, h⟩ := bind_some_inv h
   obtain ⟨ps', h4, h⟩ := bind_some_inv h
   split at h
   · injection h with h; subst h; exact cElems_reads _ h4 ht
   · cases h
 case load t' x =>
   obtain ⟨ag, h1, h⟩ := bind_some_inv h
   obtain ⟨z, h2, h⟩ := bind_some_inv h
   obtain ⟨x', h3, rfl⟩ := map_some_inv h
   simp only [Op.operands, List.mem_toArray, List.mem_singleton] at ht
   exact cX_reads h3 ht.symm
 case store t' x y =>
   obtain ⟨z, h1, h⟩ := bind_some_inv h
   obtain ⟨x', h2, h⟩ := bind_some_inv h
   obtain ⟨y', h3, rfl⟩ := map_some_inv h
   simp only [Op.operands, List.mem_toArray, List.mem_cons, List.not_mem_nil, or_false] at ht
   simp only [AOp.reads, List.mem_append]
   rcases ht with ht | ht
   · exact .inl (cX_reads h2 ht.symm)
   · exact .inr (cX_reads h3 ht.symm)
 case binOp bop t' x y u =>
   obtain ⟨bk, h1, h⟩ := bind_some_inv h
   obtain ⟨x', h2, h⟩ := bind_some_inv h
   obtain ⟨y', h3, rfl⟩ := map_some_inv h
   simp only [Op.operands, List.mem_toArray, List.mem_cons, List.not_mem_nil, or_false] at ht
   simp only [AOp.reads, List.mem_append]
   rcases ht with ht | ht
   · exact .inl (cX_reads h2 ht.symm)
   · exact .inr (cX_reads h3 ht.symm)
 case unOp uop t' x =>
   obtain ⟨x', h2, rfl⟩ := map_some_inv h
   simp only [Op.operands, List.mem_toArray, List.mem_singleton] at ht
   exact cX_reads h2 ht.symm
 case convert src dst x =>
   simp only [cOp] at h
   split at h
   · obtain ⟨x', h2, rfl⟩ := map_some_inv h
     simp only [Op.operands, List.mem_toArray, List.mem_singleton] at ht
     exact cX_reads h2 ht.symm
   · cases h
 case makeFunc fn first caps =>
   cases fn <;> simp only [cOp] at h <;> try (cases h; done)
   split at h
   · rename_i hf0
     obtain ⟨g, h1, h⟩ := bind_some_inv h
     obtain ⟨cs, h2, rfl⟩ := map_some_inv h
     have hfe : first = #[] := Array.eq_empty_of_size_eq_zero hf0
     subst hfe
     simp only [Op.operands, Array.empty_append] at ht
     exact cXs_reads _ h2 (by simpa using ht)
   · cases h
 case makeSlice t' l c =>
   obtain ⟨e, h1, h⟩ := bind_some_inv h
   obtain ⟨zv, h2, h⟩ := bind_some_inv h
   obtain ⟨z, h3, h⟩ := bind_some_inv h
   obtain ⟨ti, h4, h⟩ := bind_some_inv h
   obtain ⟨l', h5, h⟩ := bind_some_inv h
   obtain ⟨c', h6, h⟩ := bind_some_inv h
   split at h
   · injection h with h; subst h
     simp only [Op.operands, List.mem_toArray, List.mem_cons, List.not_mem_nil, or_false] at ht
     simp only [AOp.reads, List.mem_append]
     rcases ht with ht | ht
     · exact .inl (cX_reads h5 ht.symm)
     · exact .inr (cX_reads h6 ht.symm)
   · cases h
 case slice t' x lo hi mx =>
   obtain ⟨e, h1, h⟩ := bind_some_inv h
   obtain ⟨z, h2, h⟩ := bind_some_inv h
   obtain ⟨x', h3, h⟩ := bind_some_inv h
   obtain ⟨lo', h4, h⟩ := bind_some_inv h
   obtain ⟨hi', h5, h⟩ := bind_some_inv h
   obtain ⟨mx', h6, h⟩ := bind_some_inv h
   split at h
   · cases h
   · injection h with h; subst h
     simp only [Op.operands, Array.mem_append, List.mem_toArray, List.mem_singleton] at ht
     simp only [AOp.reads, List.mem_append]
     have mem : ∀ {q : Option Operand}, Operand.tmp t ∈ q.toList.toArray → q = some (.tmp t) := by
       intro q hq
       cases q with
       | none => simp at hq
       | some q => simp at hq; rw [hq]
     rcases ht with ((ht | ht) | ht) | ht
     · exact .inl (.inl (.inl (cX_reads h3 ht.symm)))
     · exact .inl (.inl (.inr (cOX_reads h4 (by cases lo <;> simp_all))))
     · exact .inl (.inr (cOX_reads h5 (by cases hi <;> simp_all)))
     · exact .inr (cOX_reads h6 (by cases mx <;> simp_all))
 case fieldAddr s x f =>
   simp only [cOp] at h
   split at h
   · obtain ⟨fd, h1, h⟩ := bind_some_inv h
     obtain ⟨z, h2, h⟩ := bind_some_inv h
     obtain ⟨x', h3, h⟩ := bind_some_inv h
     split at h
     · cases h
     · injection h with h; subst h
       simp only [Op.operands, List.mem_toArray, List.mem_singleton] at ht
       exact cX_reads h3 ht.symm
   · cases h
 case field t' x f =>
   simp only [cOp] at h
   split at h
   · obtain ⟨fd, h1, h⟩ := bind_some_inv h
     obtain ⟨ag, h2, h⟩ := bind_some_inv h
     obtain ⟨z, h3, h⟩ := bind_some_inv h
     obtain ⟨x', h4, rfl⟩ := map_some_inv h
     simp only [Op.operands, List.mem_toArray, List.mem_singleton] at ht
     exact cX_reads h4 ht.symm
   · cases h
 case indexAddr t' x i =>
   simp only [Op.operands, List.mem_toArray, List.mem_cons, List.not_mem_nil, or_false] at ht
   simp only [cOp] at h
   split at h
   · obtain ⟨z, h2, h⟩ := bind_some_inv h
     obtain ⟨x', h3, h⟩ := bind_some_inv h
     obtain ⟨i', h4, rfl⟩ := map_some_inv h
     simp only [AOp.reads, List.mem_append]
     rcases ht with ht | ht
     · exact .inl (cX_reads h3 ht.symm)
     · exact .inr (cX_reads h4 ht.symm)
   · obtain ⟨z, h2, h⟩ := bind_some_inv h
     obtain ⟨x', h3, h⟩ := bind_some_inv h
     obtain ⟨i', h4, rfl⟩ := map_some_inv h
     simp only [AOp.reads, List.mem_append]
     rcases ht with ht | ht
     · exact .inl (cX_reads h3 ht.symm)
     · exact .inr (cX_reads h4 ht.symm)
   · cases h
 case index t' x i =>
   simp only [Op.operands, List.mem_toArray, List.mem_cons, List.not_mem_nil, or_false] at ht
   simp only [cOp] at h
   split at h
   · obtain ⟨ag, h1, h⟩ := bind_some_inv h
     obtain ⟨z, h2, h⟩ := bind_some_inv h
     obtain ⟨x', h3, h⟩ := bind_some_inv h
     obtain ⟨i', h4, rfl⟩ := map_some_inv h
     simp only [AOp.reads, List.mem_append]
     rcases ht with ht | ht
     · exact .inl (cX_reads h3 ht.symm)
     · exact .inr (cX_reads h4 ht.symm)
   · obtain ⟨x', h3, h⟩ := bind_some_inv h
     obtain ⟨i', h4, rfl⟩ := map_some_inv h
     simp only [AOp.reads, List.mem_append]
     rcases ht with ht | ht
     · exact .inl (cX_reads h3 ht.symm)
     · exact .inr (cX_reads h4 ht.symm)
   · cases h
 case extract x i =>
   obtain ⟨x', h3, rfl⟩ := map_some_inv h
   simp only [Op.operands, List.mem_toArray, List.mem_singleton] at ht
   exact cX_reads h3 ht.symm
 case call c =>
   obtain ⟨callee, args, argTypes⟩ := c
   have two : ∀ {x y : Operand} {x' y' : X}, args.toList = [x, y] → cX T x = some x' → cX T y = some y' → Operand.tmp t ∈ (#[] : Array Operand) ++ args → t ∈ x'.reads ++ y'.reads := by
     intro x y x' y' ha h1 h2 hm
     simp only [Array.empty_append] at hm
     rw [← Array.mem_toList_iff, ha] at hm
     rw [List.mem_append]
     simp only [List.mem_cons, List.not_mem_nil, or_false] at hm
     rcases hm with hm | hm
     · exact .inl (cX_reads h1 hm.symm)
     · exact .inr (cX_reads h2 hm.symm)
   cases callee
   case value f =>
     simp only [cOp] at h
     obtain ⟨f', h1, h⟩ := bind_some_inv h
     obtain ⟨q, h2, rfl⟩ := map_some_inv h
     simp only [Op.operands, Call.operands, Array.mem_append, List.mem_toArray, List.mem_singleton] at ht
     simp only [AOp.reads, List.mem_append]
     rcases ht with ht | ht
     · exact .inl (cX_reads h1 ht.symm)
     · exact .inr (cXs_reads _ h2 (by simpa using ht))
   case invoke r m => cases h
   case builtin bi =>
     simp only [Op.operands, Call.operands] at ht
     cases bi <;> simp only [cOp] at h <;> try (cases h; done)
     case cap =>
       split at h
       · rename_i x t' ha ht'
         split at h
         · obtain ⟨x', h3, rfl⟩ := map_some_inv h
           simp only [Array.empty_append] at ht
           rw [← Array.mem_toList_iff, ha, List.mem_singleton] at ht
           exact cX_reads h3 ht.symm
         · cases h
       · cases h
     case len =>
       split at h
       · rename_i x t' ha ht'
         have one : ∀ {x' : X}, cX T x = some x' → t ∈ x'.reads := by
           intro x' h1
           simp only [Array.empty_append] at ht
           rw [← Array.mem_toList_iff, ha, List.mem_singleton] at ht
           exact cX_reads h1 ht.symm
         split at h
         · obtain ⟨x', h3, rfl⟩ := map_some_inv h; exact one h3
         · obtain ⟨x', h3, rfl⟩ := map_some_inv h; exact one h3
         · cases h
       · cases h
     case append =>
       split at h
       · rename_i x y t' u ha ht'
         split at h
         · obtain ⟨e, h1, h⟩ := bind_some_inv h
           obtain ⟨z, h3, h⟩ := bind_some_inv h
           obtain ⟨i, h4, h⟩ := bind_some_inv h
           obtain ⟨zv, h5, h⟩ := bind_some_inv h
           obtain ⟨x', h6, h⟩ := bind_some_inv h
           obtain ⟨y', h7, h⟩ := bind_some_inv h
           split at h
           · injection h with h; subst h; exact two ha h6 h7 ht
           · cases h
         obtain ⟨e, h1, h⟩ := bind_some_inv h
         obtain ⟨e', h2, h⟩ := bind_some_inv h
         obtain ⟨z, h3, h⟩ := bind_some_inv h
         obtain ⟨i, h4, h⟩ := bind_some_inv h
         obtain ⟨zv, h5, h⟩ := bind_some_inv h
         obtain ⟨x', h6, h⟩ := bind_some_inv h
         obtain ⟨y', h7, h⟩ := bind_some_inv h
         split at h
         · injection h with h; subst h; exact two ha h6 h7 ht
         · cases h
       · cases h
     case copy =>
       split at h
       · rename_i x y t' u ha ht'
         obtain ⟨e, h1, h⟩ := bind_some_inv h
         obtain ⟨z, h3, h⟩ := bind_some_inv h
         obtain ⟨x', h6, h⟩ := bind_some_inv h
         obtain ⟨y', h7, h⟩ := bind_some_inv h
         split at h
         · injection h with h; subst h; exact two ha h6 h7 ht
         · cases h
       · cases h
     case min =>
       split at h
       · rename_i x y ha
         obtain ⟨x', h1, h⟩ := bind_some_inv h
         obtain ⟨y', h2, rfl⟩ := map_some_inv h
         exact two ha h1 h2 ht
       · cases h
     case max =>
       split at h
       · rename_i x y ha
         obtain ⟨x', h1, h⟩ := bind_some_inv h
         obtain ⟨y', h2, rfl⟩ := map_some_inv h
         exact two ha h1 h2 ht
       · rename_i x y z ha
         obtain ⟨x', h1, h⟩ := bind_some_inv h
         obtain ⟨y', h2, h⟩ := bind_some_inv h
         obtain ⟨z', h3, rfl⟩ := map_some_inv h
         have hargs : args = #[x, y, z] := by cases args; simp at ha; simp [ha]
         subst hargs
         simp only [Array.mem_append, List.mem_toArray] at ht
         simp only [AOp.reads, List.mem_append]
         simp at ht
         rcases ht with rfl | rfl | rfl
         · exact .inl (.inl (cX_reads h1 rfl))
         · exact .inl (.inr (cX_reads h2 rfl))
         · exact .inr (cX_reads h3 rfl)
       · cases h
 all_goals (cases h)

theorem getX_congr {E E' : Env} {x : X} (h : ∀ t ∈ x.reads, E t = E' t) : getX E x = getX E' x := by
 cases x with
 | t i => exact h i (by simp [X.reads])
 | c v => rfl
 | f g => rfl

theorem getXs_congr {E E' : Env} {xs : List X} (h : ∀ t ∈ xs.flatMap X.reads, E t = E' t) : xs.map (getX E) = xs.map (getX E') := by
 apply List.map_congr_left
 intro x hx
 exact getX_congr fun t ht => h t (List.mem_flatMap.2 ⟨x, hx, ht⟩)

theorem optNat_congr {E E' : Env} {d : Nat} {x : Option X} (h : ∀ t ∈ OX.reads x, E t = E' t) : optNat E d x = optNat E' d x := by
 cases x with
 | none => rfl
 | some x => simp only [optNat, getX_congr h]

theorem stp_congr {n0 : Nat} {op : AOp} {E E' : Env} {H : Heap} (hn : ∀ z a x av, op ≠ .storeN z a x av) (h : ∀ t ∈ op.reads, E t = E' t) : stp n0 op E H = stp n0 op E' H := by
 cases op <;> simp only [AOp.reads, List.mem_append] at h <;> simp only [stp]
 case pick c x y => rw [getX_congr (x := c) fun t ht => h t (.inl (.inl ht)), getX_congr (x := x) fun t ht => h t (.inl (.inr ht)), getX_congr (x := y) fun t ht => h t (.inr ht)]
 case slice z x lo hi mx =>
   rw [getX_congr (x := x) fun t ht => h t (.inl (.inl (.inl ht)))]
   have e1 : ∀ d, optNat E d lo = optNat E' d lo := fun d => optNat_congr fun t ht => h t (.inl (.inl (.inr ht)))
   have e2 : ∀ d, optNat E d hi = optNat E' d hi := fun d => optNat_congr fun t ht => h t (.inl (.inr ht))
   have e3 : ∀ d, optNat E d mx = optNat E' d mx := fun d => optNat_congr fun t ht => h t (.inr ht)
   simp only [e1, e2, e3]
 case build zero ps =>
   have : (ps.map fun p => (p.1, p.2.1, getX E p.2.2)) = ps.map fun p => (p.1, p.2.1, getX E' p.2.2) := List.map_congr_left fun p hp => by
     rw [getX_congr fun t ht => h t (List.mem_flatMap.2 ⟨p, hp, ht⟩)]
   rw [this]
 case bslice z len zero ps =>
   have : (ps.map fun p => getX E p.2) = ps.map fun p => getX E' p.2 := List.map_congr_left fun p hp => by
     rw [getX_congr fun t ht => h t (List.mem_flatMap.2 ⟨p, hp, ht⟩)]
   rw [this]
 case max3 x y z => rw [getX_congr (x := x) fun t ht => h t (.inl (.inl ht)), getX_congr (x := y) fun t ht => h t (.inl (.inr ht)), getX_congr (x := z) fun t ht => h t (.inr ht)]
 case mkfn g cs => rw [getXs_congr h]
 case sload ag z t => rw [h t (by simp)]
 case storeN z x y av => exact absurd rfl (hn z x y av)
 all_goals first
   | rfl
   | (rename_i x; rw [getX_congr (x := x) h]; done)
   | (rename_i x y; rw [getX_congr (x := x) fun t ht => h t (.inl ht), getX_congr (x := y) fun t ht => h t (.inr ht)]; done)
   | (rename_i x y; simp only [getX_congr (x := x) fun t ht => h t (.inl ht), getX_congr (x := y) fun t ht => h t (.inr ht)]; done)

end Go.Abs

/- The operations of a region, one behind the other. -/
namespace Go.Abs

variable {T : Tab} {w : World} {M : Nat → Prop} {μ : Inj} {H : Heap}

def ERelOn (gid : Gid) (w : World) (M : Nat → Prop) (μ : Inj) (l : List Nat) (tmps : Array Value) (E : Env) : Prop := ∀ t ∈ l, R gid w M μ (tmps.getD t Go.undef) (E t)

/-- What one operation does, wherever it is carried out. -/
def OpSem (T : Tab) (n0 : Nat) (o : Oper) (reads : List Nat) (E : Env) (H : Heap) (v : V) (H1 : Heap) : Prop :=
 ∀ (a : Act) (w : World) (M : Nat → Prop) (μ : Inj) (K : Act → World → Prop) (Q : Exit → Act → World → Prop), n0 ≤ H.length → Sim T.gid w M μ H → ERelOn T.gid w M μ reads a.tmps E →
   (∀ v' w' M' μ', Step T.gid n0 w M μ H w' M' μ' H1 → R T.gid w' M' μ' v' v → K (a.put o.dst v') w') → o.wp T.P a w K Q

/-- A frame that knows some variables only. -/
def onlyT (l : List Nat) (tmps : Array Value) : Array Value := tmps.mapIdx fun t v => if t ∈ l then v else Go.undef
def onlyE (l : List Nat) (E : Env) : Env := fun t => if t ∈ l then E t else .undef

theorem onlyT_get (l : List Nat) (tmps : Array Value) (t : Nat) : (onlyT l tmps).getD t Go.undef = if t ∈ l then tmps.getD t Go.undef else Go.undef := by
 unfold onlyT
 simp only [Array.getD_eq_getD_getElem?, Array.getElem?_mapIdx]
 cases tmps[t]? with
 | none => simp
 | some v => simp

theorem only_rel {l : List Nat} {tmps : Array Value} {E : Env} (h : ERelOn T.gid w M μ l tmps E) : ERel T.gid w M μ (onlyT l tmps) (onlyE l E) := by
 intro t
 rw [onlyT_get]
 unfold onlyE
 split
 · exact h t (by assumption)
 · exact R.undef

theorem only_exec {o : Oper} {op : AOp} {l : List Nat} (hop : cOp T o.op = some op) (hl : ∀ t ∈ op.reads, t ∈ l) (a : Act) : execOp a.eval o = execOp (Act.eval { a with tmps := onlyT l a.tmps }) o := by
 refine execOp_congr o (fun cs b hs => by rw [hs] at hop; cases hop) fun x hx => ?_
 cases x with
 | tmp t =>
   show a.tmps.getD t Go.undef = (onlyT l a.tmps).getD t Go.undef
   rw [onlyT_get, if_pos (hl t (cOp_reads hop hx))]
 | _ => rfl

/-- A load that may come late, or a store that spares some blocks, for the plain one. -/
inductive Soft : AOp → AOp → Prop
 | refl (op : AOp) : Soft op op
 | load (ag : Bool) (z t : Nat) : Soft (.sload ag z t) (.load ag z (.t t))
 | store (z : Nat) (a x : X) (av : List Nat) : Soft (.storeN z a x av) (.store z a x)
 | lit {z len : Nat} {zero : V} {parts : List (Nat × X)} {els : List V} (h : litOf (.bslice z len zero parts) = some els) : Soft (.mv (.c (.sl els))) (.bslice z len zero parts)

theorem int_ins {H : Heap} {E : Env} : ∀ (ps : List (Nat × X)), (ps.all fun p => isIntX p.2) = true → pureIns H (ps.map fun p => getX E p.2) = some (ps.map fun p => getX (fun _ => .undef) p.2, H)
 | [], _ => rfl
 | (i, x) :: ps, h => by
   simp only [List.all_cons, Bool.and_eq_true] at h
   have ih := int_ins (H := H) (E := E) ps h.2
   obtain ⟨k, n, rfl⟩ : ∃ k n, x = .c (.int k n) := by
     have := h.1
     unfold isIntX at this
     split at this
     · exact ⟨_, _, rfl⟩
     · cases this
   simp only [List.map_cons, pureIns]
   rw [show pureIn H (getX E (.c (.int k n))) = some (.int k n, H) from rfl]
   simp only [Option.bind_some]
   rw [ih]
   rfl
theorem int_reads : ∀ (ps : List (Nat × X)), (ps.all fun p => isIntX p.2) = true → (ps.flatMap fun p => p.2.reads) = []
 | [], _ => rfl
 | (i, x) :: ps, h => by
   simp only [List.all_cons, Bool.and_eq_true] at h
   obtain ⟨k, n, rfl⟩ : ∃ k n, x = .c (.int k n) := by
     have := h.1
     unfold isIntX at this
     split at this
     · exact ⟨_, _, rfl⟩
     · cases this
   rw [List.flatMap_cons, int_reads ps h.2]
   rfl
theorem zip_maps {α β γ : Type} (f : α → β) (g : α → γ) : ∀ l : List α, (l.map f).zip (l.map g) = l.map fun p => (f p, g p)
 | [] => rfl
 | a :: l => by simp [zip_maps f g l]
theorem lit_stp {n0 z len : Nat} {zero : V} {parts : List (Nat × X)} {els : List V} (h : litOf (.bslice z len zero parts) = some els) (E : Env) (H : Heap) :
   (AOp.bslice z len zero parts).reads = [] ∧ ∃ el, 0 + len ≤ el.length ∧ els = (el.drop 0).take len ∧ stp n0 (.bslice z len zero parts) E H = some (.ref H.length z 0 len, H ++ [some ⟨z, el, true, true⟩]) := by
 simp only [litOf] at h
 split at h
 · rename_i hc
   obtain ⟨el, h1, h2⟩ := bind_some_inv h
   split at h2
   · rename_i hl
     injection h2 with h2
     refine ⟨int_reads parts hc.2, el, hl, h2.symm, ?_⟩
     simp only [stp]
     rw [if_pos hc.1, int_ins parts hc.2]
     simp only [Option.bind_some]
     rw [zip_maps, h1]
     rfl
   · cases h2
 · cases h

theorem Soft.same {n0 : Nat} {op op0 : AOp} (h : Soft op op0) (hb : ∀ z len zero parts, op0 = .bslice z len zero parts → op = op0) {E : Env} {v : V} {H1 : Heap} (e : stp n0 op E H = some (v, H1)) : stp n0 op0 E H = some (v, H1) := by
 cases h with
 | refl => exact e
 | load ag z t =>
   simp only [stp, getX] at e ⊢
   split at e
   · rename_i cs hg
     exact e
   · rename_i b i off hg
     split at e
     · rename_i k hk
       split at e
       · rename_i el he
         obtain ⟨u, h1, h2⟩ := bind_some_inv e
         split at h2
         · simp only [h1, Option.map_some]; exact h2
         · cases h2
       · cases e
     · cases e
   · cases e
 | store z a x av =>
   simp only [stp] at e ⊢
   split at e
   · exact e
   · cases e
 | lit hl => exact absurd (hb _ _ _ _ rfl) (by simp)

theorem Soft.reads {op op0 : AOp} (h : Soft op op0) : ∀ t ∈ op0.reads, t ∈ op.reads := by
 cases h with
 | refl => exact fun t ht => ht
 | load ag z t => exact fun t ht => ht
 | store z a x av => exact fun t ht => by simp only [AOp.reads, List.mem_append] at ht ⊢; exact ht
 | lit hl => exact fun t ht => by rw [(lit_stp (n0 := 0) hl (fun _ => .undef) []).1] at ht; exact absurd ht (by simp)

theorem cOp_no_sload {o : Op} (ag : Bool) (z t : Nat) : ¬ cOp T o = some (.sload ag z t) := by
 intro h
 cases o
 case call c =>
   obtain ⟨callee, args, argTypes⟩ := c
   cases callee
   case value f => simp [cOp, Option.bind_eq_some_iff] at h
   case invoke => simp [cOp] at h
   case builtin bi =>
     cases bi <;> simp only [cOp] at h <;> (repeat' split at h) <;> simp [Option.bind_eq_some_iff] at h
 all_goals simp only [cOp] at h
 all_goals (repeat' split at h)
 all_goals (try (simp [Option.bind_eq_some_iff] at h; done))
 all_goals (try (cases h; done))

theorem cOp_no_storeN {o : Op} (z : Nat) (a x : X) (av : List Nat) : ¬ cOp T o = some (.storeN z a x av) := by
 intro h
 cases o
 case call c =>
   obtain ⟨callee, args, argTypes⟩ := c
   cases callee
   case value f => simp [cOp, Option.bind_eq_some_iff] at h
   case invoke => simp [cOp] at h
   case builtin bi =>
     cases bi <;> simp only [cOp] at h <;> (repeat' split at h) <;> simp [Option.bind_eq_some_iff] at h
 all_goals simp only [cOp] at h
 all_goals (repeat' split at h)
 all_goals (try (simp [Option.bind_eq_some_iff] at h; done))
 all_goals (try (cases h; done))

theorem opSem_lit {n0 : Nat} {o : Oper} {z len : Nat} {zero : V} {parts : List (Nat × X)} {els : List V} (hop : cOp T o.op = some (.bslice z len zero parts)) (hl : litOf (.bslice z len zero parts) = some els) {E : Env} : OpSem T n0 o (AOp.mv (.c (.sl els))).reads E H (.sl els) H := by
 intro a w M μ K Q hn hs hE hK
 obtain ⟨hr0, el, hle, rfl, h2⟩ := lit_stp (n0 := H.length) hl (onlyE (AOp.mv (.c (.sl els))).reads E) H
 obtain ⟨v', w', M', μ', hr, hst, hrel⟩ := stp_sound hop (Nat.le_refl _) hs (a := { a with tmps := onlyT (AOp.mv (.c (.sl ((el.drop 0).take len)))).reads a.tmps }) (only_rel hE) h2
 have hf : frzV (H ++ [some ⟨z, el, true, true⟩]) (.ref H.length z 0 len) = some (.sl ((el.drop 0).take len), (H ++ [some (Blk.mk z el true true)]).set H.length (some (Blk.mk z el true false))) := by
   simp only [frzV, frzC, List.getElem?_append_right (Nat.le_refl H.length), Nat.sub_self, List.getElem?_cons_zero]
   rw [if_pos ⟨trivial, trivial, hle⟩]
   rfl
 obtain ⟨M2, st2, r2, _⟩ := frzV_sound (n0 := H.length) hst.sim hf hrel
 obtain ⟨μ3, st3⟩ := Step.take (hst.trans st2) rfl (hs.lowH (Nat.le_refl _))
 have e : (((H ++ [some (Blk.mk z el true true)]).set H.length (some (Blk.mk z el true false))).take H.length) = H := by simp
 rw [e] at st3
 have st4 : Step T.gid n0 w M μ H w' M2 μ3 H := { st3 with low := fun n h => st3.low n (Nat.le_trans h hn) }
 unfold Oper.wp
 rw [only_exec hop (fun t ht => by rw [hr0] at ht; exact absurd ht (by simp)) a]
 rcases hr with hr | ⟨hr, hv⟩
 · rw [hr]; exact hK v' w' M2 μ3 st4 (r2.pureAny rfl μ3)
 · rw [hr]; subst hv; exact hK _ w' M2 μ3 st4 (r2.pureAny rfl μ3)

theorem opSem_stp {n0 : Nat} {o : Oper} {op op0 : AOp} (hop : cOp T o.op = some op0) (hsoft : Soft op op0) {E : Env} {v : V} {H1 : Heap} (h : stp n0 op E H = some (v, H1)) : OpSem T n0 o op.reads E H v H1 := by
 by_cases hb : ∀ z len zero parts, op0 = .bslice z len zero parts → op = op0
 case neg =>
   cases hsoft with
   | lit hl =>
     simp only [stp, getX] at h
     injection h with h; injection h with h1 h2
     subst h1; subst h2
     exact opSem_lit hop hl
   | refl => exact absurd (fun _ _ _ _ _ => rfl) hb
   | load => exact absurd (fun _ _ _ _ e => by cases e) hb
   | store => exact absurd (fun _ _ _ _ e => by cases e) hb
 intro a w M μ K Q hn hs hE hK
 have h2 : stp n0 op0 (onlyE op.reads E) H = some (v, H1) := by
   rw [← hsoft.same hb h]
   exact stp_congr (fun z a x av e => cOp_no_storeN z a x av (by rw [← e]; exact hop)) fun t ht => by unfold onlyE; rw [if_pos (hsoft.reads t ht)]
 obtain ⟨v', w', M', μ', hr, hst, hrel⟩ := stp_sound hop hn hs (a := { a with tmps := onlyT op.reads a.tmps }) (only_rel hE) h2
 unfold Oper.wp
 rw [only_exec hop hsoft.reads a]
 rcases hr with hr | ⟨hr, hv⟩
 · rw [hr]; exact hK v' w' M' μ' hst hrel
 · rw [hr]; subst hv; exact hK _ w' M' μ' hst hrel

/-- A load that may come late: what it gives, in any heap that has the block as it was. -/
def LateSem (T : Tab) (n0 : Nat) (o : Oper) (op : AOp) (E : Env) (H : Heap) (v : V) : Prop :=
 ∃ ag z t b i off, op = .sload ag z t ∧ E t = .ptr b i off ∧ b < H.length ∧ v.isTup = false ∧ (∀ c ∈ v.cells, V.lowB H.length c = true) ∧ ∀ Hc : Heap, Hc[b]? = H[b]? → OpSem T n0 o op.reads E Hc v Hc

theorem lateSem_stp {n0 : Nat} {o : Oper} {ag : Bool} {z t : Nat} {op0 : AOp} (hop : cOp T o.op = some op0) (hsoft : Soft (.sload ag z t) op0) {E : Env} {v : V} {H1 : Heap} (h : stp n0 (.sload ag z t) E H = some (v, H1)) :
   H1 = H ∧ (LateSem T n0 o (.sload ag z t) E H v ∨ ∀ Hc, OpSem T n0 o (AOp.sload ag z t).reads E Hc v Hc) := by
 have h0 := h
 simp only [stp] at h
 split at h
 · rename_i cs hg
   obtain ⟨u, h1, h2⟩ := map_some_inv h
   injection h2 with h2 h3
   subst h2; subst h3
   refine ⟨rfl, .inr fun Hc => ?_⟩
   cases hsoft with
   | refl => exact absurd hop (cOp_no_sload ag z t)
   | load => exact opSem_stp (op := .load ag z (.t t)) hop (.refl _) (by simp only [stp, getX, hg, h1, Option.map_some])
 · rename_i b i off hg
   split at h
   · rename_i k hk
     split at h
     · rename_i el he
       obtain ⟨u, h1, h2⟩ := bind_some_inv h
       split at h2
       · rename_i hc
         injection h2 with h2; injection h2 with h2 h3
         subst h2; subst h3
         refine ⟨rfl, .inl ⟨ag, z, t, b, i, off, rfl, hg, (List.getElem?_eq_some_iff.1 hk).1, hc.2, fun c hcc => List.all_eq_true.1 hc.1 c hcc, fun Hc hb => ?_⟩⟩
         cases hsoft with
         | refl => exact absurd hop (cOp_no_sload ag z t)
         | load =>
           refine opSem_stp (op := .load ag z (.t t)) hop (.refl _) ?_
           simp only [stp, getX, hg, hb, hk, he, h1, Option.map_some]
       · cases h2
     · cases h
   · cases h
 · cases h

theorem frzC_pure {H : Heap} {c c' : V} {H1 : Heap} (hp : c.cellPure = true) (h : frzC H c = some (c', H1)) : H1 = H := by
 cases c <;> simp only [frzC] at h <;> first
   | (cases hp; done)
   | (injection h with h; injection h with _ h; exact h.symm)

theorem frzCs_pure {H : Heap} : ∀ {cs cs' : List V} {H1 : Heap}, cs.all V.cellPure = true → frzCs H cs = some (cs', H1) → H1 = H
 | [], cs', H1, _, h => by simp only [frzCs] at h; injection h with h; injection h with _ h; exact h.symm
 | c :: cs, cs', H1, hp, h => by
   simp only [List.all_cons, Bool.and_eq_true] at hp
   simp only [frzCs] at h
   obtain ⟨⟨c1, Ha⟩, h1, h3⟩ := bind_some_inv h
   obtain ⟨⟨c2, Hb⟩, h2, h4⟩ := bind_some_inv h3
   injection h4 with h4; injection h4 with _ h4
   have e1 := frzC_pure hp.1 h1
   have e2 := frzCs_pure hp.2 h2
   rw [← h4, e2, e1]

theorem pureIn_pure {H : Heap} {v v' : V} {H1 : Heap} (hp : v.pure = true) (h : pureIn H v = some (v', H1)) : H1 = H := by
 unfold pureIn at h
 obtain ⟨⟨u, Ha⟩, h1, h⟩ := bind_some_inv h
 simp only at h
 split at h
 · injection h with h; injection h with _ h
   subst h
   cases v with
   | agg cs =>
     simp only [frzV] at h1
     obtain ⟨⟨cs', Hb⟩, h2, h1⟩ := bind_some_inv h1
     injection h1 with h1; injection h1 with _ h1
     subst h1
     exact frzCs_pure hp h2
   | _ =>
     simp only [frzV] at h1
     exact frzC_pure (by simpa [V.pure, V.cells] using hp) h1
 · cases h

/-- A store that spares some blocks does so. -/
theorem storeN_spares {n0 : Nat} {z : Nat} {x y : X} {av : List Nat} {E : Env} {v : V} {H1 : Heap} (h : stp n0 (.storeN z x y av) E H = some (v, H1)) {t b i off : Nat} (ht : t ∈ av) (hE : E t = .ptr b i off) : H1[b]? = H[b]? := by
 simp only [stp] at h
 split at h
 · rename_i hc
   have hap := List.all_eq_true.1 hc.2 t ht
   rw [hE] at hap
   unfold stStore at h
   split at h
   · rename_i b' i' off' hg
     rw [hg] at hap
     have hne : b' ≠ b := by
       simp only [apart, bne_iff_ne, ne_eq] at hap
       exact fun e => hap e.symm
     split at h
     · rename_i k hk
       split at h
       · obtain ⟨⟨u, Hu⟩, h1, h2⟩ := bind_some_inv h
         have hHu : Hu = H := by
           split at h1
           · exact pureIn_pure hc.1 h1
           · injection h1 with h1; injection h1 with _ h1; exact h1.symm
         subst hHu
         simp only at h2
         split at h2
         · split at h2
           · split at h2
             · injection h2 with h2; injection h2 with _ h2
               rw [← h2, List.getElem?_set_ne hne]
             · cases h2
           · cases h2
         · cases h2
       · cases h
     · cases h
   · cases h
 · cases h

theorem stp_quiet {n0 : Nat} {op : AOp} (hl : op.loud = false) (hs : ∀ ag z t, op ≠ .sload ag z t) {E : Env} {v : V} {H1 : Heap} (h : stp n0 op E H = some (v, H1)) : H1 = H ∧ ∀ Hc, stp n0 op E Hc = some (v, Hc) := by
 cases op <;> try (cases hl; done)
 case sload ag z t => exact absurd rfl (hs ag z t)
 case max3 x y z =>
   simp only [stp] at h ⊢
   split at h
   · rename_i e1 e2 e3
     split at h
     · rename_i e4
       injection h with h; injection h with h1 h2
       subst h1; subst h2
       exact ⟨rfl, fun _ => by rw [if_pos e4]⟩
     · cases h
   · cases h
 all_goals simp only [stp] at h ⊢
 all_goals try (split at h <;> try (cases h; done))
 all_goals try (split at h <;> try (cases h; done))
 all_goals try (split at h <;> try (cases h; done))
 all_goals first
   | (injection h with h; injection h with h1 h2; subst h1; subst h2; exact ⟨rfl, fun _ => by first | (simp_all; done) | (simp_all; intros; omega)⟩)
   | (obtain ⟨q, h1, h2⟩ := map_some_inv h
      injection h2 with h2 h3
      subst h2; subst h3
      exact ⟨rfl, fun _ => by simp_all⟩)
   | (cases h; done)

/-- How the model's operation and ours hang together. -/
structure Link (T : Tab) (ops : Array Oper) (o : Oper) (ao : AOper) : Prop where
 dst : o.dst = ao.dst
 op : ∃ op0, cOp T o.op = some op0 ∧ Soft ao.op op0
 guard : (o.guard = none ∧ ao.guard = none) ∨ ∃ j want t, o.guard = some (j, want) ∧ (ops[j]?).bind (·.dst) = some t ∧ ao.guard = some (t, want)

theorem cOper_link {ops : Array Oper} {o : Oper} {ao : AOper} (h : cOper T ops o = some ao) (s : Bool) {op : AOp} (hsoft : Soft op ao.op) : Link T ops o { ao with sync := s, op := op } := by
 unfold cOper at h
 obtain ⟨op, h1, h⟩ := bind_some_inv h
 split at h
 · rename_i hg
   injection h with h; subst h
   exact ⟨rfl, ⟨_, h1, hsoft⟩, .inl ⟨hg, rfl⟩⟩
 · rename_i j want hg
   obtain ⟨t, h2, h3⟩ := map_some_inv h
   subst h3
   exact ⟨rfl, ⟨_, h1, hsoft⟩, .inr ⟨j, want, t, hg, h2, rfl⟩⟩

theorem wanted_eq {ops : Array Oper} {o : Oper} {ao : AOper} (hl : Link T ops o ao) {a : Act} {E : Env} (hE : ∀ t, (∃ want, ao.guard = some (t, want)) → R T.gid w M μ (a.tmps.getD t Go.undef) (E t)) {b : Bool} (h : gd ao E = some b) :
   Region.wanted o (yielded ops a.tmps) = b := by
 rcases hl.guard with ⟨h1, h2⟩ | ⟨j, want, t, h1, h2, h3⟩
 · simp only [gd, h2] at h
   injection h with h
   subst h
   simp [Region.wanted, h1]
 · simp only [gd, h3] at h
   split at h
   · rename_i q hq
     have hr := hE t ⟨want, h3⟩
     rw [hq] at hr
     have hv := hr.inv_bool
     injection h with h
     subst h
     have ht : a.tmps[t]? = some (.bool q) := by
       rw [Array.getD_eq_getD_getElem?] at hv
       cases hx : a.tmps[t]? with
       | none => rw [hx] at hv; cases hv
       | some x => rw [hx] at hv; simp at hv; rw [hv]
     simp only [Region.wanted, h1, yielded, h2, Option.bind_some, ht]
     cases q <;> cases want <;> rfl
   · rename_i q hq
     have hr := hE t ⟨want, h3⟩
     rw [hq] at hr
     injection h with h
     subst h
     have ht : ∀ b : Bool, a.tmps[t]? ≠ some (.bool b) := by
       intro b hb
       rw [Array.getD_eq_getD_getElem?, hb] at hr
       cases hr with
       | c hr => cases hr with | p hr => cases hr
     simp only [Region.wanted, h1, yielded, h2, Option.bind_some]
     cases hx : a.tmps[t]? with
     | none => rfl
     | some x =>
       cases x with
       | bool b => exact absurd hx (ht b)
       | _ => rfl
   · cases h

inductive Tr (T : Tab) (n0 : Nat) (d : Bool) (ops : Array Oper) : List Oper → List AOper → Env → Heap → Env → Heap → Prop
 | nil {E H} : Tr T n0 d ops [] [] E H E H
 | skip {o ao os aos E H E' H'} (hl : Link T ops o ao) (hg : gd ao E = some false) (rest : Tr T n0 d ops os aos (put E ao.dst .undef) H E' H') : Tr T n0 d ops (o :: os) (ao :: aos) E H E' H'
 | step {o ao os aos E H v H1 E' H'} (hl : Link T ops o ao) (hg : gd ao E = some true) (sem : OpSem T n0 o ao.op.reads E H v H1) (len : H.length ≤ H1.length) (pre : d = true → ao.sync = false → H <+: H1)
     (quiet : ao.op.loud = false → H1 = H ∧ ((∀ Hc, OpSem T n0 o ao.op.reads E Hc v Hc) ∨ LateSem T n0 o ao.op E H v))
     (spare : ∀ z x y av, ao.op = .storeN z x y av → ∀ t ∈ av, ∀ b i off, E t = .ptr b i off → H1[b]? = H[b]?) (rest : Tr T n0 d ops os aos (put E ao.dst v) H1 E' H') : Tr T n0 d ops (o :: os) (ao :: aos) E H E' H'

theorem ERel.put {tmps : Array Value} {E : Env} (h : ERel T.gid w M μ tmps E) {dst : Option Nat} (hd : ∀ d, dst = some d → d < tmps.size) {v : Value} {c : V} (hr : R T.gid w M μ v c) (ds : List Deferred) :
   ERel T.gid w M μ (Act.put { tmps := tmps, defers := ds } dst v).tmps (put E dst c) := by
 cases dst with
 | none => exact h
 | some d =>
   intro t
   simp only [Act.put, _root_.Go.Abs.put, upd]
   by_cases ht : t = d
   · subst ht
     rw [if_pos rfl, Array.getD_eq_getD_getElem?, Array.getElem?_setIfInBounds, if_pos rfl, if_pos (hd t rfl)]
     exact hr
   · rw [if_neg ht, Array.getD_eq_getD_getElem?, Array.getElem?_setIfInBounds, if_neg (fun e => ht e.symm), ← Array.getD_eq_getD_getElem?]
     exact h t

theorem put_size (a : Act) (dst : Option Nat) (v : Value) : (a.put dst v).tmps.size = a.tmps.size := by cases dst <;> simp [Act.put]
theorem put_defers (a : Act) (dst : Option Nat) (v : Value) : (a.put dst v).defers = a.defers := by cases dst <;> rfl

/-- Every function; whether the frame is a round's is left open. -/
def fnc (ro : Option Nat) : Fence := { fn := fun _ => True, depth := none, alive := false, round := ro }

theorem calls_fc {ro : Option Nat} {n : Nat} {P : Program} {f : FuncId} {args : Array Value} {w : World} {R : Ending → World → Prop} (h : Calls P f args w R) : CallsIn (fnc ro) n P f args w R := (callsIn_wide (n := n)).2 h
theorem rows_fc {ro : Option Nat} {n : Nat} {P : Program} {row : String} {args : Array Value} {w : World} {R : Value → World → Prop} (h : Rows P row args w R) : RowsIn (fnc ro) n P row args w R :=
 fun c cs _ => let ⟨v, w', r, s⟩ := h c cs; ⟨v, w', r, stepsIn_wide.2 s⟩

theorem wp_fc {ro : Option Nat} {n : Nat} {P : Program} {o : Oper} {a : Act} {w : World} {K : Act → World → Prop} {Q : Exit → Act → World → Prop} (hnd : ∀ c, o.op ≠ .defer c) (h : o.wp P a w K Q) : o.wpIn (fnc ro) n P a w K Q := by
 refine ⟨fun _ _ => trivial, ?_⟩
 rw [Oper.semAt_eq _ _ _ hnd]
 unfold Oper.wp at h
 generalize (execOp a.eval o).run P w = r at *
 cases r with
 | ok x w' =>
   cases x <;> simp only [Oper.upon, Oper.uponIn] at h ⊢ <;> first
     | exact h
     | exact ⟨fun hd => by simp [fnc] at hd, calls_fc (h.mono fun e w'' he => by cases e <;> exact he)⟩
     | exact ⟨fun hd => by simp [fnc] at hd, rows_fc h⟩
     | exact h.elim
 | halt x w' => cases x <;> simp only [Oper.upon, Oper.uponIn] at h ⊢ <;> exact h

theorem Link.plain {ops : Array Oper} {o : Oper} {ao : AOper} (h : Link T ops o ao) : ∀ c, o.op ≠ .defer c := by
 intro c hc
 obtain ⟨op0, h1, _⟩ := h.op
 rw [hc] at h1
 simp [cOp] at h1

theorem drop_pre {α : Type} {o : α} {os l : List α} {k : Nat} (h : (o :: os) <+: l.drop k) : os <+: l.drop (k + 1) := by
 obtain ⟨q, hq⟩ := h
 refine ⟨q, ?_⟩
 rw [← List.drop_drop, ← hq]
 rfl

/-- In the order of the text. -/
theorem Tr.plain {ro : Option Nat} {n0 : Nat} {d : Bool} {ops : Array Oper} {l : List Oper} {al : List AOper} {E : Env} {H : Heap} {E' : Env} {H' : Heap} (h : Tr T n0 d ops l al E H E' H') :
   ∀ (k : Nat) (_ : l <+: ops.toList.drop k) (n : Nat) (_ : dstsOk n al = true) (a : Act) (w : World) (M : Nat → Prop) (μ : Inj) (_ : n ≤ a.tmps.size) (_ : n0 ≤ H.length) (_ : Sim T.gid w M μ H) (_ : ERel T.gid w M μ a.tmps E)
     (Q : Exit → Act → World → Prop) (_ : ∀ a' w' M' μ', Step T.gid n0 w M μ H w' M' μ' H' → ERel T.gid w' M' μ' a'.tmps E' → a'.defers = a.defers → a'.tmps.size = a.tmps.size → Q .normal a' w'),
     wpOpsIn (fnc ro) 0 T.P ops Q (List.range' k l.length) a w := by
 induction h with
 | nil => intro k _ n _ a w M μ _ _ hs hE Q hQ; exact hQ a w M μ (.refl hs) hE rfl rfl
 | @skip o ao os aos E H E' H' hl hg _ ih =>
   intro k hk n hds a w M μ hn hn0 hs hE Q hQ
   have ho : ops[k]? = some o := by
     obtain ⟨q, hq⟩ := hk
     have := congrArg (·[0]?) hq.symm
     simpa [List.getElem?_drop] using this
   have hw := wanted_eq (w := w) (M := M) (μ := μ) hl (fun t _ => hE t) hg
   simp only [dstsOk, List.all_cons, Bool.and_eq_true] at hds
   rw [List.length_cons, List.range'_succ]
   simp only [wpOpsIn, ho, hw, Bool.false_eq_true, if_false]
   refine ⟨fun _ _ => trivial, ?_⟩
   refine ih (k + 1) (drop_pre hk) n hds.2 _ w M μ (by rw [put_size]; exact hn) hn0 hs ?_ Q (fun a' w' M' μ' st hE' hd' hsz => hQ a' w' M' μ' st hE' (by rw [hd', put_defers]) (by rw [hsz, put_size]))
   rw [hl.dst]
   exact ERel.put hE (fun dd hdd => by rw [hdd] at hds; have := hds.1; simp at this; omega) R.undef a.defers
 | @step o ao os aos E H v H1 E' H' hl hg sem len pre quiet spare _ ih =>
   intro k hk n hds a w M μ hn hn0 hs hE Q hQ
   have ho : ops[k]? = some o := by
     obtain ⟨q, hq⟩ := hk
     have := congrArg (·[0]?) hq.symm
     simpa [List.getElem?_drop] using this
   have hw := wanted_eq (w := w) (M := M) (μ := μ) hl (fun t _ => hE t) hg
   simp only [dstsOk, List.all_cons, Bool.and_eq_true] at hds
   rw [List.length_cons, List.range'_succ]
   simp only [wpOpsIn, ho, hw, if_true]
   refine wp_fc hl.plain (sem a w M μ _ Q hn0 hs (fun t _ => hE t) fun v' w' M' μ' st hr => ?_)
   refine ih (k + 1) (drop_pre hk) n hds.2 _ w' M' μ' (by rw [put_size]; exact hn) (by omega) st.sim ?_ Q
     (fun a' w2 M2 μ2 st2 hE' hd' hsz => hQ a' w2 M2 μ2 (st.trans st2) hE' (by rw [hd', put_defers]) (by rw [hsz, put_size]))
   rw [hl.dst]
   exact ERel.put (fun t => st.r hs (hE t)) (fun dd hdd => by rw [hdd] at hds; have := hds.1; simp at this; omega) hr a.defers

end Go.Abs

/- A region that draws its order: every order comes to what the order of the text comes to. -/
namespace Go.Abs

variable {T : Tab} {gid : Gid} {w w' w0 : World} {M M' M0 : Nat → Prop} {μ μ' μ0 μi : Inj} {H Hi Hi1 He H0 : Heap} {n0 : Nat}

def cutM (n : Nat) (μ : Inj) : Inj := fun b => if b < n then μ b else none

theorem cutM_sub {n : Nat} {μ : Inj} : ∀ b x, cutM n μ b = some x → μ b = some x := fun b x h => by
 unfold cutM at h
 split at h
 · exact h
 · cases h

theorem cutM_lt {n : Nat} {μ : Inj} : ∀ b x, cutM n μ b = some x → b < n := fun b x h => by
 unfold cutM at h
 split at h
 · assumption
 · cases h

theorem pre_get {A B : Heap} (h : A <+: B) {b : Nat} (hb : b < A.length) : B[b]? = A[b]? := by
 obtain ⟨C, rfl⟩ := h
 rw [List.getElem?_append_left hb]

theorem pre_some {A B : Heap} (h : A <+: B) {b : Nat} {x : Option Blk} (hb : A[b]? = some x) : B[b]? = some x := by
 rw [pre_get h (List.getElem?_eq_some_iff.1 hb).1]; exact hb

theorem pre_len {A B : Heap} (h : A <+: B) : A.length ≤ B.length := h.length_le

theorem Sim.restrict (hs : Sim gid w M μ He) (hp : Hi <+: He) (hl : LowH Hi.length μ He) : Sim gid w M (cutM Hi.length μ) Hi := by
 refine ⟨fun b x h => cutM_lt b x h, fun b1 b2 c o z o' z' h1 h2 ⟨k1, a1⟩ ⟨k2, a2⟩ => hs.inj b1 b2 c o z o' z' (cutM_sub _ _ h1) (cutM_sub _ _ h2) ⟨k1, pre_some hp a1⟩ ⟨k2, pre_some hp a2⟩, fun b c o z k h1 h2 => ?_, hs.tab⟩
 have hk := hs.blk b c o z k (cutM_sub _ _ h1) (pre_some hp h2)
 obtain ⟨arr, e, l1, l2, l3⟩ := hk.lay
 have hlow := hl b k (cutM_lt _ _ h1) (by rw [cutM_sub _ _ h1]; simp) (pre_some hp h2)
 refine ⟨hk.hz, hk.hM, hk.hF, ⟨arr, e, l1, l2, fun i el hi => ?_⟩, hk.pur⟩
 obtain ⟨h3, h4, h5⟩ := l3 i el hi
 refine ⟨h3, h4, fun j cv hj => ?_⟩
 obtain ⟨v, hv, hr⟩ := h5 j cv hj
 exact ⟨v, hv, hr.low (Keep.refl w M) (Shape.refl w) (n := Hi.length) (fun b x hb hx => by unfold cutM; rw [if_pos hb]; exact hx) (hlow el (List.mem_of_getElem? hi) cv (List.mem_of_getElem? hj))⟩

theorem dead_get {N b : Nat} {k : Blk} : ¬ (List.replicate N (none : Option Blk))[b]? = some (some k) := by
 intro h
 rw [List.getElem?_replicate] at h
 split at h <;> cases h

theorem Sim.dead {N : Nat} (tb : Tabs gid w M) (hd : ∀ b x, μ b = some x → b < N) : Sim gid w M μ (List.replicate N none) :=
 ⟨fun b x h => by simpa using hd b x h, fun _ _ _ _ _ _ _ _ _ ⟨_, a⟩ _ => absurd a dead_get, fun _ _ _ _ _ _ h => absurd h dead_get, tb⟩

theorem Step.of_dead {N : Nat} (hs : Sim gid w M μ He) (st : Step gid n0 w M μi (List.replicate N none) w' M' μ' (List.replicate N none)) : Step gid n0 w M μ He w' M' μ He := by
 have fr : ∀ c, c < w.heap.size → w'.heap[c]? = w.heap[c]? := fun c hc => st.frame c hc fun b _ _ _ ⟨k, hk, _⟩ => dead_get hk
 have kp : Keep w M w' M' := ⟨st.size, fun c hc _ => fr c hc, fun c hc hm => (st.sub c hm).resolve_right (by omega)⟩
 have km : ∀ c, c < w.heap.size → M c → M' c := fun c hc hm => st.keepM c hc hm fun b _ _ _ ⟨k, hk, _⟩ => dead_get hk
 refine ⟨⟨hs.dom, hs.inj, fun b c o z k h1 h2 => ?_, hs.tab.keep kp⟩, fun _ _ => rfl, Nat.le_refl _, st.size, fun c hc _ => fr c hc, st.shape, st.sub, fun c hc hm _ => km c hc hm, fun b c o z hb h => absurd (hs.dom b _ h) (by omega),
   fun _ _ h => h, fun _ _ h => h, fun _ _ h => h, st.os, st.tape, st.output⟩
 have hk := hs.blk b c o z k h1 h2
 exact hk.mono kp st.shape (fun _ _ h => h) (fr c hk.lt) fun hw => km c hk.lt (hk.hM hw)

theorem Step.extend (hs : Sim gid w M μ H) (hp : H <+: He) : Step gid n0 w M μ H w M μ He := by
 have al : ∀ b x, μ b = some x → He[b]? = H[b]? := fun b x h => pre_get hp (hs.dom b x h)
 refine ⟨⟨fun b x h => Nat.lt_of_lt_of_le (hs.dom b x h) (pre_len hp), fun b1 b2 c o z o' z' h1 h2 ⟨k1, a1⟩ ⟨k2, a2⟩ => hs.inj b1 b2 c o z o' z' h1 h2 ⟨k1, by rw [← al b1 _ h1]; exact a1⟩ ⟨k2, by rw [← al b2 _ h2]; exact a2⟩,
   fun b c o z k h1 h2 => hs.blk b c o z k h1 (by rw [← al b _ h1]; exact h2), hs.tab⟩, fun _ _ => rfl, pre_len hp, Nat.le_refl _, fun _ _ _ => rfl, Shape.refl w, fun _ h => .inl h, fun _ _ h _ => h,
   fun b c o z hb h => absurd (hs.dom b _ h) (by omega), fun b hb ⟨k, h1, h2⟩ => ⟨k, by rw [← pre_get hp hb]; exact h1, h2⟩, fun b hb ⟨k, h1⟩ => ⟨k, by rw [← pre_get hp hb]; exact h1⟩,
   fun n _ hl b k h1 h2 h3 => ?_, rfl, rfl, rfl⟩
 obtain ⟨x, hx⟩ := Option.ne_none_iff_exists'.1 h2
 exact hl b k h1 h2 (by rw [← al b x hx]; exact h3)

/-- An operation in the midst of a segment: it ran over the heap of its place in the text, and the heap of the segment's end is laid out behind it. -/
theorem Step.merge (A : Step gid n0 w0 M0 μ0 H0 w M μ He) (h0i : H0.length ≤ Hi.length) (hn : n0 ≤ H0.length) (hp : Hi <+: Hi1) (hp1 : Hi1 <+: He)
   (hgap : ∀ b, Hi.length ≤ b → b < Hi1.length → μ b = none) (hsr : Sim gid w M (cutM Hi.length μ) Hi) (B : Step gid n0 w M (cutM Hi.length μ) Hi w' M' μi Hi1) :
   Step gid n0 w0 M0 μ0 H0 w' M' (fun b => if b < Hi1.length then μi b else μ b) He := by
 have hpe : Hi <+: He := hp.trans hp1
 have hs := A.sim
 have hlt : Hi.length ≤ Hi1.length := pre_len hp
 have i_old : ∀ b, b < Hi.length → μi b = μ b := fun b hb => by rw [B.ext b hb]; unfold cutM; rw [if_pos hb]
 have kp : Keep w M w' M' := B.keep hsr
 have mm : ∀ b x, μ b = some x → (if b < Hi1.length then μi b else μ b) = some x := by
   intro b x hb
   split
   · rename_i h1
     by_cases h2 : b < Hi.length
     · rw [i_old b h2]; exact hb
     · rw [hgap b (by omega) h1] at hb; cases hb
   · exact hb
 have freshI : ∀ b c o z, Hi.length ≤ b → μi b = some (c, o, z) → alive He b → w.heap.size ≤ c := by
   intro b c o z hb hm ⟨k, hk⟩
   rcases B.fresh b c o z hb hm with h1 | ⟨b0, o0, z0, h1, ⟨k0, h2, h3⟩⟩
   · exact h1
   · have hb1 : b < Hi1.length := B.sim.dom b _ hm
     have := B.sim.inj b0 b c o0 z0 o z (by rw [B.ext b0 (cutM_lt _ _ h1)]; exact h1) hm ⟨k0, pre_some hp h2⟩ ⟨k, by rw [← pre_get hp1 hb1]; exact hk⟩
     have := cutM_lt _ _ h1
     omega
 have quiet : ∀ c, c < w0.heap.size → (∀ b o z, μ0 b = some (c, o, z) → ¬ wrAt H0 b) → ∀ b o z, cutM Hi.length μ b = some (c, o, z) → ¬ wrAt Hi b := by
   intro c hc hq b o z hb ⟨k, hk, hw⟩
   have hb' := cutM_sub _ _ hb
   by_cases hl : b < H0.length
   · exact hq b o z (by rw [← A.ext b hl]; exact hb') (A.wrmono b hl ⟨k, pre_some hpe hk, hw⟩)
   · rcases A.fresh b c o z (by omega) hb' with h1 | ⟨b0, o0, z0, h1, h2⟩
     · omega
     · exact hq b0 o0 z0 h1 h2
 refine ⟨⟨?_, ?_, ?_, B.sim.tab⟩, ?_, A.len, Nat.le_trans A.size B.size, ?_, A.shape.trans B.shape, ?_, ?_, ?_, A.wrmono, A.alv, ?_, B.os.trans A.os, B.tape.trans A.tape, B.output.trans A.output⟩
 · intro b x hx
   have := pre_len hp1
   split at hx
   · omega
   · exact hs.dom b x hx
 · intro b1 b2 c o z o' z' h1 h2 a1 a2
   have side : ∀ b b' c o z o' z', b < Hi1.length → Hi1.length ≤ b' → μi b = some (c, o, z) → μ b' = some (c, o', z') → alive He b → alive He b' → b = b' := by
     intro b b' c o z o' z' g1 g2 g3 g4 a a'
     by_cases g5 : b < Hi.length
     · rw [i_old b g5] at g3
       exact hs.inj b b' c o z o' z' g3 g4 a a'
     · have := freshI b c o z (by omega) g3 a
       obtain ⟨k', hk'⟩ := a'
       have := (hs.blk b' c o' z' k' g4 hk').lt
       omega
   split at h1 <;> split at h2
   · rename_i g1 g2
     obtain ⟨k1, a1⟩ := a1
     obtain ⟨k2, a2⟩ := a2
     exact B.sim.inj b1 b2 c o z o' z' h1 h2 ⟨k1, by rw [← pre_get hp1 g1]; exact a1⟩ ⟨k2, by rw [← pre_get hp1 g2]; exact a2⟩
   · exact side b1 b2 c o z o' z' (by assumption) (by omega) h1 h2 a1 a2
   · exact (side b2 b1 c o' z' o z (by assumption) (by omega) h2 h1 a2 a1).symm
   · exact hs.inj b1 b2 c o z o' z' h1 h2 a1 a2
 · intro b c o z k h1 h2
   split at h1
   · rename_i g1
     have hk := B.sim.blk b c o z k h1 (by rw [← pre_get hp1 g1]; exact h2)
     exact hk.mono (Keep.refl w' M') (Shape.refl w') (fun b' x hx => by rw [if_pos (B.sim.dom b' x hx)]; exact hx) rfl hk.hM
   · rename_i g1
     have hk := hs.blk b c o z k h1 h2
     have q : ∀ b' o' z', cutM Hi.length μ b' = some (c, o', z') → ¬ wrAt Hi b' := by
       intro b' o' z' hb' ⟨k', hk', _⟩
       have := hs.inj b' b c o' z' o z (cutM_sub _ _ hb') h1 ⟨k', pre_some hpe hk'⟩ ⟨k, h2⟩
       have := cutM_lt _ _ hb'
       omega
     exact hk.mono kp B.shape mm (B.frame c hk.lt q) fun hw => B.keepM c hk.lt (hk.hM hw) q
 · intro b hb
   rw [if_pos (by omega), i_old b (by omega), A.ext b hb]
 · intro c hc hq
   rw [B.frame c (Nat.lt_of_lt_of_le hc A.size) (quiet c hc hq), A.frame c hc hq]
 · intro c hc
   rcases B.sub c hc with h1 | h1
   · exact A.sub c h1
   · exact .inr (Nat.le_trans A.size h1)
 · intro c hc hm hq
   exact B.keepM c (Nat.lt_of_lt_of_le hc A.size) (A.keepM c hc hm hq) (quiet c hc hq)
 · intro b c o z hb h1
   split at h1
   · by_cases g2 : b < Hi.length
     · rw [i_old b g2] at h1
       exact A.fresh b c o z hb h1
     · rcases B.fresh b c o z (by omega) h1 with h3 | ⟨b0, o0, z0, h3, ⟨k, hk, hw⟩⟩
       · exact .inl (Nat.le_trans A.size h3)
       · by_cases hl : b0 < H0.length
         · exact .inr ⟨b0, o0, z0, by rw [← A.ext b0 hl]; exact cutM_sub _ _ h3, A.wrmono b0 hl ⟨k, pre_some hpe hk, hw⟩⟩
         · exact A.fresh b0 c o0 z0 (by omega) (cutM_sub _ _ h3)
   · exact A.fresh b c o z hb h1
 · intro n hn' hl b k h1 h2 h3
   have h2 : (if b < Hi1.length then μi b else μ b) ≠ none := h2
   rw [if_pos (by omega), i_old b (by omega)] at h2
   exact A.low n hn' hl b k h1 h2 h3

/- What surely comes before. -/
theorem closeBits_spec (bits : List Nat) : ∀ (after : List Edge) (s k : Nat), (after.foldl (fun s e => if Region.binds .any e then s ||| 2 ^ e.on ||| bits.getD e.on 0 else s) s).testBit k = true →
   s.testBit k = true ∨ ∃ e ∈ after, Region.binds .any e = true ∧ (k = e.on ∨ (bits.getD e.on 0).testBit k = true)
 | [], s, k, h => .inl h
 | e :: after, s, k, h => by
   rw [List.foldl_cons] at h
   rcases closeBits_spec bits after _ k h with h1 | ⟨e', h1, h2, h3⟩
   · split at h1
     · rename_i hb
       rw [Nat.testBit_or, Nat.testBit_or, Bool.or_eq_true, Bool.or_eq_true] at h1
       rcases h1 with (h1 | h1) | h1
       · exact .inl h1
       · refine .inr ⟨e, by simp, hb, .inl ?_⟩
         rw [Nat.testBit_two_pow] at h1
         simp at h1
         exact h1.symm
       · exact .inr ⟨e, by simp, hb, .inr h1⟩
     · exact .inl h1
   · exact .inr ⟨e', by simp [h1], h2, h3⟩

theorem befores_prefix : ∀ (l : List Oper) (acc : List Nat), ∃ r, befores l acc = acc ++ r ∧ r.length = l.length
 | [], acc => ⟨[], by simp [befores], rfl⟩
 | o :: l, acc => by
   obtain ⟨r, h1, h2⟩ := befores_prefix l (acc ++ [closeBits acc o.after.toList])
   exact ⟨closeBits acc o.after.toList :: r, by rw [befores, h1]; simp, by simp [h2]⟩

theorem befores_get : ∀ (l : List Oper) (acc : List Nat) (j : Nat) (o : Oper), l[j]? = some o →
   ∃ acc', (befores l acc).getD (acc.length + j) 0 = closeBits acc' o.after.toList ∧ acc'.length = acc.length + j ∧ ∀ i, i < acc.length + j → acc'.getD i 0 = (befores l acc).getD i 0
 | [], acc, j, o, h => by simp at h
 | x :: l, acc, 0, o, h => by
   simp at h
   subst h
   obtain ⟨r, h1, h2⟩ := befores_prefix l (acc ++ [closeBits acc x.after.toList])
   refine ⟨acc, ?_, by simp, fun i hi => ?_⟩
   · rw [befores, h1]; simp [List.getD]
   · rw [befores, h1]
     simp only [List.getD, List.append_assoc]
     rw [List.getElem?_append_left (by omega)]
 | x :: l, acc, j + 1, o, h => by
   obtain ⟨acc', h1, h2, h3⟩ := befores_get l (acc ++ [closeBits acc x.after.toList]) j o (by simpa using h)
   simp only [List.length_append, List.length_singleton] at h1 h2 h3
   refine ⟨acc', ?_, by omega, fun i hi => ?_⟩
   · rw [befores, show acc.length + (j + 1) = acc.length + 1 + j by omega]; exact h1
   · rw [befores]; exact h3 i (by omega)

theorem bits_spec {l : List Oper} {j k : Nat} {o : Oper} (hj : l[j]? = some o) (hd : edgesDown j o = true) (h : ordered (befores l []) k j = true) :
   ∃ e ∈ o.after.toList, Region.binds .any e = true ∧ e.on < j ∧ (k = e.on ∨ ordered (befores l []) k e.on = true) := by
 obtain ⟨acc', h1, h2, h3⟩ := befores_get l [] j o hj
 simp only [List.length_nil, Nat.zero_add] at h1 h2 h3
 unfold ordered at h
 rw [h1] at h
 rcases closeBits_spec acc' o.after.toList 0 k h with h4 | ⟨e, h4, h5, h6⟩
 · simp at h4
 · have hon : e.on < j := by
     have := List.all_eq_true.1 hd e h4
     simp [h5] at this
     exact this
   refine ⟨e, h4, h5, hon, ?_⟩
   rcases h6 with h6 | h6
   · exact .inl h6
   · right
     unfold ordered
     rw [← h3 e.on hon]
     exact h6

/-- The operations that have been carried out: with each the ones that come before it. -/
def Closed (ops : List Oper) (D : Nat → Prop) : Prop := ∀ (i : Nat) (o : Oper), D i → ops[i]? = some o → ∀ e ∈ o.after.toList, Region.binds .any e = true → D e.on

theorem Closed.before {l : List Oper} {D : Nat → Prop} (hc : Closed l D) (hd : ∀ (i : Nat) (o : Oper), l[i]? = some o → edgesDown i o = true) :
   ∀ (j : Nat), D j → j < l.length → ∀ k, ordered (befores l []) k j = true → D k := by
 intro j
 induction j using Nat.strongRecOn with
 | _ j ih =>
   intro hj hlt k hk
   have ho := List.getElem?_eq_getElem hlt
   obtain ⟨e, h1, h2, h3, h4⟩ := bits_spec ho (hd j _ ho) hk
   have hD := hc j _ hj ho e h1 h2
   rcases h4 with rfl | h4
   · exact hD
   · exact ih e.on h3 hD (by omega) k h4

theorem ready_before {l : List Oper} {D : Nat → Prop} (hc : Closed l D) (hd : ∀ (i : Nat) (o : Oper), l[i]? = some o → edgesDown i o = true) {i : Nat} {o : Oper} (hi : l[i]? = some o)
   (hr : ∀ e ∈ o.after.toList, Region.binds .any e = true → D e.on) : ∀ k, ordered (befores l []) k i = true → D k := by
 intro k hk
 obtain ⟨e, h1, h2, h3, h4⟩ := bits_spec hi (hd i o hi) hk
 have hD := hr e h1 h2
 rcases h4 with rfl | h4
 · exact hD
 · have : i < l.length := (List.getElem?_eq_some_iff.1 hi).1
   exact hc.before hd e.on hD (by omega) k h4

end Go.Abs

/- A region that draws its order, proved. -/
namespace Go.Abs

variable {T : Tab}

/-- What is done at one place of the text. -/
def AtOp (T : Tab) (n0 : Nat) (o : Oper) (ao : AOper) (E : Env) (H : Heap) (v : V) (H1 : Heap) : Prop :=
 (gd ao E = some false ∧ v = .undef ∧ H1 = H) ∨
 (gd ao E = some true ∧ OpSem T n0 o ao.op.reads E H v H1 ∧ H.length ≤ H1.length ∧ (ao.sync = false → H <+: H1) ∧ (ao.op.loud = false → H1 = H ∧ ((∀ Hc, OpSem T n0 o ao.op.reads E Hc v Hc) ∨ LateSem T n0 o ao.op E H v)) ∧
   (∀ z x y av, ao.op = .storeN z x y av → ∀ t ∈ av, ∀ b i off, E t = .ptr b i off → H1[b]? = H[b]?))

structure Run (T : Tab) (n0 : Nat) (ops : Array Oper) (l : List Oper) (al : List AOper) (Es : Nat → Env) (Hs : Nat → Heap) (vs : Nat → V) : Prop where
 len : al.length = l.length
 link : ∀ (i : Nat) (o : Oper) (ao : AOper), l[i]? = some o → al[i]? = some ao → Link T ops o ao
 env : ∀ (i : Nat) (ao : AOper), al[i]? = some ao → Es (i + 1) = put (Es i) ao.dst (vs i)
 at_ : ∀ (i : Nat) (o : Oper) (ao : AOper), l[i]? = some o → al[i]? = some ao → AtOp T n0 o ao (Es i) (Hs i) (vs i) (Hs (i + 1))

theorem Tr.run {n0 : Nat} {ops : Array Oper} {l : List Oper} {al : List AOper} {E : Env} {H : Heap} {E' : Env} {H' : Heap} (h : Tr T n0 true ops l al E H E' H') :
   ∃ Es Hs vs, Run T n0 ops l al Es Hs vs ∧ Es 0 = E ∧ Hs 0 = H ∧ Es l.length = E' ∧ Hs l.length = H' := by
 induction h with
 | @nil E H => exact ⟨fun _ => E, fun _ => H, fun _ => .undef, ⟨rfl, by simp, by simp, by simp⟩, rfl, rfl, rfl, rfl⟩
 | @skip o ao os aos E H E' H' hl hg _ ih =>
   obtain ⟨Es, Hs, vs, hr, h1, h2, h3, h4⟩ := ih
   refine ⟨fun i => match i with | 0 => E | i + 1 => Es i, fun i => match i with | 0 => H | i + 1 => Hs i, fun i => match i with | 0 => .undef | i + 1 => vs i, ⟨by simp [hr.len], ?_, ?_, ?_⟩, rfl, rfl, h3, h4⟩
   · intro i o' ao' ho ha
     cases i with
     | zero => simp at ho ha; subst ho; subst ha; exact hl
     | succ i => exact hr.link i o' ao' (by simpa using ho) (by simpa using ha)
   · intro i ao' ha
     cases i with
     | zero => simp at ha; subst ha; exact h1
     | succ i => exact hr.env i ao' (by simpa using ha)
   · intro i o' ao' ho ha
     cases i with
     | zero => simp at ho ha; subst ho; subst ha; exact .inl ⟨hg, rfl, h2⟩
     | succ i => exact hr.at_ i o' ao' (by simpa using ho) (by simpa using ha)
 | @step o ao os aos E H v H1 E' H' hl hg sem len pre quiet spare _ ih =>
   obtain ⟨Es, Hs, vs, hr, h1, h2, h3, h4⟩ := ih
   refine ⟨fun i => match i with | 0 => E | i + 1 => Es i, fun i => match i with | 0 => H | i + 1 => Hs i, fun i => match i with | 0 => v | i + 1 => vs i, ⟨by simp [hr.len], ?_, ?_, ?_⟩, rfl, rfl, h3, h4⟩
   · intro i o' ao' ho ha
     cases i with
     | zero => simp at ho ha; subst ho; subst ha; exact hl
     | succ i => exact hr.link i o' ao' (by simpa using ho) (by simpa using ha)
   · intro i ao' ha
     cases i with
     | zero => simp at ha; subst ha; exact h1
     | succ i => exact hr.env i ao' (by simpa using ha)
   · intro i o' ao' ho ha
     cases i with
     | zero =>
       simp at ho ha; subst ho; subst ha
       refine .inr ⟨hg, ?_, ?_, fun hs => ?_, fun hq => ?_, ?_⟩
       · show OpSem T n0 o ao.op.reads E H v (Hs 0); rw [h2]; exact sem
       · show H.length ≤ (Hs 0).length; rw [h2]; exact len
       · show H <+: Hs 0; rw [h2]; exact pre rfl hs
       · show Hs 0 = H ∧ _; rw [h2]; exact quiet hq
       · show ∀ z x y av, ao.op = .storeN z x y av → ∀ t ∈ av, ∀ b i off, E t = .ptr b i off → (Hs 0)[b]? = H[b]?; rw [h2]; exact spare
     | succ i => exact hr.at_ i o' ao' (by simpa using ho) (by simpa using ha)

section
variable {n0 : Nat} {ops : Array Oper} {l : List Oper} {al : List AOper} {Es : Nat → Env} {Hs : Nat → Heap} {vs : Nat → V}

def dstAt (al : List AOper) (j : Nat) : Option Nat := (al[j]?).bind (·.dst)
def loudAt (al : List AOper) (j : Nat) : Prop := ∃ ao, al[j]? = some ao ∧ ao.op.loud = true
def syncAt (al : List AOper) (j : Nat) : Prop := ∃ ao, al[j]? = some ao ∧ ao.sync = true

theorem Run.mono (hr : Run T n0 ops l al Es Hs vs) {i j : Nat} (h : i ≤ j) (hj : j ≤ l.length) : (Hs i).length ≤ (Hs j).length := by
 induction j with
 | zero => have : i = 0 := by omega
           subst this; exact Nat.le_refl _
 | succ j ih =>
   rcases Nat.lt_or_ge i (j + 1) with h1 | h1
   · refine Nat.le_trans (ih (by omega) (by omega)) ?_
     have ho := List.getElem?_eq_getElem (show j < l.length by omega)
     have ha := List.getElem?_eq_getElem (show j < al.length by rw [hr.len]; omega)
     rcases hr.at_ j _ _ ho ha with ⟨_, _, h2⟩ | ⟨_, _, h2, _⟩
     · rw [h2]; exact Nat.le_refl _
     · exact h2
   · have : i = j + 1 := by omega
     subst this; exact Nat.le_refl _

/-- Within a segment each heap is the beginning of the later ones. -/
theorem Run.pre (hr : Run T n0 ops l al Es Hs vs) {s : Nat} {i j : Nat} (hs : s ≤ i) (h : i ≤ j) (hj : j ≤ l.length) (hq : ∀ k, s ≤ k → k < j → loudAt al k → ¬ syncAt al k) : Hs i <+: Hs j := by
 induction j with
 | zero => have : i = 0 := by omega
           subst this; exact List.prefix_refl _
 | succ j ih =>
   rcases Nat.lt_or_ge i (j + 1) with h1 | h1
   · refine (ih (by omega) (by omega) (fun k h1 h2 => hq k h1 (by omega))).trans ?_
     have ho := List.getElem?_eq_getElem (show j < l.length by omega)
     have ha := List.getElem?_eq_getElem (show j < al.length by rw [hr.len]; omega)
     rcases hr.at_ j _ _ ho ha with ⟨_, _, h2⟩ | ⟨_, _, _, h2, h3, _⟩
     · rw [h2]; exact List.prefix_refl _
     · by_cases hl : (al[j]'(by rw [hr.len]; omega)).op.loud = true
       · apply h2
         have := hq j (by omega) (by omega) ⟨_, ha, hl⟩
         cases hsy : (al[j]'(by rw [hr.len]; omega)).sync with
         | false => rfl
         | true => exact absurd ⟨_, ha, hsy⟩ this
       · rw [(h3 (by simpa using hl)).1]; exact List.prefix_refl _
   · have : i = j + 1 := by omega
     subst this; exact List.prefix_refl _

theorem Run.val (hr : Run T n0 ops l al Es Hs vs) (t : Nat) : ∀ m, m ≤ l.length →
   (∃ j, j < m ∧ dstAt al j = some t ∧ (∀ j', j' < m → dstAt al j' = some t → j' ≤ j) ∧ Es m t = vs j) ∨ ((∀ j, j < m → dstAt al j ≠ some t) ∧ Es m t = Es 0 t)
 | 0, _ => .inr ⟨by simp, rfl⟩
 | m + 1, hm => by
   have ha := List.getElem?_eq_getElem (show m < al.length by rw [hr.len]; omega)
   have he := hr.env m _ ha
   by_cases hd : dstAt al m = some t
   · refine .inl ⟨m, by omega, hd, fun j' h1 _ => by omega, ?_⟩
     unfold dstAt at hd
     rw [ha] at hd
     simp only [Option.bind_some] at hd
     rw [he, hd]
     simp [put, upd]
   · have hsame : Es (m + 1) t = Es m t := by
       rw [he]
       unfold dstAt at hd
       rw [ha] at hd
       simp only [Option.bind_some] at hd
       cases hq : (al[m]'(by rw [hr.len]; omega)).dst with
       | none => rfl
       | some d =>
         rw [hq] at hd
         have : t ≠ d := fun e => hd (by rw [e])
         simp [put, upd, this]
     rcases hr.val t m (by omega) with ⟨j, h1, h2, h3, h4⟩ | ⟨h1, h2⟩
     · refine .inl ⟨j, by omega, h2, fun j' h5 h6 => ?_, by rw [hsame]; exact h4⟩
       rcases Nat.lt_or_ge j' m with h7 | h7
       · exact h3 j' h7 h6
       · have : j' = m := by omega
         subst this; exact absurd h6 hd
     · refine .inr ⟨fun j h5 h6 => ?_, by rw [hsame]; exact h2⟩
       rcases Nat.lt_or_ge j m with h7 | h7
       · exact h1 j h7 h6
       · have : j = m := by omega
         subst this; exact hd h6

/-- The end of the segment that begins at s. -/
theorem segEnd (al : List AOper) (n : Nat) : ∀ (d s : Nat), n - s = d → s ≤ n → ∃ e, s ≤ e ∧ e ≤ n ∧ (∀ k, s ≤ k → k < e → loudAt al k → ¬ syncAt al k) ∧ (e = n ∨ (e < n ∧ loudAt al e ∧ syncAt al e))
 | 0, s, h, hs => ⟨s, Nat.le_refl _, hs, fun k h1 h2 => by omega, .inl (by omega)⟩
 | d + 1, s, h, hs => by
   by_cases hq : loudAt al s ∧ syncAt al s
   · exact ⟨s, Nat.le_refl _, hs, fun k h1 h2 => by omega, .inr ⟨by omega, hq.1, hq.2⟩⟩
   · obtain ⟨e, h1, h2, h3, h4⟩ := segEnd al n d (s + 1) (by omega) (by omega)
     refine ⟨e, by omega, h2, fun k h5 h6 hl hsy => ?_, h4⟩
     rcases Nat.eq_or_lt_of_le h5 with h7 | h7
     · subst h7; exact hq ⟨hl, hsy⟩
     · exact h3 k (by omega) h6 hl hsy

variable {w0 : World} {M0 : Nat → Prop} {μ0 : Inj}

/-- What holds of the world while a region's operations are carried out: the ones of D have been. -/
structure HInv (T : Tab) (n0 : Nat) (al : List AOper) (n : Nat) (Hs : Nat → Heap) (w0 : World) (M0 : Nat → Prop) (μ0 : Inj) (D : Nat → Prop) (w : World) (M : Nat → Prop) (μ : Inj) (s e : Nat) : Prop where
 se : s ≤ e
 en : e ≤ n
 lo : ∀ j, j < s → loudAt al j → D j
 hi : ∀ j, e ≤ j → loudAt al j → ¬ D j
 seg : ∀ k, s ≤ k → k < e → loudAt al k → ¬ syncAt al k
 last : e = n ∨ (e < n ∧ loudAt al e ∧ syncAt al e)
 step : Step T.gid n0 w0 M0 μ0 (Hs 0) w M μ (Hs e)
 dom : ∀ b x, μ b = some x → b < (Hs s).length ∨ ∃ j, s ≤ j ∧ j < e ∧ D j ∧ (Hs j).length ≤ b ∧ b < (Hs (j + 1)).length
 low : ∀ k, s ≤ k → k ≤ e → LowH (Hs k).length μ (Hs e)

theorem HInv.begin (hr : Run T n0 ops l al Es Hs vs) {D : Nat → Prop} {w : World} {M : Nat → Prop} {μ : Inj} {s : Nat} (hs : s ≤ l.length) (lo : ∀ j, j < s → loudAt al j → D j)
   (hi : ∀ j, s ≤ j → loudAt al j → ¬ D j) (st : Step T.gid n0 w0 M0 μ0 (Hs 0) w M μ (Hs s)) : ∃ e, HInv T n0 al l.length Hs w0 M0 μ0 D w M μ s e := by
 obtain ⟨e, h1, h2, h3, h4⟩ := segEnd al l.length _ s rfl hs
 refine ⟨e, h1, h2, lo, fun j hj => hi j (by omega), h3, h4, st.trans (Step.extend st.sim (hr.pre (Nat.le_refl _) h1 h2 h3)), fun b x hx => .inl (st.sim.dom b x hx), fun k hk1 hk2 b kk hb hm hk el hel c hc => ?_⟩
 obtain ⟨⟨cc, o, z⟩, hx⟩ := Option.ne_none_iff_exists'.1 hm
 have hbs := st.sim.dom b _ hx
 rw [pre_get (hr.pre (Nat.le_refl _) h1 h2 h3) hbs] at hk
 obtain ⟨arr, et, l1, l2, l3⟩ := (st.sim.blk b cc o z kk hx hk).lay
 obtain ⟨i, hi'⟩ := List.getElem?_of_mem hel
 obtain ⟨j, hj⟩ := List.getElem?_of_mem hc
 obtain ⟨v, _, hrc⟩ := (l3 i el hi').2.2 j c hj
 exact (hrc.toLow (fun b x h => st.sim.dom b x h)).mono (hr.mono hk1 (by omega))

/-- What holds of the frame. -/
def EInv (T : Tab) (al : List AOper) (n : Nat) (Es : Nat → Env) (Hs : Nat → Heap) (vs : Nat → V) (D : Nat → Prop) (tmps : Array Value) (w : World) (M : Nat → Prop) (μ : Inj) : Prop :=
 ∀ t, (∃ j, j < n ∧ D j ∧ dstAt al j = some t ∧ (∀ j', j' < n → D j' → dstAt al j' = some t → j' ≤ j) ∧ R T.gid w M (cutM (Hs (j + 1)).length μ) (tmps.getD t Go.undef) (vs j)) ∨
   ((∀ j, j < n → D j → dstAt al j ≠ some t) ∧ R T.gid w M (cutM (Hs 0).length μ) (tmps.getD t Go.undef) (Es 0 t))

theorem cutM_le {n m : Nat} (h : n ≤ m) {μ : Inj} : ∀ b x, cutM n μ b = some x → cutM m μ b = some x := fun b x hx => by
 have h1 := cutM_lt _ _ hx
 have h2 := cutM_sub _ _ hx
 unfold cutM
 rw [if_pos (by omega)]
 exact h2

theorem cutM_mono {n : Nat} {μ μ' : Inj} (h : ∀ b x, μ b = some x → μ' b = some x) : ∀ b x, cutM n μ b = some x → cutM n μ' b = some x := fun b x hx => by
 have h1 := cutM_lt _ _ hx
 have h2 := h _ _ (cutM_sub _ _ hx)
 unfold cutM
 rw [if_pos h1]
 exact h2

/-- The static look at a region. -/
structure Static (l : List Oper) (al : List AOper) : Prop where
 down : ∀ (i : Nat) (o : Oper), l[i]? = some o → edgesDown i o = true
 self : ∀ (i : Nat) (o : Oper) (ao : AOper), l[i]? = some o → al[i]? = some ao → selfOk ao = true
 pair : ∀ (i j : Nat) (a b : AOper), i < j → al[i]? = some a → al[j]? = some b → pairOk (befores l []) i j a b = true

theorem Static.clash (hs : Static l al) {i j : Nat} {a b : AOper} (h : i < j) (ha : al[i]? = some a) (hb : al[j]? = some b) (hc : tmpClash a b = true) : ordered (befores l []) i j = true := by
 have := hs.pair i j a b h ha hb
 unfold pairOk at this
 rw [hc] at this
 simp at this
 exact this.1.2

/-- What a late load asks. -/
theorem Static.late (hs : Static l al) {i j : Nat} {a b : AOper} (h : i < j) (ha : al[i]? = some a) (hb : al[j]? = some b) {ag : Bool} {z t : Nat} (hop : a.op = .sload ag z t) :
   b.dst ≠ some t ∧ (b.sync = true → b.op.loud = true → ordered (befores l []) i j = true ∨ ∃ z x y av, b.op = .storeN z x y av ∧ t ∈ av) := by
 have := hs.pair i j a b h ha hb
 unfold pairOk softOk at this
 rw [hop] at this
 simp only [Bool.and_eq_true] at this
 obtain ⟨⟨⟨⟨h1, h2⟩, _⟩, _⟩, _⟩ := this
 refine ⟨by simpa using h1, fun g1 g2 => ?_⟩
 rw [g1, g2] at h2
 simp only [Bool.and_self, Bool.not_true, Bool.false_or, Bool.or_eq_true] at h2
 rcases h2 with h2 | h2
 · exact .inl h2
 · right
   split at h2
   · rename_i z x y av hq
     exact ⟨z, x, y, av, hq, by simpa using h2⟩
   · cases h2

theorem Static.early (hs : Static l al) {i j : Nat} {a b : AOper} (h : i < j) (ha : al[i]? = some a) (hb : al[j]? = some b) {ag : Bool} {z t : Nat} (hop : b.op = .sload ag z t) (h1 : a.sync = true) (h2 : a.op.loud = true) :
   ordered (befores l []) i j = true := by
 have := hs.pair i j a b h ha hb
 unfold pairOk softOk at this
 rw [hop, h1, h2] at this
 simp only [Bool.and_eq_true] at this
 simpa using this.1.1.2

/-- The block that a late load reads stays as it is. -/
theorem Run.still (hr : Run T n0 ops l al Es Hs vs) (hst : Static l al) {i : Nat} {ao : AOper} (ha : al[i]? = some ao) {ag : Bool} {z t b k off : Nat} (hop : ao.op = .sload ag z t) (hE : Es i t = .ptr b k off) (hb : b < (Hs i).length)
   (hHs : Hs (i + 1) = Hs i) (hdst : ao.dst ≠ some t) : ∀ e, i ≤ e → e ≤ l.length → (∀ j, i < j → j < e → loudAt al j → syncAt al j → ordered (befores l []) i j = false) → (Hs e)[b]? = (Hs i)[b]? ∧ Es e t = Es i t
 | 0, h, _, _ => by have : i = 0 := by omega
                    subst this; exact ⟨rfl, rfl⟩
 | e + 1, h, he, hq => by
   rcases Nat.lt_or_ge i (e + 1) with h1 | h1
   · obtain ⟨g1, g2⟩ := hr.still hst ha hop hE hb hHs hdst e (by omega) (by omega) fun j h2 h3 => hq j h2 (by omega)
     have hae := List.getElem?_eq_getElem (show e < al.length by rw [hr.len]; omega)
     have hoe := List.getElem?_eq_getElem (show e < l.length by omega)
     have hd : (al[e]'(by rw [hr.len]; omega)).dst ≠ some t := by
       rcases Nat.eq_or_lt_of_le (show i ≤ e by omega) with h2 | h2
       · subst h2
         rw [ha] at hae
         injection hae with hae
         rw [← hae]
         exact hdst
       · exact (hst.late h2 ha hae hop).1
     have hEe : Es (e + 1) t = Es e t := by
       rw [hr.env e _ hae]
       cases hq' : (al[e]'(by rw [hr.len]; omega)).dst with
       | none => rfl
       | some d =>
         have : t ≠ d := fun e' => hd (by rw [hq', e'])
         simp [put, upd, this]
     refine ⟨?_, hEe.trans g2⟩
     rcases Nat.eq_or_lt_of_le (show i ≤ e by omega) with h2 | h2
     · subst h2; rw [hHs]
     · rw [← g1]
       rcases hr.at_ e _ _ hoe hae with ⟨_, _, h3⟩ | ⟨_, _, _, h3, h4, h5⟩
       · rw [h3]
       · cases hl : (al[e]'(by rw [hr.len]; omega)).op.loud with
         | false => rw [(h4 hl).1]
         | true =>
           cases hsy : (al[e]'(by rw [hr.len]; omega)).sync with
           | false => exact pre_get (h3 hsy) (Nat.lt_of_lt_of_le hb (hr.mono (by omega) (by omega)))
           | true =>
             rcases (hst.late h2 ha hae hop).2 hsy hl with h6 | ⟨z', x, y, av, h6, h7⟩
             · rw [hq e h2 (by omega) ⟨_, hae, hl⟩ ⟨_, hae, hsy⟩] at h6; cases h6
             · exact h5 z' x y av h6 t h7 b k off (by rw [g2]; exact hE)
   · have : i = e + 1 := by omega
     subst this; exact ⟨rfl, rfl⟩

theorem Static.sync (hs : Static l al) {i j : Nat} {a b : AOper} (h : i < j) (ha : al[i]? = some a) (hb : al[j]? = some b) (hc : ((a.sync && b.op.loud) || (b.sync && a.op.loud)) = true) : ordered (befores l []) i j = true := by
 have := hs.pair i j a b h ha hb
 unfold pairOk at this
 rw [hc] at this
 simp at this
 exact this.2

/-- The operands of an operation that is ready. -/
theorem operands (hr : Run T n0 ops l al Es Hs vs) (hst : Static l al) {D : Nat → Prop} (hc : Closed l D) {tmps : Array Value} {w : World} {M : Nat → Prop} {μ : Inj} (hE : EInv T al l.length Es Hs vs D tmps w M μ)
   {i : Nat} {o : Oper} {ao : AOper} (ho : l[i]? = some o) (ha : al[i]? = some ao) (hD : ¬ D i) (hready : ∀ e ∈ o.after.toList, Region.binds .any e = true → D e.on) :
   ∀ t ∈ ao.reads, R T.gid w M (cutM (Hs i).length μ) (tmps.getD t Go.undef) (Es i t) := by
 intro t ht
 have hil : i < l.length := (List.getElem?_eq_some_iff.1 ho).1
 have late : ∀ j, j < l.length → D j → dstAt al j = some t → j < i := by
   intro j hj hDj hd
   rcases Nat.lt_trichotomy j i with h | h | h
   · exact h
   · subst h; exact absurd hDj hD
   · exfalso
     have haj := List.getElem?_eq_getElem (show j < al.length by rw [hr.len]; omega)
     unfold dstAt at hd
     rw [haj] at hd
     simp only [Option.bind_some] at hd
     have := hst.clash h ha haj (by unfold tmpClash; rw [hd]; simp [ht])
     exact hD (hc.before hst.down j hDj hj i this)
 have early : ∀ j, j < i → dstAt al j = some t → D j := by
   intro j hj hd
   have haj := List.getElem?_eq_getElem (show j < al.length by rw [hr.len]; omega)
   unfold dstAt at hd
   rw [haj] at hd
   simp only [Option.bind_some] at hd
   have := hst.clash hj haj ha (by unfold tmpClash; rw [hd]; simp [ht])
   exact ready_before hc hst.down ho hready j this
 rcases hE t with ⟨j, h1, h2, h3, h4, h5⟩ | ⟨h1, h2⟩
 · have hji := late j h1 h2 h3
   rcases hr.val t i (by omega) with ⟨j0, g1, g2, g3, g4⟩ | ⟨g1, g2⟩
   · have e1 : j ≤ j0 := g3 j hji h3
     have e2 : j0 ≤ j := h4 j0 (by omega) (early j0 g1 g2) g2
     have : j = j0 := by omega
     subst this
     rw [g4]
     exact h5.mono (Keep.refl w M) (Shape.refl w) (cutM_le (hr.mono (by omega) (by omega)))
   · exact absurd h3 (g1 j hji)
 · rcases hr.val t i (by omega) with ⟨j0, g1, g2, g3, g4⟩ | ⟨g1, g2⟩
   · exact absurd g2 (h1 j0 (by omega) (early j0 g1 g2))
   · rw [g2]
     exact h2.mono (Keep.refl w M) (Shape.refl w) (cutM_le (hr.mono (by omega) (by omega)))

/-- The frame behind an operation. -/
theorem EInv.put (hr : Run T n0 ops l al Es Hs vs) (hst : Static l al) {D : Nat → Prop} (hc : Closed l D) {tmps : Array Value} {w : World} {M : Nat → Prop} {μ : Inj} (hE : EInv T al l.length Es Hs vs D tmps w M μ)
   {i : Nat} {ao : AOper} (hil : i < l.length) (ha : al[i]? = some ao) (hD : ¬ D i) {w' : World} {M' : Nat → Prop} {μ' : Inj} (kp : Keep w M w' M') (sh : Shape w w') (mm : ∀ b x, μ b = some x → μ' b = some x)
   {v' : Value} (hv : R T.gid w' M' (cutM (Hs (i + 1)).length μ') v' (vs i)) (hsz : ∀ d, ao.dst = some d → d < tmps.size) (ds : List Deferred) :
   EInv T al l.length Es Hs vs (fun j => D j ∨ j = i) (Act.put { tmps := tmps, defers := ds } ao.dst v').tmps w' M' μ' := by
 have hdst : dstAt al i = ao.dst := by unfold dstAt; rw [ha]; rfl
 intro t
 by_cases ht : ao.dst = some t
 · left
   refine ⟨i, hil, .inr rfl, by rw [hdst]; exact ht, fun j' h1 h2 h3 => ?_, ?_⟩
   · rcases h2 with h2 | h2
     · rcases Nat.lt_or_ge i j' with h4 | h4
       · exfalso
         have haj := List.getElem?_eq_getElem (show j' < al.length by rw [hr.len]; omega)
         unfold dstAt at h3
         rw [haj] at h3
         simp only [Option.bind_some] at h3
         have := hst.clash h4 ha haj (by unfold tmpClash; rw [ht, h3]; simp)
         exact hD (hc.before hst.down j' h2 h1 i this)
       · exact h4
     · omega
   · simp only [Act.put, ht]
     rw [Array.getD_eq_getD_getElem?, Array.getElem?_setIfInBounds, if_pos rfl, if_pos (hsz t ht)]
     exact hv
 · have hsame : (Act.put { tmps := tmps, defers := ds } ao.dst v').tmps.getD t Go.undef = tmps.getD t Go.undef := by
     cases hd : ao.dst with
     | none => rfl
     | some d =>
       have : d ≠ t := fun e => ht (by rw [hd, e])
       simp only [Act.put]
       rw [Array.getD_eq_getD_getElem?, Array.getElem?_setIfInBounds, if_neg this, ← Array.getD_eq_getD_getElem?]
   rw [hsame]
   rcases hE t with ⟨j, h1, h2, h3, h4, h5⟩ | ⟨h1, h2⟩
   · refine .inl ⟨j, h1, .inl h2, h3, fun j' g1 g2 g3 => ?_, h5.mono kp sh (cutM_mono mm)⟩
     rcases g2 with g2 | g2
     · exact h4 j' g1 g2 g3
     · subst g2; rw [hdst] at g3; exact absurd g3 ht
   · refine .inr ⟨fun j g1 g2 g3 => ?_, h2.mono kp sh (cutM_mono mm)⟩
     rcases g2 with g2 | g2
     · exact h1 j g1 g2 g3
     · subst g2; rw [hdst] at g3; exact absurd g3 ht

end

end Go.Abs

/- A region that draws its order: the last part. -/
namespace Go.Abs

variable {T : Tab}

theorem lowB_low {n : Nat} {c : V} (h : V.lowB n c = true) : Low n c := by
 cases c <;> simp only [V.lowB, decide_eq_true_eq] at h
 case ref b z off len => exact .ref b z off len h
 case ptr b i off => exact .ptr b i off h
 all_goals exact .cell h

theorem R.cut {gid : Gid} {w : World} {M : Nat → Prop} {μ : Inj} {n : Nat} {v : Value} {a : V} (h : R gid w M μ v a) (ht : a.isTup = false) (hl : ∀ c ∈ a.cells, Low n c) : R gid w M (cutM n μ) v a := by
 have hμ : ∀ b x, b < n → μ b = some x → cutM n μ b = some x := fun b x hb hx => by unfold cutM; rw [if_pos hb]; exact hx
 cases h with
 | c h1 => exact .c (h1.low (Keep.refl w M) (Shape.refl w) hμ (hl a (by rw [V.cells_cell h1.isCell]; simp)))
 | agg arr cs hsz h1 => exact .agg arr cs hsz fun i x c hx hc => (h1 i x c hx hc).low (Keep.refl w M) (Shape.refl w) hμ (hl c (List.mem_of_getElem? hc))
 | tup => cases ht

section
variable {n0 : Nat} {ops : Array Oper} {l : List Oper} {al : List AOper} {Es : Nat → Env} {Hs : Nat → Heap} {vs : Nat → V} {w0 : World} {M0 : Nat → Prop} {μ0 : Inj}

/-- The heap's part, where no heap was asked for. -/
theorem HInv.quiet {D : Nat → Prop} {w : World} {M : Nat → Prop} {μ : Inj} {s e : Nat} (h : HInv T n0 al l.length Hs w0 M0 μ0 D w M μ s e) {i : Nat} (hq : ¬ loudAt al i) {w' : World} {M' : Nat → Prop} (st : Step T.gid n0 w M μ (Hs e) w' M' μ (Hs e)) :
   HInv T n0 al l.length Hs w0 M0 μ0 (fun j => D j ∨ j = i) w' M' μ s e :=
 ⟨h.se, h.en, fun j h1 h2 => .inl (h.lo j h1 h2), fun j h1 h2 h3 => h3.elim (h.hi j h1 h2) (fun e => hq (e ▸ h2)), h.seg, h.last, h.step.trans st,
   fun b x hx => (h.dom b x hx).imp id fun ⟨j, h1, h2, h3, h4⟩ => ⟨j, h1, h2, .inl h3, h4⟩, h.low⟩

theorem HInv.skipSeg {D : Nat → Prop} {w : World} {M : Nat → Prop} {μ : Inj} {s e : Nat} (h : HInv T n0 al l.length Hs w0 M0 μ0 D w M μ s e) {i : Nat} (h1 : i < e) : HInv T n0 al l.length Hs w0 M0 μ0 (fun j => D j ∨ j = i) w M μ s e :=
 ⟨h.se, h.en, fun j h1 h2 => .inl (h.lo j h1 h2), fun j h2 h3 h4 => h4.elim (h.hi j h2 h3) (fun e => by omega), h.seg, h.last, h.step,
   fun b x hx => (h.dom b x hx).imp id fun ⟨j, h1, h2, h3, h4⟩ => ⟨j, h1, h2, .inl h3, h4⟩, h.low⟩

/-- One operation that is ready, whatever it is. -/
theorem drawn_step {ro : Option Nat} (hr : Run T n0 ops l al Es Hs vs) (hst : Static l al) (hn0 : n0 ≤ (Hs 0).length) {D : Nat → Prop} (hc : Closed l D) {a : Act} {w : World} {M : Nat → Prop} {μ : Inj} {s e : Nat}
   (hH : HInv T n0 al l.length Hs w0 M0 μ0 D w M μ s e) (hE : EInv T al l.length Es Hs vs D a.tmps w M μ) {i : Nat} {o : Oper} {ao : AOper} (hopi : ops[i]? = some o) (ho : l[i]? = some o) (ha : al[i]? = some ao) (hD : ¬ D i)
   (hready : ∀ e ∈ o.after.toList, Region.binds .any e = true → D e.on) (hsz : ∀ d, ao.dst = some d → d < a.tmps.size) (K : Act → World → Prop) (Q : Exit → Act → World → Prop)
   (hK : ∀ a' w' M' μ' s' e', HInv T n0 al l.length Hs w0 M0 μ0 (fun j => D j ∨ j = i) w' M' μ' s' e' → EInv T al l.length Es Hs vs (fun j => D j ∨ j = i) a'.tmps w' M' μ' → a'.tmps.size = a.tmps.size → a'.defers = a.defers → K a' w') :
   wpOpIn (fnc ro) 0 T.P ops Q i K a w := by
 have hil : i < l.length := (List.getElem?_eq_some_iff.1 ho).1
 have hlink := hr.link i o ao ho ha
 have hopd := operands hr hst hc hE ho ha hD hready
 have hw : ∀ {b}, gd ao (Es i) = some b → Region.wanted o (yielded ops a.tmps) = b := fun hg =>
   wanted_eq (w := w) (M := M) (μ := cutM (Hs i).length μ) hlink (fun t ⟨want, hg'⟩ => hopd t (by unfold AOper.reads; rw [hg']; simp)) hg
 have hput : ∀ {v' : Value}, (a.put o.dst v').tmps = (Act.put { tmps := a.tmps, defers := a.defers } ao.dst v').tmps := by rw [hlink.dst]; intros; rfl
 -- where a loud operation stands
 have place : loudAt al i → (s ≤ i ∧ i < e) ∨ (i = e ∧ e < l.length) := by
   intro hloud
   rcases Nat.lt_or_ge i s with h1 | h1
   · exact absurd (hH.lo i h1 hloud) hD
   · rcases Nat.lt_trichotomy i e with h2 | h2 | h2
     · exact .inl ⟨h1, h2⟩
     · exact .inr ⟨h2, by omega⟩
     · exfalso
       rcases hH.last with h3 | ⟨h3, h4, h5⟩
       · omega
       · obtain ⟨ae, hae, hse⟩ := h5
         obtain ⟨ai, hai, hli⟩ := hloud
         rw [ha] at hai; injection hai with hai; subst hai
         have := hst.sync h2 hae ha (by rw [hse, hli]; rfl)
         exact hH.hi e (Nat.le_refl _) h4 (ready_before hc hst.down ho hready e this)
 -- a sync operation begins a new segment
 have next : ∀ {w' : World} {M' : Nat → Prop} {μ' : Inj}, i = e → e < l.length → Step T.gid n0 w0 M0 μ0 (Hs 0) w' M' μ' (Hs (i + 1)) → ∃ e', HInv T n0 al l.length Hs w0 M0 μ0 (fun j => D j ∨ j = i) w' M' μ' (i + 1) e' := by
   intro w' M' μ' hie hel st
   subst hie
   rcases hH.last with h3 | ⟨h3, h4, h5⟩
   · omega
   · obtain ⟨ae, hae, hse⟩ := h5
     refine HInv.begin hr (by omega) (fun j hj hl => ?_) (fun j hj hl hD' => ?_) st
     · rcases Nat.lt_or_ge j i with h6 | h6
       · obtain ⟨aj, haj, hlj⟩ := hl
         have := hst.sync h6 haj hae (by rw [hse, hlj]; simp)
         exact .inl (ready_before hc hst.down ho hready j this)
       · exact .inr (by omega)
     · rcases hD' with hD' | hD'
       · exact hH.hi j (by omega) hl hD'
       · omega
 unfold wpOpIn
 rw [hopi]
 simp only []
 rcases hr.at_ i o ao ho ha with ⟨hg, hv, hHs⟩ | ⟨hg, sem, hlen, hpre, hquiet, _⟩
 · rw [hw hg]
   simp only [Bool.false_eq_true, if_false]
   refine ⟨fun _ _ => trivial, ?_⟩
   have hEi : EInv T al l.length Es Hs vs (fun j => D j ∨ j = i) (a.put o.dst Go.undef).tmps w M μ := by
     rw [hput]
     exact EInv.put hr hst hc hE hil ha hD (Keep.refl w M) (Shape.refl w) (fun _ _ h => h) (by rw [hv]; exact R.undef) hsz a.defers
   by_cases hloud : loudAt al i
   · rcases place hloud with ⟨_, h2⟩ | ⟨h1, h2⟩
     · exact hK _ w M μ s e (hH.skipSeg h2) hEi (by rw [put_size]) (by rw [put_defers])
     · obtain ⟨e', hH'⟩ := next h1 h2 (by rw [hHs, h1]; exact hH.step)
       exact hK _ w M μ (i + 1) e' hH' hEi (by rw [put_size]) (by rw [put_defers])
   · exact hK _ w M μ s e (hH.quiet hloud (.refl hH.step.sim)) hEi (by rw [put_size]) (by rw [put_defers])
 · rw [hw hg]
   simp only [if_true]
   refine wp_fc hlink.plain ?_
   have hreads : ∀ t ∈ ao.op.reads, R T.gid w M (cutM (Hs i).length μ) (a.tmps.getD t Go.undef) (Es i t) := fun t ht => hopd t (by unfold AOper.reads; exact List.mem_append_left _ ht)
   by_cases hloud : loudAt al i
   · rcases place hloud with ⟨h1, h2⟩ | ⟨h1, h2⟩
     · -- in the midst of a segment
       have hnsy : ao.sync = false := by
         cases hs' : ao.sync with
         | false => rfl
         | true => exact absurd ⟨ao, ha, hs'⟩ (hH.seg i h1 h2 hloud)
       have hp0 : Hs i <+: Hs e := hr.pre h1 (by omega) hH.en hH.seg
       have hp1 : Hs (i + 1) <+: Hs e := hr.pre (s := s) (by omega) (by omega) hH.en hH.seg
       have hsr := hH.step.sim.restrict hp0 (hH.low i h1 (by omega))
       refine sem a w M (cutM (Hs i).length μ) K Q (Nat.le_trans hn0 (hr.mono (Nat.zero_le _) (by omega))) hsr hreads fun v' w' M' μi B hrv => ?_
       have hgap : ∀ b, (Hs i).length ≤ b → b < (Hs (i + 1)).length → μ b = none := by
         intro b hb1 hb2
         cases hq : μ b with
         | none => rfl
         | some x =>
           exfalso
           rcases hH.dom b x hq with h3 | ⟨j, h3, h4, h5, h6, h7⟩
           · have := hr.mono h1 (show i ≤ l.length by omega); omega
           · rcases Nat.lt_trichotomy j i with h8 | h8 | h8
             · have := hr.mono (show j + 1 ≤ i by omega) (by omega); omega
             · subst h8; exact hD h5
             · have := hr.mono (show i + 1 ≤ j by omega) (by have := hH.en; omega); omega
       have A' := Step.merge hH.step (hr.mono (Nat.zero_le _) (by omega)) hn0 (hpre hnsy) hp1 hgap hsr B
       have hold : ∀ b x, μ b = some x → (if b < (Hs (i + 1)).length then μi b else μ b) = some x := by
         intro b x hb
         split
         · rename_i g1
           by_cases g2 : b < (Hs i).length
           · rw [B.ext b g2]; unfold cutM; rw [if_pos g2]; exact hb
           · rw [hgap b (by omega) g1] at hb; cases hb
         · exact hb
       refine hK _ w' M' _ s e ⟨hH.se, hH.en, fun j g1 g2 => .inl (hH.lo j g1 g2), fun j g1 g2 g3 => g3.elim (hH.hi j g1 g2) (fun e => by omega), hH.seg, hH.last, A', ?_, ?_⟩ ?_ (by rw [put_size]) (by rw [put_defers])
       · intro b x hx
         split at hx
         · by_cases g2 : b < (Hs i).length
           · rw [B.ext b g2] at hx
             exact (hH.dom b x (cutM_sub _ _ hx)).imp id fun ⟨j, g3, g4, g5, g6⟩ => ⟨j, g3, g4, .inl g5, g6⟩
           · exact .inr ⟨i, h1, h2, .inr rfl, by omega, by assumption⟩
         · exact (hH.dom b x hx).imp id fun ⟨j, g3, g4, g5, g6⟩ => ⟨j, g3, g4, .inl g5, g6⟩
       · intro k hk1 hk2 b kk hb hm hkk el hel c hcc
         by_cases g1 : b < (Hs i).length
         · have hm' : μ b ≠ none := by
             have g3 : b < (Hs (i + 1)).length := by omega
             simp only [if_pos g3] at hm
             rw [B.ext b g1] at hm
             unfold cutM at hm
             rw [if_pos g1] at hm
             exact hm
           exact hH.low k hk1 hk2 b kk hb hm' hkk el hel c hcc
         · by_cases g2 : b < (Hs (i + 1)).length
           · simp only [if_pos g2] at hm
             obtain ⟨⟨cc, oo, z⟩, hx⟩ := Option.ne_none_iff_exists'.1 hm
             rw [pre_get hp1 g2] at hkk
             obtain ⟨arr, et, l1, l2, l3⟩ := (B.sim.blk b cc oo z kk hx hkk).lay
             obtain ⟨q, hq⟩ := List.getElem?_of_mem hel
             obtain ⟨j, hj⟩ := List.getElem?_of_mem hcc
             obtain ⟨v, _, hrc⟩ := (l3 q el hq).2.2 j c hj
             have hki : i + 1 ≤ k := by
               rcases Nat.lt_or_ge i k with h | h
               · exact h
               · have := hr.mono h (show i ≤ l.length by omega); omega
             exact (hrc.toLow (fun b x h => B.sim.dom b x h)).mono (hr.mono hki (by have := hH.en; omega))
           · simp only [if_neg g2] at hm
             exact hH.low k hk1 hk2 b kk hb hm hkk el hel c hcc
       · rw [hput]
         refine EInv.put hr hst hc hE hil ha hD (B.keep hsr) B.shape hold (hrv.mono (Keep.refl w' M') (Shape.refl w') fun b x hx => ?_) hsz a.defers
         have g1 := B.sim.dom b x hx
         unfold cutM
         simp only [if_pos g1]
         exact hx
     · -- at the segment's end
       subst h1
       have hfull := hH.step.sim
       refine sem a w M μ K Q (Nat.le_trans hn0 (hr.mono (Nat.zero_le _) (by omega))) hfull (fun t ht => (hreads t ht).mono (Keep.refl w M) (Shape.refl w) cutM_sub) fun v' w' M' μ' B hrv => ?_
       obtain ⟨e', hH'⟩ := next rfl h2 (hH.step.trans B)
       refine hK _ w' M' μ' (i + 1) e' hH' ?_ (by rw [put_size]) (by rw [put_defers])
       rw [hput]
       refine EInv.put hr hst hc hE hil ha hD (B.keep hfull) B.shape (B.mono_map hfull) (hrv.mono (Keep.refl w' M') (Shape.refl w') fun b x hx => ?_) hsz a.defers
       unfold cutM
       rw [if_pos (B.sim.dom b x hx)]
       exact hx
   · -- no heap is asked for
     have hl : ao.op.loud = false := by
       cases hq : ao.op.loud with
       | false => rfl
       | true => exact absurd ⟨ao, ha, hq⟩ hloud
     obtain ⟨hHs, hsem | hlate⟩ := hquiet hl
     rotate_left
     · obtain ⟨ag, z, t, b, k, off, hop, hEt, hb, htup, hlow, hsem⟩ := hlate
       have hlen' : al.length = l.length := hr.len
       have hie : i ≤ e := by
         rcases Nat.lt_or_ge e i with h1 | h1
         · exfalso
           rcases hH.last with h2 | ⟨h2, h3, h4⟩
           · omega
           · obtain ⟨ae, hae, hse⟩ := h4
             obtain ⟨ae', hae', hle⟩ := h3
             rw [hae] at hae'; injection hae' with hae'; subst hae'
             have := hst.early h1 hae ha hop hse hle
             exact hH.hi e (Nat.le_refl _) ⟨_, hae, hle⟩ (ready_before hc hst.down ho hready e this)
         · exact h1
       have hdt : ao.dst ≠ some t := by
         intro hd
         have := hst.self i o ao ho ha
         simp [selfOk, hop, hd] at this
       obtain ⟨hstill, _⟩ := hr.still hst ha hop hEt hb hHs hdt e hie hH.en fun j h1 h2 h3 h4 => by
         cases hq : ordered (befores l []) i j with
         | false => rfl
         | true =>
           exfalso
           rcases Nat.lt_or_ge j s with h5 | h5
           · exact hD (hc.before hst.down j (hH.lo j h5 h3) (by have := hH.en; omega) i hq)
           · exact hH.seg j h5 h2 h3 h4
       refine hsem (Hs e) hstill a w M μ K Q (Nat.le_trans hn0 (hr.mono (Nat.zero_le _) hH.en)) hH.step.sim (fun t' ht' => (hreads t' ht').mono (Keep.refl w M) (Shape.refl w) cutM_sub) fun v' w' M' μ' B hrv => ?_
       have hμ : μ' = μ := by
         funext b'
         rcases Nat.lt_or_ge b' (Hs e).length with h1 | h1
         · exact B.ext b' h1
         · have e1 : μ' b' = none := by
             cases hq : μ' b' with
             | none => rfl
             | some x => have := B.sim.dom b' x hq; omega
           have e2 : μ b' = none := by
             cases hq : μ b' with
             | none => rfl
             | some x => have := hH.step.sim.dom b' x hq; omega
           rw [e1, e2]
       subst hμ
       refine hK _ w' M' μ' s e (hH.quiet hloud B) ?_ (by rw [put_size]) (by rw [put_defers])
       rw [hput]
       refine EInv.put hr hst hc hE hil ha hD (B.keep hH.step.sim) B.shape (fun _ _ h => h) ?_ hsz a.defers
       rw [hHs]
       exact hrv.cut htup fun c hcc => lowB_low (hlow c hcc)
     have hdead : Sim T.gid w M (cutM (Hs i).length μ) (List.replicate (Hs e).length none) := Sim.dead hH.step.sim.tab fun b x hx => hH.step.sim.dom b x (cutM_sub _ _ hx)
     refine hsem (List.replicate (Hs e).length none) a w M _ K Q (by simp only [List.length_replicate]; exact Nat.le_trans hn0 (hr.mono (Nat.zero_le _) hH.en)) hdead hreads fun v' w' M' μ' B hrv => ?_
     have st := Step.of_dead hH.step.sim B
     refine hK _ w' M' μ s e (hH.quiet hloud st) ?_ (by rw [put_size]) (by rw [put_defers])
     rw [hput]
     refine EInv.put hr hst hc hE hil ha hD (st.keep hH.step.sim) st.shape (fun _ _ h => h) (hrv.mono (Keep.refl w' M') (Shape.refl w') fun b x hx => ?_) hsz a.defers
     have hb : b < (Hs e).length := by simpa using B.sim.dom b x hx
     rw [B.ext b (by simpa using hb)] at hx
     rw [hHs]
     exact hx

/-- How many are still to come. -/
def left (n : Nat) (listed : Array Bool) : Nat := ((List.range n).filter fun i => !listed.getD i false).length

theorem left_set {n : Nat} {listed : Array Bool} {i : Nat} (hi : i < n) (hs : listed.size = n) (h : listed.getD i false = false) : left n (listed.setIfInBounds i true) < left n listed := by
 unfold left
 have sub : ((List.range n).filter fun j => !(listed.setIfInBounds i true).getD j false) = ((List.range n).filter fun j => !listed.getD j false).filter fun j => decide (j ≠ i) := by
   rw [List.filter_filter]
   apply List.filter_congr
   intro j hj
   simp only [Array.getD_eq_getD_getElem?, Array.getElem?_setIfInBounds]
   by_cases e : i = j
   · subst e; simp [hs, hi]
   · have : j ≠ i := fun h => e h.symm
     simp [e, this]
 rw [sub]
 apply List.length_filter_lt_length_iff_exists.2
 exact ⟨i, List.mem_filter.2 ⟨List.mem_range.2 hi, by simp only [h]; rfl⟩, by simp⟩

theorem drawn_all {ro : Option Nat} {ds : List Deferred} (hr : Run T n0 ops ops.toList al Es Hs vs) (hst : Static ops.toList al) (hn0 : n0 ≤ (Hs 0).length) (Q : Exit → Act → World → Prop) {N : Nat} (hds : dstsOk N al = true)
   (hQ : ∀ a' w' M' μ', Step T.gid n0 w0 M0 μ0 (Hs 0) w' M' μ' (Hs ops.toList.length) → ERel T.gid w' M' μ' a'.tmps (Es ops.toList.length) → a'.defers = ds → N ≤ a'.tmps.size → Q .normal a' w') :
   ∀ (fuel : Nat) (listed : Array Bool) (a : Act) (w : World) (M : Nat → Prop) (μ : Inj) (s e : Nat), listed.size = ops.size → left ops.size listed ≤ fuel → Closed ops.toList (fun i => listed.getD i false = true) →
     HInv T n0 al ops.toList.length Hs w0 M0 μ0 (fun i => listed.getD i false = true) w M μ s e → EInv T al ops.toList.length Es Hs vs (fun i => listed.getD i false = true) a.tmps w M μ → N ≤ a.tmps.size → a.defers = ds →
     wpAnyIn (fnc ro) 0 T.P .any ops Q fuel listed a w := by
 have hlen : ops.toList.length = ops.size := by simp
 have readyOf : ∀ {listed : Array Bool} {i : Nat}, i ∈ Region.ready .any ops listed → listed.size = ops.size → ∃ o, i < ops.size ∧ ops[i]? = some o ∧ listed.getD i false = false ∧ ∀ e ∈ o.after.toList, Region.binds .any e = true → listed.getD e.on false = true := by
   intro listed i hi hs
   unfold Region.ready at hi
   rw [List.mem_filter] at hi
   obtain ⟨h1, h2⟩ := hi
   have hil := List.mem_range.1 h1
   simp only [Bool.and_eq_true, Bool.not_eq_true'] at h2
   obtain ⟨h2, h3⟩ := h2
   have ho : ops[i]? = some ops[i] := by simp [hil]
   rw [ho] at h3
   simp only [Option.map_some, Option.getD_some] at h3
   refine ⟨_, hil, ho, ?_, fun e he hb => ?_⟩
   · rw [Array.getD_eq_getD_getElem?] at h2 ⊢
     have : listed[i]? = some (listed[i]'(by omega)) := by simp [hs, hil]
     rw [this] at h2 ⊢
     exact h2
   · rw [Array.all_eq_true_iff_forall_mem] at h3
     have := h3 e (by simpa using he)
     simp only [hb, Bool.not_true, Bool.false_or] at this
     exact this
 have finish : ∀ {listed : Array Bool} {a : Act} {w : World} {M : Nat → Prop} {μ : Inj} {s e : Nat}, listed.size = ops.size → Closed ops.toList (fun i => listed.getD i false = true) → Region.ready .any ops listed = [] →
     HInv T n0 al ops.toList.length Hs w0 M0 μ0 (fun i => listed.getD i false = true) w M μ s e → EInv T al ops.toList.length Es Hs vs (fun i => listed.getD i false = true) a.tmps w M μ → N ≤ a.tmps.size → a.defers = ds → Q .normal a w := by
   intro listed a w M μ s e hs hc hready hH hE hN hd
   have all : ∀ i, i < ops.size → listed.getD i false = true := by
     intro i
     induction i using Nat.strongRecOn with
     | _ i ih =>
       intro hi
       cases hq : listed.getD i false with
       | true => rfl
       | false =>
         exfalso
         have ho : ops.toList[i]? = some ops[i] := by simp [hi]
         have : i ∈ Region.ready .any ops listed := by
           unfold Region.ready
           rw [List.mem_filter]
           refine ⟨List.mem_range.2 hi, ?_⟩
           have h1 : listed.getD i true = false := by
             rw [Array.getD_eq_getD_getElem?] at hq ⊢
             have : listed[i]? = some (listed[i]'(by omega)) := by simp [hs, hi]
             rw [this] at hq ⊢
             exact hq
           have h2 : ops[i]? = some ops[i] := by simp [hi]
           rw [h1, h2]
           simp only [Bool.not_false, Option.map_some, Option.getD_some, Bool.true_and]
           rw [Array.all_eq_true_iff_forall_mem]
           intro e' he'
           cases hb : Region.binds .any e' with
           | false => simp
           | true =>
             have hdn := hst.down i _ ho
             unfold edgesDown at hdn
             have h3 := List.all_eq_true.1 hdn e' (by simpa using he')
             simp [hb] at h3
             simp [ih e'.on h3 (by omega)]
         rw [hready] at this
         cases this
   have hen : e = ops.toList.length := by
     rcases hH.last with h1 | ⟨h1, h2, _⟩
     · exact h1
     · exact absurd (all e (by rw [← hlen]; exact h1)) (hH.hi e (Nat.le_refl _) h2)
   subst hen
   refine hQ a w M μ hH.step (fun t => ?_) hd hN
   rcases hE t with ⟨j, h1, h2, h3, h4, h5⟩ | ⟨h1, h2⟩
   · rcases hr.val t _ (Nat.le_refl _) with ⟨j0, g1, g2, g3, g4⟩ | ⟨g1, g2⟩
     · have e1 : j ≤ j0 := g3 j h1 h3
       have e2 : j0 ≤ j := h4 j0 g1 (all j0 (by rw [← hlen]; exact g1)) g2
       have : j = j0 := by omega
       subst this
       rw [g4]
       exact h5.mono (Keep.refl w M) (Shape.refl w) cutM_sub
     · exact absurd h3 (g1 j h1)
   · rcases hr.val t _ (Nat.le_refl _) with ⟨j0, g1, g2, g3, g4⟩ | ⟨g1, g2⟩
     · exact absurd g2 (h1 j0 g1 (all j0 (by rw [← hlen]; exact g1)))
     · rw [g2]; exact h2.mono (Keep.refl w M) (Shape.refl w) cutM_sub
 intro fuel
 induction fuel with
 | zero =>
   intro listed a w M μ s e hs hf hc hH hE hN hd
   have hready : Region.ready .any ops listed = [] := by
     cases hq : Region.ready .any ops listed with
     | nil => rfl
     | cons i r =>
       exfalso
       obtain ⟨o, h1, h2, h3, _⟩ := readyOf (listed := listed) (i := i) (by rw [hq]; simp) hs
       have := left_set h1 hs h3
       omega
   exact ⟨hready, finish hs hc hready hH hE hN hd⟩
 | succ fuel ih =>
   intro listed a w M μ s e hs hf hc hH hE hN hd
   refine ⟨fun hready => finish hs hc hready hH hE hN hd, fun i hi => ?_⟩
   obtain ⟨o, h1, h2, h3, h4⟩ := readyOf hi hs
   have ho : ops.toList[i]? = some o := by simpa using h2
   have hal : i < al.length := by rw [hr.len, hlen]; exact h1
   have ha := List.getElem?_eq_getElem hal
   have hset : ∀ j, (listed.setIfInBounds i true).getD j false = true ↔ (listed.getD j false = true ∨ j = i) := by
     intro j
     simp only [Array.getD_eq_getD_getElem?, Array.getElem?_setIfInBounds]
     by_cases e : i = j
     · subst e; simp [hs, h1]
     · have : j ≠ i := fun h => e h.symm
       simp [e, this]
   have hfun : (fun j => (listed.setIfInBounds i true).getD j false = true) = (fun j => listed.getD j false = true ∨ j = i) := funext fun j => propext (hset j)
   refine drawn_step hr hst hn0 hc hH hE h2 ho ha (by simp [h3]) h4 (fun d hd' => ?_) _ Q fun a' w' M' μ' s' e' hH' hE' hsz hdf => ?_
   · have := List.all_eq_true.1 hds _ (List.getElem_mem hal)
     rw [hd'] at this
     simp at this
     omega
   · refine ih _ a' w' M' μ' s' e' (by simp [hs]) (by have := left_set h1 hs h3; omega) ?_ (by rw [hfun]; exact hH') (by rw [hfun]; exact hE') (by omega) (by rw [hdf]; exact hd)
     rw [hfun]
     intro j oj hj hoj e' he' hb'
     rcases hj with hj | hj
     · exact .inl (hc j oj hj hoj e' he' hb')
     · subst hj
       rw [ho] at hoj
       injection hoj with hoj
       subst hoj
       exact .inl (h4 e' he' hb')

end

end Go.Abs

/- What a function hands back. -/
namespace Go.Abs

variable {gid : Gid} {w w0 : World} {M M0 : Nat → Prop} {μ μ0 : Inj} {H H0 : Heap} {n0 : Nat}

/- Results that may be written on. -/
theorem frzC_append {c c' : V} {H1 acc : Heap} (h : frzC H c = some (c', H1)) : frzC (H ++ acc) c = some (c', H1 ++ acc) ∧ H1.length = H.length := by
 cases c <;> simp only [frzC] at h ⊢ <;> try (injection h with h; injection h with h1 h2; subst h1; subst h2; exact ⟨rfl, rfl⟩)
 case ref b z off len =>
   split at h
   · rename_i k hk
     have hlt : b < H.length := (List.getElem?_eq_some_iff.1 hk).1
     split at h
     · rename_i hc
       injection h with h; injection h with h1 h2
       subst h1; subst h2
       rw [List.getElem?_append_left hlt, hk]
       simp only [if_pos hc]
       refine ⟨?_, by split <;> simp⟩
       split
       · rw [List.set_append_left _ _ hlt]
       · rfl
     · cases h
   · cases h
 all_goals cases h

/-- Cells in the numbering behind the return. -/
def RO (gid : Gid) (w : World) (M : Nat → Prop) (n0 L m : Nat) (μ : Inj) (v : Value) (c : V) : Prop := RC gid w M (shiftM n0 L m μ) v c

theorem shiftM_ext {L m m' : Nat} {μ μ' : Inj} (hm : m ≤ m') (h : ∀ b x, μ b = some x → μ' b = some x) : ∀ b x, shiftM n0 L m μ b = some x → shiftM n0 L m' μ' b = some x := by
 intro b x hb
 unfold shiftM at hb ⊢
 split at hb
 · rename_i h1; rw [if_pos h1]; exact h b x hb
 · rename_i h1
   rw [if_neg h1]
   split at hb
   · rw [if_pos (by omega)]; exact h _ x hb
   · cases hb

theorem ownC_sound {m : Nat} {acc : Heap} (hmn : m ≤ H.length) (hs : Sim gid w M μ (H ++ acc)) {c c' : V} {H1 acc1 : Heap} (h : ownC n0 H acc c = some (c', H1, acc1)) {v : Value} (hr : RC gid w M μ v c) (hacc : ∀ k, some k ∈ acc → k.arr = true) :
   ∃ M' μ', Step gid m w M μ (H ++ acc) w M' μ' (H1 ++ acc1) ∧ RO gid w M' n0 H.length acc1.length μ' v c' ∧ H1.length = H.length ∧ acc.length ≤ acc1.length ∧ (∀ k, some k ∈ acc1 → k.arr = true) := by
 have other : (frzC H c).bind (fun (c', H1) => if c'.cellPure = true then some (c', H1, acc) else none) = some (c', H1, acc1) →
     ∃ M' μ', Step gid m w M μ (H ++ acc) w M' μ' (H1 ++ acc1) ∧ RO gid w M' n0 H.length acc1.length μ' v c' ∧ H1.length = H.length ∧ acc.length ≤ acc1.length ∧ (∀ k, some k ∈ acc1 → k.arr = true) := by
   intro h
   obtain ⟨⟨c1, Ha⟩, h1, h2⟩ := bind_some_inv h
   simp only [] at h2
   split at h2
   · rename_i hp
     injection h2 with h2; injection h2 with h3 h4; injection h4 with h4 h5
     subst h3; subst h4; subst h5
     obtain ⟨g1, g2⟩ := frzC_append (acc := acc) h1
     obtain ⟨M', st, r, _⟩ := frzC_sound (n0 := m) hs g1 hr
     exact ⟨M', μ, st, .p (r.pure hp), g2, Nat.le_refl _, hacc⟩
   · cases h2
 cases c
 case nil =>
   simp only [ownC] at h
   injection h with h; injection h with h3 h4; injection h4 with h4 h5
   subst h3; subst h4; subst h5
   exact ⟨M, μ, .refl hs, .p (hr.pure rfl), rfl, Nat.le_refl _, hacc⟩
 case ref b z off len =>
   simp only [ownC] at h
   split at h
   · rename_i k hk
     split at h
     · rename_i hc
       obtain ⟨c1, c2, c3, c4, c5⟩ := hc
       injection h with h; injection h with h3 h4; injection h4 with h4 h5
       subst h3; subst h4; subst h5; subst c4
       have hlt : b < H.length := (List.getElem?_eq_some_iff.1 hk).1
       have hk' : (H ++ acc)[b]? = some (some k) := by rw [List.getElem?_append_left hlt]; exact hk
       obtain ⟨a, cap, cc, base, arr, e, rfl, hcb, hsp, hcap, hμ, hoff, hw, hsz, hcs⟩ := ref_cells hs hk' hr
       have hblk := hs.blk b cc base k.z k hμ hk'
       obtain ⟨arr1, e1, l1, l2, l3⟩ := hblk.lay
       rw [hw] at l1
       injection l1 with l1
       injection l1 with w1 w2 w3
       subst w1; subst w2
       have hlen : ((k.el.drop off).take len).length = len := by simp; omega
       have hrow : (off + len) * k.z ≤ k.el.length * k.z := Nat.mul_le_mul_right _ c5
       rw [Nat.add_mul] at hrow
       have st := Step.regrow (n0 := m) (k' := { k with el := (k.el.drop off).take len }) (base' := base + off * k.z) (by simp; omega) hs hμ hk' c3 rfl c3 arr arr e hw rfl (by simp only [hlen]; omega)
         (fun i el hi => by
           rw [List.getElem?_take] at hi
           split at hi
           · rw [List.getElem?_drop] at hi
             obtain ⟨g1, g2, g3⟩ := l3 _ el hi
             refine ⟨g1, g2, fun j cv hj => ?_⟩
             obtain ⟨x, hx, hrx⟩ := g3 j cv hj
             refine ⟨x, ?_, hrx⟩
             rw [← hx]
             congr 1
             rw [Nat.add_mul]; omega
           · cases hi) (fun ha el hel => hblk.pur ha el (List.mem_of_mem_drop (List.mem_of_mem_take hel)))
       rw [setRow_self w cc arr e (0, 0) hw, List.set_append_left _ _ hlt, List.append_assoc] at st
       refine ⟨_, _, st, ?_, by simp, by simp, fun k' hk' => ?_⟩
       · refine .ref _ _ _ _ cc (base + off * k.z) cap a arr e (0, 0) ?_ hcb hsp hcap (hoff.imp id fun h => by omega) hw hsz
         unfold shiftM
         rw [if_neg (by omega), if_pos (by simp)]
         simp only [List.length_append]
         rw [if_pos (by omega)]
       · rw [List.mem_append] at hk'
         rcases hk' with hk' | hk'
         · exact hacc k' hk'
         · simp at hk'; subst hk'; exact c2
     · cases h
   · cases h
 all_goals exact other h

theorem ownCs_sound {m : Nat} : ∀ (cs : List V) {H acc : Heap} {M : Nat → Prop} {μ : Inj} (_ : m ≤ H.length) (_ : n0 ≤ H.length) (_ : Sim gid w M μ (H ++ acc)) {cs' : List V} {H1 acc1 : Heap} (_ : ownCs n0 H acc cs = some (cs', H1, acc1)) {vs : List Value}
   (_ : vs.length = cs.length) (_ : ∀ (i : Nat) (v : Value) (c : V), vs[i]? = some v → cs[i]? = some c → RC gid w M μ v c) (_ : ∀ k, some k ∈ acc → k.arr = true),
   ∃ M' μ', Step gid m w M μ (H ++ acc) w M' μ' (H1 ++ acc1) ∧ vs.length = cs'.length ∧ (∀ (i : Nat) (v : Value) (c : V), vs[i]? = some v → cs'[i]? = some c → RO gid w M' n0 H.length acc1.length μ' v c) ∧ H1.length = H.length ∧ acc.length ≤ acc1.length ∧ (∀ k, some k ∈ acc1 → k.arr = true)
 | [], H, acc, M, μ, _, _, hs, cs', H1, acc1, h, vs, hl, hr, hacc => by
   simp only [ownCs] at h
   injection h with h; injection h with h1 h2; injection h2 with h2 h3
   subst h1; subst h2; subst h3
   have : vs = [] := List.eq_nil_of_length_eq_zero (by simpa using hl)
   subst this
   exact ⟨M, μ, .refl hs, rfl, by simp, rfl, Nat.le_refl _, hacc⟩
 | c :: cs, H, acc, M, μ, hm, hn, hs, cs', H1, acc1, h, vs, hl, hr, hacc => by
   simp only [ownCs] at h
   obtain ⟨⟨c', Ha, acca⟩, h1, h⟩ := bind_some_inv h
   obtain ⟨⟨cs'', Hb, accb⟩, h2, h3⟩ := bind_some_inv h
   injection h3 with h3; injection h3 with h3 h4; injection h4 with h4 h5
   subst h3; subst h4; subst h5
   cases vs with
   | nil => simp at hl
   | cons v vs =>
     obtain ⟨Ma, μa, sa, ra, la, ha, pa⟩ := ownC_sound (m := m) hm hs h1 (hr 0 v c rfl rfl) hacc
     obtain ⟨Mb, μb, sb, lb, rb, lb', hb, pb⟩ := ownCs_sound cs (m := m) (by omega) (by omega) sa.sim h2 (vs := vs) (by simpa using hl) (fun i x y hx hy => sa.rc hs (hr (i + 1) x y (by simpa using hx) (by simpa using hy))) pa
     refine ⟨Mb, μb, sa.trans sb, by simp [lb], fun i x y hx hy => ?_, lb'.trans la, Nat.le_trans ha hb, pb⟩
     rw [la] at rb
     cases i with
     | zero =>
       simp at hx hy; subst hx; subst hy
       exact RC.mono (sb.keep sa.sim) sb.shape (shiftM_ext hb (sb.mono_map sa.sim)) ra
     | succ i => exact rb i x y (by simpa using hx) (by simpa using hy)

theorem ownV_sound {m : Nat} {acc : Heap} (hmn : m ≤ H.length) (hn : n0 ≤ H.length) (hs : Sim gid w M μ (H ++ acc)) {c c' : V} {H1 acc1 : Heap} (h : ownV n0 H acc c = some (c', H1, acc1)) {v : Value} (hr : R gid w M μ v c) (hacc : ∀ k, some k ∈ acc → k.arr = true) :
   ∃ M' μ', Step gid m w M μ (H ++ acc) w M' μ' (H1 ++ acc1) ∧ R gid w M' (shiftM n0 H.length acc1.length μ') v c' ∧ H1.length = H.length ∧ acc.length ≤ acc1.length ∧ (∀ k, some k ∈ acc1 → k.arr = true) := by
 cases hr with
 | c hr =>
   have h' : ownC n0 H acc c = some (c', H1, acc1) := by
     have := hr.isCell
     cases c <;> first | exact h | cases this
   obtain ⟨M', μ', st, r, l, a, p⟩ := ownC_sound (m := m) hmn hs h' hr hacc
   exact ⟨M', μ', st, .c r, l, a, p⟩
 | agg arr cs hsz hr =>
   simp only [ownV] at h
   obtain ⟨⟨cs', Ha, acca⟩, h1, h2⟩ := bind_some_inv h
   injection h2 with h2; injection h2 with h3 h4; injection h4 with h4 h5
   subst h3; subst h4; subst h5
   obtain ⟨M', μ', st, l, r, l', a, p⟩ := ownCs_sound (m := m) cs hmn hn hs h1 (vs := arr.toList) (by simpa using hsz) (fun i x y hx hy => hr i x y (by simpa using hx) hy) hacc
   exact ⟨M', μ', st, .agg arr cs' (by simpa using l) (fun i x y hx hy => r i x y (by simpa using hx) hy), l', a, p⟩
 | tup arr vs hsz hr => simp [ownV, ownC, frzC] at h

theorem ownVs_sound {m : Nat} : ∀ (cs : List V) {H acc : Heap} {M : Nat → Prop} {μ : Inj} (_ : m ≤ H.length) (_ : n0 ≤ H.length) (_ : Sim gid w M μ (H ++ acc)) {cs' : List V} {H1 acc1 : Heap} (_ : ownVs n0 H acc cs = some (cs', H1, acc1)) {vs : List Value}
   (_ : Rs gid w M μ vs cs) (_ : ∀ k, some k ∈ acc → k.arr = true),
   ∃ M' μ', Step gid m w M μ (H ++ acc) w M' μ' (H1 ++ acc1) ∧ Rs gid w M' (shiftM n0 H.length acc1.length μ') vs cs' ∧ H1.length = H.length ∧ acc.length ≤ acc1.length ∧ (∀ k, some k ∈ acc1 → k.arr = true)
 | [], H, acc, M, μ, _, _, hs, cs', H1, acc1, h, vs, hr, hacc => by
   simp only [ownVs] at h
   injection h with h; injection h with h1 h2; injection h2 with h2 h3
   subst h1; subst h2; subst h3
   have : vs = [] := List.eq_nil_of_length_eq_zero (by simpa using hr.1)
   subst this
   exact ⟨M, μ, .refl hs, ⟨rfl, by simp⟩, rfl, Nat.le_refl _, hacc⟩
 | c :: cs, H, acc, M, μ, hm, hn, hs, cs', H1, acc1, h, vs, hr, hacc => by
   simp only [ownVs] at h
   obtain ⟨⟨c', Ha, acca⟩, h1, h⟩ := bind_some_inv h
   obtain ⟨⟨cs'', Hb, accb⟩, h2, h3⟩ := bind_some_inv h
   injection h3 with h3; injection h3 with h3 h4; injection h4 with h4 h5
   subst h3; subst h4; subst h5
   cases vs with
   | nil => have := hr.1; simp at this
   | cons v vs =>
     obtain ⟨Ma, μa, sa, ra, la, ha, pa⟩ := ownV_sound (m := m) hm hn hs h1 hr.tail.1 hacc
     obtain ⟨Mb, μb, sb, rb, lb', hb, pb⟩ := ownVs_sound cs (m := m) (by omega) (by omega) sa.sim h2 (Rs.step sa hs hr.tail.2) pa
     refine ⟨Mb, μb, sa.trans sb, ?_, lb'.trans la, Nat.le_trans ha hb, pb⟩
     rw [la] at rb
     exact Rs.cons (R.mono (sb.keep sa.sim) sb.shape (shiftM_ext hb (sb.mono_map sa.sim)) ra) rb

theorem capC_sound {m : Nat} (hs : Sim gid w M μ H) {c c' : V} {H1 : Heap} (h : capC H c = some (c', H1)) {v : Value} (hr : RC gid w M μ v c) :
   ∃ M', Step gid m w M μ H w M' μ H1 ∧ RP gid w M' v c' := by
 have other : (if c.cellPure = true then some (c, H) else none) = some (c', H1) → ∃ M', Step gid m w M μ H w M' μ H1 ∧ RP gid w M' v c' := by
   intro h
   split at h
   · rename_i hp
     injection h with h; injection h with h1 h2
     subst h1; subst h2
     exact ⟨M, .refl hs, hr.pure hp⟩
   · cases h
 cases c
 case ptr b i off =>
   simp only [capC] at h
   split at h
   · rename_i k hk
     split at h
     · rename_i el hel
       split at h
       · rename_i hc
         obtain ⟨hw, rfl, rfl, hp⟩ := hc
         injection h with h; injection h with h1 h2
         subst h1; subst h2
         cases hr with
         | p hr => cases hr
         | ptr b i off cc base z n hμ hn =>
           have st := Step.freeze (n0 := m) hs hμ hk hw
           obtain ⟨arr, e, l1, l2, l3⟩ := (hs.blk b cc base z k hμ hk).lay
           obtain ⟨_, _, l4⟩ := l3 0 el (by rw [hel]; rfl)
           refine ⟨_, st, .eptr ⟨cc, n, none⟩ el.cells (fun j => (arr[n + j]?).getD Go.undef) rfl (fun hm => hm.2 rfl) (Array.getElem?_eq_some_iff.1 l1).1 (fun j cv hj => ?_) (fun j cv hj => ?_)⟩
           · obtain ⟨x, hx, _⟩ := l4 j cv hj
             have hx' : arr[n + j]? = some x := by rw [← hx]; congr 1; omega
             show w.cell? ⟨cc, n + j, none⟩ = _
             rw [cell_of_row w cc _ arr e (0, 0) l1, hx']; rfl
           · obtain ⟨x, hx, hrx⟩ := l4 j cv hj
             have hx' : arr[n + j]? = some x := by rw [← hx]; congr 1; omega
             show RP gid w _ ((arr[n + j]?).getD Go.undef) cv
             rw [hx']
             exact (hrx.pure (pure_cells hp hj)).keep (st.keep hs)
       · cases h
     · cases h
   · cases h
 all_goals exact other h

theorem capCs_sound {m : Nat} : ∀ (cs : List V) {H : Heap} {M : Nat → Prop} (_ : Sim gid w M μ H) {cs' : List V} {H1 : Heap} (_ : capCs H cs = some (cs', H1)) {vs : List Value}
   (_ : vs.length = cs.length) (_ : ∀ (i : Nat) (v : Value) (c : V), vs[i]? = some v → cs[i]? = some c → RC gid w M μ v c),
   ∃ M', Step gid m w M μ H w M' μ H1 ∧ vs.length = cs'.length ∧ (∀ (i : Nat) (v : Value) (c : V), vs[i]? = some v → cs'[i]? = some c → RP gid w M' v c)
 | [], H, M, hs, cs', H1, h, vs, hl, hr => by
   simp only [capCs] at h
   injection h with h; injection h with h1 h2
   subst h1; subst h2
   exact ⟨M, .refl hs, hl, fun i v c _ hc => by simp at hc⟩
 | c :: cs, H, M, hs, cs', H1, h, vs, hl, hr => by
   simp only [capCs] at h
   obtain ⟨⟨c', Ha⟩, h1, h⟩ := bind_some_inv h
   obtain ⟨⟨cs'', Hb⟩, h2, h3⟩ := bind_some_inv h
   injection h3 with h3; injection h3 with h3 h4
   subst h3; subst h4
   cases vs with
   | nil => simp at hl
   | cons v vs =>
     obtain ⟨Ma, sa, ra⟩ := capC_sound (m := m) hs h1 (hr 0 v c rfl rfl)
     obtain ⟨Mb, sb, lb, rb⟩ := capCs_sound cs (m := m) sa.sim h2 (vs := vs) (by simpa using hl) (fun i x y hx hy => sa.rc hs (hr (i + 1) x y (by simpa using hx) (by simpa using hy)))
     refine ⟨Mb, sa.trans sb, by simp [lb], fun i x y hx hy => ?_⟩
     cases i with
     | zero => simp at hx hy; subst hx; subst hy; exact ra.keep (sb.keep sa.sim)
     | succ i => exact rb i x y (by simpa using hx) (by simpa using hy)

theorem fin_sound {own : Bool} {v2 : V} {H2 : Heap} (h0 : H0.length = n0) (hlow : LowH n0 μ0 H0) (st : Step gid n0 w0 M0 μ0 H0 w M μ H) {x : Value} {v : V} (hr : R gid w M μ x v) (h : fin own n0 H v = some (v2, H2)) :
   ∃ M' μ', Step gid n0 w0 M0 μ0 H0 w M' μ' H2 ∧ R gid w M' μ' x v2 := by
 have hl := st.len
 unfold fin at h
 cases own with
 | true =>
   simp only [if_true] at h
   have drop : ∀ {M' : Nat → Prop} {μ' : Inj} {H1 acc : Heap}, Step gid n0 w M μ (H ++ []) w M' μ' (H1 ++ acc) → H1.length = H.length → (∀ k, some k ∈ acc → k.arr = true) →
       Step gid n0 w0 M0 μ0 H0 w M' (shiftM n0 H.length acc.length μ') (H1.take n0 ++ acc) := by
     intro M' μ' H1 acc s1 s2 s3
     rw [List.append_nil] at s1
     have s4 := st.trans s1
     have e : H1 ++ acc = H1.take n0 ++ H1.drop n0 ++ acc := by simp
     rw [e] at s4
     have := Step.drop s4 (by simp; omega) h0 hlow s3
     rw [show n0 + (H1.drop n0).length = H.length by simp; omega] at this
     exact this
   have single : ∀ {v2 : V} {H2 : Heap}, (ownV n0 H [] v).bind (fun (v', H1, acc) => some (v', H1.take n0 ++ acc)) = some (v2, H2) → ∃ M' μ', Step gid n0 w0 M0 μ0 H0 w M' μ' H2 ∧ R gid w M' μ' x v2 := by
     intro v2 H2 h
     obtain ⟨⟨c', H1, acc⟩, h1, h2⟩ := bind_some_inv h
     injection h2 with h2; injection h2 with h3 h4
     subst h3; subst h4
     obtain ⟨M', μ', s1, r, l, a, p⟩ := ownV_sound (m := n0) (acc := []) (by omega) (by omega) (by rw [List.append_nil]; exact st.sim) h1 hr (by simp)
     exact ⟨M', _, drop s1 l p, r⟩
   split at h
   · rename_i vs
     obtain ⟨arr, rfl, hsz, hr'⟩ := hr.inv_tup
     obtain ⟨⟨vs', H1, acc⟩, h1, h2⟩ := bind_some_inv h
     injection h2 with h2; injection h2 with h3 h4
     subst h3; subst h4
     obtain ⟨M', μ', s1, r, l, a, p⟩ := ownVs_sound (m := n0) (acc := []) vs (by omega) (by omega) (by rw [List.append_nil]; exact st.sim) h1 (vs := arr.toList) ⟨by simpa using hsz, fun i x y hx hy => hr' i x y (by simpa using hx) hy⟩ (by simp)
     exact ⟨M', _, drop s1 l p, .tup arr vs' (by simpa using r.1) (fun i x y hx hy => r.2 i x y (by simpa using hx) hy)⟩
   · exact single h
 | false =>
   simp only [Bool.false_eq_true, if_false] at h
   split at h
   · rename_i vs
     obtain ⟨arr, rfl, hsz, hr'⟩ := hr.inv_tup
     obtain ⟨⟨vs', H1⟩, h1, h2⟩ := bind_some_inv h
     injection h2 with h2; injection h2 with h3 h4
     subst h3; subst h4
     obtain ⟨M', s1, r, p, l⟩ := pureIns_sound (n0 := n0) vs st.sim h1 (vs := arr.toList) ⟨by simpa using hsz, fun i x y hx hy => hr' i x y (by simpa using hx) hy⟩
     obtain ⟨μ', s2⟩ := Step.take (st.trans s1) h0 hlow
     exact ⟨M', μ', s2, .tup arr vs' (by simpa using r.1) (fun i x y hx hy => (r.2 i x y (by simpa using hx) hy).pureAny (p y (List.mem_of_getElem? hy)) μ')⟩
   · rename_i g c cs
     obtain ⟨⟨cs', H1⟩, h1, h2⟩ := bind_some_inv h
     injection h2 with h2; injection h2 with h3 h4
     subst h3; subst h4
     cases hr with
     | c hr =>
       cases hr with
       | p hr => cases hr
       | fn f g caps cs hg hsz hr =>
         obtain ⟨M', s1, l, r⟩ := capCs_sound (m := n0) (c :: cs) st.sim h1 (vs := caps.toList) (by simpa using hsz) (fun i x y hx hy => hr i x y (by simpa using hx) hy)
         obtain ⟨μ', s2⟩ := Step.take (st.trans s1) h0 hlow
         exact ⟨M', μ', s2, .c (.fn f g caps cs' hg (by simpa using l) (fun i x y hx hy => .p (r i x y (by simpa using hx) hy)))⟩
   · obtain ⟨⟨v', H1⟩, h1, h2⟩ := bind_some_inv h
     injection h2 with h2; injection h2 with h3 h4
     subst h3; subst h4
     obtain ⟨M', s1, r, p, l⟩ := pureIn_sound (n0 := n0) st.sim h1 hr
     obtain ⟨μ', s2⟩ := Step.take (st.trans s1) h0 hlow
     exact ⟨M', μ', s2, r.pureAny p μ'⟩

end Go.Abs

/- Two parties that take turns in one world: what the one does leaves the other's blocks as they are. -/
namespace Go.Abs

variable {gid : Gid} {w w' w0 : World} {M M' M0 : Nat → Prop} {μ μ' μ0 : Inj} {H H' H0 : Heap} {n0 : Nat}

/-- The world goes on and the blocks of F stay. -/
structure Idle (F : Nat → Prop) (w : World) (M : Nat → Prop) (w' : World) (M' : Nat → Prop) : Prop where
 keep : Keep w M w' M'
 shape : Shape w w'
 same : ∀ c, c < w.heap.size → F c → w'.heap[c]? = w.heap[c]? ∧ (M c → M' c)
 os : w'.os = w.os
 tape : w'.tape = w.tape
 output : w'.output = w.output

theorem Idle.refl (F : Nat → Prop) (w : World) (M : Nat → Prop) : Idle F w M w M := ⟨Keep.refl w M, Shape.refl w, fun _ _ _ => ⟨rfl, fun h => h⟩, rfl, rfl, rfl⟩

theorem Keep.trans {w1 : World} {M1 : Nat → Prop} (h : Keep w M w1 M1) (k : Keep w1 M1 w' M') : Keep w M w' M' :=
 ⟨Nat.le_trans h.size k.size, fun c hc hm => (k.same c (Nat.lt_of_lt_of_le hc h.size) fun h1 => hm (h.sub c hc h1)).trans (h.same c hc hm), fun c hc hm => h.sub c hc (k.sub c (Nat.lt_of_lt_of_le hc h.size) hm)⟩

theorem Idle.trans {F : Nat → Prop} {w1 : World} {M1 : Nat → Prop} (h : Idle F w M w1 M1) (k : Idle F w1 M1 w' M') : Idle F w M w' M' :=
 ⟨h.keep.trans k.keep, h.shape.trans k.shape, fun c hc hF => ⟨(k.same c (Nat.lt_of_lt_of_le hc h.keep.size) hF).1.trans (h.same c hc hF).1, fun hm => (k.same c (Nat.lt_of_lt_of_le hc h.keep.size) hF).2 ((h.same c hc hF).2 hm)⟩,
   k.os.trans h.os, k.tape.trans h.tape, k.output.trans h.output⟩

theorem Idle.mono {F G : Nat → Prop} (hG : ∀ c, G c → F c) (h : Idle F w M w' M') : Idle G w M w' M' := ⟨h.keep, h.shape, fun c hc hg => h.same c hc (hG c hg), h.os, h.tape, h.output⟩

/-- The blocks that the numbering names and that live. -/
def Held (μ : Inj) (H : Heap) (c : Nat) : Prop := ∃ b base z, μ b = some (c, base, z) ∧ alive H b

theorem wrAt.alive {b : Nat} (h : wrAt H b) : alive H b := let ⟨k, hk, _⟩ := h; ⟨k, hk⟩

theorem Held.cells (hs : Sim gid w M μ H) {c : Nat} (h : Held μ H c) : ∃ arr e, w.heap[c]? = some (.cells arr e (0, 0)) := by
 obtain ⟨b, base, z, hb, k, hk⟩ := h
 obtain ⟨arr, e, h1, _⟩ := (hs.blk b c base z k hb hk).lay
 exact ⟨arr, e, h1⟩

theorem Held.lt (hs : Sim gid w M μ H) {c : Nat} (h : Held μ H c) : c < w.heap.size := by
 obtain ⟨arr, e, h1⟩ := h.cells hs
 exact (Array.getElem?_eq_some_iff.1 h1).1

theorem Step.held (h : Step gid n0 w M μ H w' M' μ' H') {c : Nat} (hc : Held μ' H' c) : Held μ H c ∨ w.heap.size ≤ c := by
 obtain ⟨b, base, z, hb, ha⟩ := hc
 by_cases hlt : b < H.length
 · exact .inl ⟨b, base, z, by rw [← h.ext b hlt]; exact hb, h.alv b hlt ha⟩
 · rcases h.fresh b c base z (by omega) hb with h1 | ⟨b0, base0, z0, h1, h2⟩
   · exact .inr h1
   · exact .inl ⟨b0, base0, z0, h1, h2.alive⟩

/-- A step of the one, seen by the other. -/
theorem Step.idle (h : Step gid n0 w M μ H w' M' μ' H') (hs : Sim gid w M μ H) {F : Nat → Prop} (hF : ∀ c, F c → ¬ Held μ H c) : Idle F w M w' M' :=
 ⟨h.keep hs, h.shape, fun c hc hf => ⟨h.frame c hc fun b base z hb hw => hF c hf ⟨b, base, z, hb, hw.alive⟩, fun hm => h.keepM c hc hm fun b base z hb hw => hF c hf ⟨b, base, z, hb, hw.alive⟩⟩, h.os, h.tape, h.output⟩

theorem Sim.poke (hs : Sim gid w M μ H) {F : Nat → Prop} (h : Idle F w M w' M') (hF : ∀ c, Held μ H c → F c) : Sim gid w' M' μ H := by
 refine ⟨hs.dom, hs.inj, fun b c base z k hb hk => ?_, hs.tab.keep h.keep⟩
 have h1 := hs.blk b c base z k hb hk
 have h2 := h.same c h1.lt (hF c ⟨b, base, z, hb, k, hk⟩)
 exact h1.mono h.keep h.shape (fun _ _ h => h) h2.1 fun hw => h2.2 (h1.hM hw)

/-- A step of this one goes on standing while the other takes its turn. -/
theorem Step.poke (st : Step gid n0 w0 M0 μ0 H0 w M μ H) {F : Nat → Prop} (h : Idle F w M w' M') (hF : ∀ c, Held μ H c → F c) (h0 : ∀ c, c < w0.heap.size → F c) : Step gid n0 w0 M0 μ0 H0 w' M' μ H :=
 ⟨st.sim.poke h hF, st.ext, st.len, Nat.le_trans st.size h.keep.size, fun c hc hq => (h.same c (Nat.lt_of_lt_of_le hc st.size) (h0 c hc)).1.trans (st.frame c hc hq), st.shape.trans h.shape,
   fun c hc => by
     by_cases hlt : c < w.heap.size
     · exact st.sub c (h.keep.sub c hlt hc)
     · exact .inr (by have := st.size; omega),
   fun c hc hm hq => (h.same c (Nat.lt_of_lt_of_le hc st.size) (h0 c hc)).2 (st.keepM c hc hm hq), st.fresh, st.wrmono, st.alv, st.low, h.os.trans st.os, h.tape.trans st.tape, h.output.trans st.output⟩

theorem Idle.r {F : Nat → Prop} (h : Idle F w M w' M') {v : Value} {a : V} (hr : R gid w M μ v a) : R gid w' M' μ v a := hr.mono h.keep h.shape (fun _ _ h => h)

/-- A block that is no cells turns. -/
theorem Idle.putObj {F : Nat → Prop} {l : Nat} {o o' : Obj} (ho : w.heap[l]? = some o) (hc : ∀ arr e fr, o ≠ .cells arr e fr) (hM : M l) (hF : ¬ F l) : Idle F w M (w.putObj l o') M := by
 refine ⟨⟨by simp, fun c _ hm => World.putObj_heap_other fun e => hm (e ▸ hM), fun _ _ h => h⟩, fun c arr e fr h => ?_, fun c _ hf => ⟨World.putObj_heap_other fun e => hF (e ▸ hf), fun h => h⟩, rfl, rfl, rfl⟩
 refine ⟨arr, ?_, rfl⟩
 rw [World.putObj_heap_other]
 · exact h
 · intro e
   subst e
   rw [ho] at h
   injection h with h
   exact hc _ _ _ h

/-- A new block that is no cells. -/
theorem Step.grow (hs : Sim gid w M μ H) (o : Obj) : Step gid n0 w M μ H (w.alloc o) (fun c => M c ∨ c = w.heap.size) μ H := by
 have ho : ∀ c, c < w.heap.size → (w.alloc o).heap[c]? = w.heap[c]? := fun c hc => heap_alloc_old w o c hc
 have kp : Keep w M (w.alloc o) (fun c => M c ∨ c = w.heap.size) := ⟨by simp, fun c hc _ => ho c hc, fun c hc hm => hm.resolve_right (by omega)⟩
 have sh : Shape w (w.alloc o) := fun c a e' fr hc => ⟨a, by rw [ho c (Array.getElem?_eq_some_iff.1 hc).1]; exact hc, rfl⟩
 refine ⟨⟨hs.dom, hs.inj, fun b c base z k hb hk => ?_, hs.tab.keep kp⟩, fun _ _ => rfl, Nat.le_refl _, kp.size, fun c hc _ => ho c hc, sh, fun c hc => hc.imp id (fun e => by omega), fun c _ hm _ => .inl hm,
   fun b c base z hb h => absurd (hs.dom b _ h) (by omega), fun _ _ h => h, fun _ _ h => h, fun _ _ h => h, rfl, rfl, rfl⟩
 have h1 := hs.blk b c base z k hb hk
 exact h1.mono kp sh (fun _ _ h => h) (ho c h1.lt) fun hw => .inl (h1.hM hw)

/-- The marks among a frame's deferred calls: each names a block of its own, laid since B, in which nothing is kept. -/
def DefOk (B : Nat → Prop) (w : World) (M : Nat → Prop) (ds : List Deferred) : Prop :=
 ∃ Ds : List Nat, ds = Ds.map (fun D => { target := .collected D, args := #[] }) ∧ Ds.Nodup ∧ ∀ D ∈ Ds, B D ∧ w.heap[D]? = some (.deferred (some [])) ∧ M D

theorem DefOk.nil (B : Nat → Prop) (w : World) (M : Nat → Prop) : DefOk B w M [] := ⟨[], rfl, List.nodup_nil, by simp⟩

theorem DefOk.at_ {B : Nat → Prop} {ds : List Deferred} (h : DefOk B w M ds) {D : Nat} (hD : ({ target := .collected D, args := #[] } : Deferred) ∈ ds) : w.heap[D]? = some (.deferred (some [])) := by
 obtain ⟨Ds, h1, h2, h3⟩ := h
 rw [h1] at hD
 obtain ⟨D', hm, e⟩ := List.mem_map.1 hD
 injection e with e _
 injection e with e
 subst e
 exact (h3 D' hm).2.1

theorem DefOk.idle {B : Nat → Prop} {ds : List Deferred} (h : DefOk B w M ds) {F : Nat → Prop} (k : Idle F w M w' M') (hF : ∀ D, ({ target := .collected D, args := #[] } : Deferred) ∈ ds → F D) : DefOk B w' M' ds := by
 obtain ⟨Ds, h1, h2, h3⟩ := h
 refine ⟨Ds, h1, h2, fun D hD => ?_⟩
 obtain ⟨g1, g2, g3⟩ := h3 D hD
 obtain ⟨e1, e2⟩ := k.same D (Array.getElem?_eq_some_iff.1 g2).1 (hF D (by rw [h1]; exact List.mem_map.2 ⟨D, hD, rfl⟩))
 exact ⟨g1, e1.trans g2, e2 g3⟩

theorem held_not_deferred (hs : Sim gid w M μ H) {c : Nat} {x : Option (List Deferred)} (h : w.heap[c]? = some (.deferred x)) : ¬ Held μ H c := fun hh => by
 obtain ⟨arr, e, h1⟩ := hh.cells hs
 rw [h] at h1
 cases h1

theorem DefOk.step {B : Nat → Prop} {ds : List Deferred} (h : DefOk B w M ds) (hs : Sim gid w M μ H) (st : Step gid n0 w M μ H w' M' μ' H') : DefOk B w' M' ds :=
 h.idle (st.idle hs (F := fun c => w.heap[c]? = some (.deferred (some []))) fun _ hc => held_not_deferred hs hc) fun _ hD => h.at_ hD

end Go.Abs

/- The abstract machine is sound: what it says of a function holds of the model's call. -/
namespace Go.Abs

/-- A call of yield: the round that it asks for. -/
def YieldR (T : Tab) (l : Nat) (args : Array Value) (w : World) (R : Ending → World → Prop) : Prop :=
 ∃ fn tmps assign body, (Instr.yield l args).run T.P w = .ok (.round l fn tmps assign body) w ∧ RoundIn (fnc none) 0 T.P l fn tmps assign body w R

/-- What a loop over an iterator promises the iterator: J: between two rounds, k of them done, F: its blocks; Jx: where a round has said 'no more'. -/
structure ItCtx (T : Tab) (L : List (List V)) (l : Nat) (J : Nat → (Nat → Prop) → World → (Nat → Prop) → Prop) (Jx : (Nat → Prop) → World → (Nat → Prop) → Prop) : Prop where
 stay : ∀ k F w M w' M', J k F w M → Idle F w M w' M' → J k F w' M'
 stayx : ∀ F w M w' M', Jx F w M → Idle F w M w' M' → Jx F w' M'
 bound : ∀ k F w M, J k F w M → ∀ c, F c → c < w.heap.size
 boundx : ∀ F w M, Jx F w M → ∀ c, F c → c < w.heap.size
 round : ∀ (k : Nat) (F : Nat → Prop) (w : World) (M : Nat → Prop) (G : Nat → Prop) (args : Array Value) (vs : List V), J k F w M → L[k]? = some vs → Rs T.gid w M (fun _ => none) args.toList vs → (∀ c, G c → ¬ F c ∧ c < w.heap.size) →
   YieldR T l args w fun e w' => ∃ (M' F' : Nat → Prop), Idle G w M w' M' ∧ (∀ c, F' c → F c ∨ w.heap.size ≤ c) ∧ ((e = .returned (.bool true) ∧ J (k + 1) F' w' M') ∨ (e = .returned (.bool false) ∧ Jx F' w' M'))

/-- An iterator's contract: it yields L, one by one, until it is stopped. -/
def IterOk (T : Tab) (fid : FuncId) (caps : List V) (L : List (List V)) : Prop :=
 ∃ fn, T.P.funcs[fid]? = some fn ∧ fn.name ≠ "runtime.NumGoroutine" ∧ fn.body.isSome = true ∧
   ∀ (l : Nat) (J : Nat → (Nat → Prop) → World → (Nat → Prop) → Prop) (Jx : (Nat → Prop) → World → (Nat → Prop) → Prop), ItCtx T L l J Jx →
     ∀ (F : Nat → Prop) (w : World) (M : Nat → Prop) (vs : Array Value), Tabs T.gid w M → Rs T.gid w M (fun _ => none) vs.toList caps → J 0 F w M →
       CallsIn (fnc none) 0 T.P fid (#[.func (.yield l) #[] #[]] ++ vs) w fun e w' => (∃ v, e = .returned v) ∧ ∃ F' M', J L.length F' w' M' ∨ Jx F' w' M'

structure Seat (T : Tab) (S : AProg) : Prop where
 mixed : T.P.follows .mixedOrders = true
 fns : ∀ fid g f, T.gid fid = some g → S.fn g = some f → ∃ fn C, T.P.funcs[fid]? = some fn ∧ fn.name ≠ "runtime.NumGoroutine" ∧ fn.body = some C ∧ comp T fn.ntmps C = some f.body ∧ cRVs T fn.results.toList = some f.results
 iters : ∀ fid g caps L, T.gid fid = some g → S.iter g caps L → IterOk T fid caps L
 prims : ∀ fid g args v H, T.gid fid = some g → S.prim g args = some v → ∃ fn, T.P.funcs[fid]? = some fn ∧ fn.name ≠ "runtime.NumGoroutine" ∧ fn.body.isSome = true ∧
   ∀ (w : World) (M : Nat → Prop) (μ : Inj) (vs : List Value), Sim T.gid w M μ H → Rs T.gid w M μ vs args →
     Calls T.P fid vs.toArray w fun e w' => ∃ v' M' μ', e = .returned v' ∧ Step T.gid H.length w M μ H w' M' μ' H ∧ R T.gid w' M' μ' v' v

def AX.toExit : AX → Exit
 | .normal => .normal
 | .exit id => .exit id
 | .ret => .ret

def CallSem (T : Tab) (g : Nat) (args : List V) (H : Heap) (v : V) (H' : Heap) : Prop :=
 H.length ≤ H'.length ∧ ∀ fid, T.gid fid = some g → ∃ fn, T.P.funcs[fid]? = some fn ∧ fn.name ≠ "runtime.NumGoroutine" ∧ fn.body.isSome = true ∧
   ∀ (w : World) (M : Nat → Prop) (μ : Inj) (vs : List Value), Sim T.gid w M μ H → Rs T.gid w M μ vs args →
     Calls T.P fid vs.toArray w fun e w' => ∃ v' M' μ', e = .returned v' ∧ Step T.gid H.length w M μ H w' M' μ' H' ∧ R T.gid w' M' μ' v' v

/-- What holds of the state that code ends in. -/
def Ends (T : Tab) (n0 nt : Nat) (B : Nat → Prop) (w : World) (M : Nat → Prop) (μ : Inj) (H : Heap) (x : AX) (E' : Env) (H' : Heap) (Q : Exit → Act → World → Prop) : Prop :=
 ∀ a' w' M' μ', Step T.gid n0 w M μ H w' M' μ' H' → ERel T.gid w' M' μ' a'.tmps E' → DefOk B w' M' a'.defers → nt ≤ a'.tmps.size → Q x.toExit a' w'

def Runs (T : Tab) (n0 : Nat) (c : AC) (E : Env) (H : Heap) (x : AX) (E' : Env) (H' : Heap) (P : Option Nat → Code → (Exit → Act → World → Prop) → Act → World → Prop) : Prop :=
 ∀ (ro : Option Nat) (B : Nat → Prop) (nt : Nat) (C : Code) (a : Act) (w : World) (M : Nat → Prop) (μ : Inj) (Q : Exit → Act → World → Prop), comp T nt C = some c → (ro = none ∨ c.flat = true) → n0 ≤ H.length → nt ≤ a.tmps.size → Sim T.gid w M μ H → ERel T.gid w M μ a.tmps E →
   DefOk B w M a.defers → (c.flat = true ∨ ∀ D, w.heap.size ≤ D → B D) → Ends T n0 nt B w M μ H x E' H' Q → P ro C Q a w

def CodeSem (T : Tab) (n0 : Nat) (c : AC) (E : Env) (H : Heap) (x : AX) (E' : Env) (H' : Heap) : Prop :=
 H.length ≤ H'.length ∧ Runs T n0 c E H x E' H' (fun ro C Q a w => C.wpIn (fnc ro) 0 T.P Q a w) ∧
 (∀ c', c = .loop c' → ∃ n, Runs T n0 c' E H x E' H' (fun ro C Q a w => Code.roundsIn (fnc ro) 0 T.P C Q n a w))

/-- One round of a range over a function. -/
def RndSem (T : Tab) (n0 : Nat) (ps : List Nat) (a c : AC) (args : List V) (E : Env) (H : Heap) (x : AX) (H2 : Heap) : Prop :=
 ∃ E1 H1 E2, args.length = ps.length ∧ CodeSem T n0 a (bindE E ps args) H .normal E1 H1 ∧ CodeSem T n0 c E1 H1 x E2 H2

def RndsSem (T : Tab) (n0 : Nat) (ps : List Nat) (a c : AC) (L : List (List V)) (E : Env) (H : Heap) (x : AX) (H' : Heap) : Prop :=
 ∃ (m : Nat) (Hs : Nat → Heap), Hs 0 = H ∧ (∀ k args, k < m → L[k]? = some args → RndSem T n0 ps a c args E (Hs k) .normal (Hs (k + 1))) ∧
   ((m = L.length ∧ x = .normal ∧ H' = Hs m) ∨ ∃ args, L[m]? = some args ∧ x ≠ .normal ∧ RndSem T n0 ps a c args E (Hs m) x H')

def OpsSem (T : Tab) (n0 : Nat) (d : Bool) (l : List AOper) (E : Env) (H : Heap) (x : AX) (E' : Env) (H' : Heap) : Prop :=
 x = .normal ∧ H.length ≤ H'.length ∧ ∀ (ops : Array Oper) (os : List Oper), os.length = l.length → (∀ (i : Nat) (o : Oper) (ao : AOper), os[i]? = some o → l[i]? = some ao → Link T ops o ao) → Tr T n0 d ops os l E H E' H'

def Motive (T : Tab) : Task → Res → Prop
 | .call g args H, .ret v H' => CallSem T g args H v H'
 | .code n0 c E H, .cd x E' H' => CodeSem T n0 c E H x E' H'
 | .ops n0 d l E H, .cd x E' H' => OpsSem T n0 d l E H x E' H'
 | .rnds n0 ps a c L E H, .cd x E' H' => E' = E ∧ H.length ≤ H'.length ∧ RndsSem T n0 ps a c L E H x H'
 | _, _ => True

variable {T : Tab} {S : AProg}

/- What a piece of abstract code came from. -/
theorem cRegion_inv {nt : Nat} {ops : Array Oper} {draw : Bool} {c : AC} (h : cRegion T nt ops draw = some c) :
   ∃ l, cOpers T ops ops.toList = some l ∧ dstsOk nt l = true ∧ ((draw = false ∧ c = .region false l) ∨
     (draw = true ∧ c = .region true (finalOps (befores ops.toList []) l) ∧
       ((List.range ops.size).all fun i => match ops[i]? with | some o => edgesDown i o | none => false) = true ∧ drawOk (befores ops.toList []) (finalOps (befores ops.toList []) l) = true)) := by
 unfold cRegion at h
 obtain ⟨l, h1, h⟩ := bind_some_inv h
 split at h
 · rename_i hd
   split at h
   · rename_i hdr
     simp only [] at h
     split at h
     · rename_i hc
       simp only [Bool.and_eq_true] at hc
       injection h with h
       exact ⟨l, h1, hd, .inr ⟨hdr, h.symm, hc.1, hc.2⟩⟩
     · cases h
   · rename_i hdr
     injection h with h
     exact ⟨l, h1, hd, .inl ⟨by simpa using hdr, h.symm⟩⟩
 · cases h

theorem comp_inv {nt : Nat} {C : Code} {c : AC} (h : comp T nt C = some c) :
   match c with
   | .skip => C = .skip ∨ ∃ l, C = .label l
   | .region d l => ∃ id ops, C = .region id ops d ∧ cRegion T nt ops d = some (.region d l)
   | .seq a b => ∃ A B, C = .seq A B ∧ comp T nt A = some a ∧ comp T nt B = some b
   | .cond x a b => ∃ X A B, C = .cond X A B ∧ cX T X = some x ∧ comp T nt A = some a ∧ comp T nt B = some b
   | .block id a => ∃ A, C = .block id A ∧ comp T nt A = some a
   | .loop a => ∃ A, C = .loop A ∧ comp T nt A = some a
   | .scope a => ∃ A, C = .scope A ∧ comp T nt A = some a
   | .exit id => C = .exit id
   | .ret => C = .ret
   | .stop => True
   | .rfor x ps a c => ∃ X PS A B, C = .rangeFunc X PS A B ∧ cX T X = some x ∧ ps = PS.toList ∧ comp T nt A = some a ∧ comp T nt B = some c ∧ a.flat = true ∧ c.flat = true ∧ ∀ p ∈ ps, p < nt := by
 cases C <;> simp only [comp] at h
 case skip => injection h with h; subst h; exact .inl rfl
 case label l => injection h with h; subst h; exact .inr ⟨l, rfl⟩
 case scope A =>
   obtain ⟨a, h1, rfl⟩ := map_some_inv h
   exact ⟨A, rfl, h1⟩
 case region id ops draw =>
   cases hr : cRegion T nt ops draw with
   | none => rw [hr] at h; injection h with h; subst h; trivial
   | some c' =>
     rw [hr] at h
     injection h with h
     subst h
     obtain ⟨l, h1, h2, h3 | h3⟩ := cRegion_inv hr
     · obtain ⟨h3, h4⟩ := h3
       subst h3; subst h4
       exact ⟨id, ops, rfl, hr⟩
     · obtain ⟨h3, h4, _⟩ := h3
       subst h3; subst h4
       exact ⟨id, ops, rfl, hr⟩
 case seq A B =>
   obtain ⟨a, h1, h⟩ := bind_some_inv h
   obtain ⟨b, h2, rfl⟩ := map_some_inv h
   exact ⟨A, B, rfl, h1, h2⟩
 case cond x A B =>
   obtain ⟨c, h0, h⟩ := bind_some_inv h
   obtain ⟨a, h1, h⟩ := bind_some_inv h
   obtain ⟨b, h2, rfl⟩ := map_some_inv h
   exact ⟨x, A, B, rfl, h0, h1, h2⟩
 case block id A =>
   obtain ⟨a, h1, rfl⟩ := map_some_inv h
   exact ⟨A, rfl, h1⟩
 case loop A =>
   obtain ⟨a, h1, rfl⟩ := map_some_inv h
   exact ⟨A, rfl, h1⟩
 case rangeFunc X PS A B =>
   cases hr : cRange (cX T X) (comp T nt A) (comp T nt B) nt PS.toList with
   | none => rw [hr] at h; injection h with h; subst h; trivial
   | some c' =>
     rw [hr] at h
     injection h with h
     subst h
     unfold cRange at hr
     obtain ⟨x, h1, hr⟩ := bind_some_inv hr
     obtain ⟨a, h2, hr⟩ := bind_some_inv hr
     obtain ⟨b, h3, hr⟩ := bind_some_inv hr
     split at hr
     · rename_i hc
       injection hr with hr
       subst hr
       exact ⟨X, PS, A, B, rfl, h1, rfl, h2, h3, hc.1, hc.2.1, hc.2.2⟩
     · cases hr
 case exit id => injection h with h; subst h; rfl
 case ret => injection h with h; subst h; rfl
 all_goals (injection h with h; subst h; trivial)

theorem cOpers_get : ∀ (os : List Oper) {ops : Array Oper} {l : List AOper} (_ : cOpers T ops os = some l), os.length = l.length ∧ ∀ (i : Nat) (o : Oper) (ao : AOper), os[i]? = some o → l[i]? = some ao → cOper T ops o = some ao
 | [], ops, l, h => by simp only [cOpers] at h; injection h with h; subst h; exact ⟨rfl, by simp⟩
 | o :: os, ops, l, h => by
   simp only [cOpers, Option.bind_eq_some_iff] at h
   obtain ⟨ao, h1, q, h2, h3⟩ := h
   injection h3 with h3
   subst h3
   obtain ⟨g1, g2⟩ := cOpers_get os h2
   refine ⟨by simp [g1], fun i x y hx hy => ?_⟩
   cases i with
   | zero => simp at hx hy; subst hx; subst hy; exact h1
   | succ i => exact g2 i x y (by simpa using hx) (by simpa using hy)

theorem cX_on {w : World} {M : Nat → Prop} {μ : Inj} (tb : Tabs T.gid w M) {x : Operand} {c : X} (h : cX T x = some c) {a : Act} {E : Env} (hE : ERelOn T.gid w M μ c.reads a.tmps E) : R T.gid w M μ (a.eval x) (getX E c) := by
 cases x with
 | tmp t => simp only [cX] at h; injection h with h; subst h; exact hE t (by simp [X.reads])
 | const v =>
   simp only [cX, Option.map_eq_some_iff] at h
   obtain ⟨c', h1, rfl⟩ := h
   exact (cV_sound h1).1
 | func f =>
   simp only [cX, Option.map_eq_some_iff] at h
   obtain ⟨g, h1, rfl⟩ := h
   exact .c (.p (.fn f g h1))
 | global g =>
   simp only [cX, Option.map_eq_some_iff] at h
   obtain ⟨cs, h1, rfl⟩ := h
   exact .c (.p (tb g cs h1))

theorem cXs_on {w : World} {M : Nat → Prop} {μ : Inj} (tb : Tabs T.gid w M) : ∀ (xs : List Operand) {cs : List X} (_ : cXs T xs = some cs) {a : Act} {E : Env} (_ : ERelOn T.gid w M μ (cs.flatMap X.reads) a.tmps E), Rs T.gid w M μ (xs.map a.eval) (cs.map (getX E))
 | [], cs, h, a, E, hE => by simp only [cXs] at h; injection h with h; subst h; exact ⟨rfl, by simp⟩
 | x :: xs, cs, h, a, E, hE => by
   simp only [cXs, Option.bind_eq_some_iff] at h
   obtain ⟨c, h1, cs', h2, h3⟩ := h
   injection h3 with h3
   subst h3
   exact Rs.cons (cX_on tb h1 fun t ht => hE t (by rw [List.flatMap_cons]; exact List.mem_append_left _ ht)) (cXs_on tb xs h2 fun t ht => hE t (by rw [List.flatMap_cons]; exact List.mem_append_right _ ht))

theorem R.inv_fn {w : World} {M : Nat → Prop} {μ : Inj} {gid : Gid} {v : Value} {g : Nat} {caps : List V} (h : R gid w M μ v (.fn g caps)) :
   ∃ fid cs, v = .func (.func fid) #[] cs ∧ gid fid = some g ∧ Rs gid w M μ cs.toList caps := by
 cases h with
 | c h =>
   cases h with
   | p h => cases h with | fn f g hg => exact ⟨f, #[], rfl, hg, rfl, by simp⟩
   | fn f g cs caps hg hsz hr => exact ⟨f, cs, rfl, hg, by simpa using hsz, fun i x y hx hy => .c (hr i x y (by simpa using hx) hy)⟩

theorem Rs.append {w : World} {M : Nat → Prop} {μ : Inj} {gid : Gid} {vs ws : List Value} {cs ds : List V} (h : Rs gid w M μ vs cs) (k : Rs gid w M μ ws ds) : Rs gid w M μ (vs ++ ws) (cs ++ ds) := by
 refine ⟨by simp [h.1, k.1], fun i x y hx hy => ?_⟩
 by_cases hi : i < vs.length
 · rw [List.getElem?_append_left hi] at hx
   rw [List.getElem?_append_left (by rw [← h.1]; exact hi)] at hy
   exact h.2 i x y hx hy
 · rw [List.getElem?_append_right (by omega)] at hx
   rw [List.getElem?_append_right (by rw [← h.1]; omega), ← h.1] at hy
   exact k.2 _ x y hx hy

theorem cOp_call {cop : Op} {x : X} {q : List X} (h : cOp T cop = some (.call x q)) : ∃ f args argTypes, cop = .call ⟨.value f, args, argTypes⟩ ∧ cX T f = some x ∧ cXs T args.toList = some q := by
 cases cop
 case call c =>
   obtain ⟨callee, args, argTypes⟩ := c
   cases callee
   case value f =>
     simp only [cOp] at h
     obtain ⟨f', h1, h⟩ := bind_some_inv h
     obtain ⟨q', h2, h3⟩ := map_some_inv h
     injection h3 with h3 h4
     subst h3; subst h4
     exact ⟨f, args, argTypes, rfl, h1, h2⟩
   case invoke r m => cases h
   case builtin bi =>
     exfalso
     cases bi <;> simp only [cOp] at h <;> try (cases h; done)
     case len =>
       split at h
       · split at h
         · obtain ⟨_, _, h⟩ := map_some_inv h; cases h
         · obtain ⟨_, _, h⟩ := map_some_inv h; cases h
         · cases h
       · cases h
     case cap =>
       split at h
       · split at h
         · obtain ⟨_, _, h⟩ := map_some_inv h; cases h
         · cases h
       · cases h
     case append =>
       split at h
       · split at h
         · obtain ⟨e, h1, h⟩ := bind_some_inv h
           obtain ⟨z, h3, h⟩ := bind_some_inv h
           obtain ⟨i, h4, h⟩ := bind_some_inv h
           obtain ⟨zv, h5, h⟩ := bind_some_inv h
           obtain ⟨x', h6, h⟩ := bind_some_inv h
           obtain ⟨y', h7, h⟩ := bind_some_inv h
           split at h <;> cases h
         obtain ⟨e, h1, h⟩ := bind_some_inv h
         obtain ⟨e', h2, h⟩ := bind_some_inv h
         obtain ⟨z, h3, h⟩ := bind_some_inv h
         obtain ⟨i, h4, h⟩ := bind_some_inv h
         obtain ⟨zv, h5, h⟩ := bind_some_inv h
         obtain ⟨x', h6, h⟩ := bind_some_inv h
         obtain ⟨y', h7, h⟩ := bind_some_inv h
         split at h <;> cases h
       · cases h
     case copy =>
       split at h
       · obtain ⟨e, h1, h⟩ := bind_some_inv h
         obtain ⟨z, h3, h⟩ := bind_some_inv h
         obtain ⟨x', h6, h⟩ := bind_some_inv h
         obtain ⟨y', h7, h⟩ := bind_some_inv h
         split at h <;> cases h
       · cases h
     case min =>
       split at h
       · obtain ⟨_, _, h⟩ := bind_some_inv h
         obtain ⟨_, _, h⟩ := map_some_inv h; cases h
       · cases h
     case max =>
       split at h
       · obtain ⟨_, _, h⟩ := bind_some_inv h
         obtain ⟨_, _, h⟩ := map_some_inv h; cases h
       · obtain ⟨_, _, h⟩ := bind_some_inv h
         obtain ⟨_, _, h⟩ := bind_some_inv h
         obtain ⟨_, _, h⟩ := map_some_inv h; cases h
       · cases h
 case move y => obtain ⟨_, _, h⟩ := map_some_inv h; cases h
 case assign y => obtain ⟨_, _, h⟩ := map_some_inv h; cases h
 case pick c y z => obtain ⟨_, _, h⟩ := bind_some_inv h; obtain ⟨_, _, h⟩ := bind_some_inv h; obtain ⟨_, _, h⟩ := map_some_inv h; cases h
 case alloc t =>
   obtain ⟨_, _, h⟩ := bind_some_inv h
   obtain ⟨_, _, h⟩ := bind_some_inv h
   split at h <;> cases h
 case box t y => obtain ⟨_, _, h⟩ := bind_some_inv h; obtain ⟨_, _, h⟩ := map_some_inv h; cases h
 case build t ps =>
   simp only [cOp] at h
   split at h
   · split at h
     · obtain ⟨_, _, h⟩ := bind_some_inv h; obtain ⟨_, _, h⟩ := map_some_inv h; cases h
     · cases h
   · obtain ⟨_, _, h⟩ := bind_some_inv h; obtain ⟨_, _, h⟩ := bind_some_inv h; obtain ⟨_, _, h⟩ := map_some_inv h; cases h
   · cases h
 case buildSlice t len ps =>
   obtain ⟨_, _, h⟩ := bind_some_inv h
   obtain ⟨_, _, h⟩ := bind_some_inv h
   obtain ⟨_, _, h⟩ := bind_some_inv h
   obtain ⟨_, _, h⟩ := bind_some_inv h
   split at h <;> cases h
 case load t y => obtain ⟨_, _, h⟩ := bind_some_inv h; obtain ⟨_, _, h⟩ := bind_some_inv h; obtain ⟨_, _, h⟩ := map_some_inv h; cases h
 case store t y z => obtain ⟨_, _, h⟩ := bind_some_inv h; obtain ⟨_, _, h⟩ := bind_some_inv h; obtain ⟨_, _, h⟩ := map_some_inv h; cases h
 case binOp bop t y z u => obtain ⟨_, _, h⟩ := bind_some_inv h; obtain ⟨_, _, h⟩ := bind_some_inv h; obtain ⟨_, _, h⟩ := map_some_inv h; cases h
 case unOp uop t y => obtain ⟨_, _, h⟩ := map_some_inv h; cases h
 case convert src dst y =>
   simp only [cOp] at h
   split at h
   · obtain ⟨_, _, h⟩ := map_some_inv h; cases h
   · cases h
 case makeFunc fn first caps =>
   cases fn <;> simp only [cOp] at h <;> try (cases h; done)
   split at h
   · obtain ⟨_, _, h⟩ := bind_some_inv h; obtain ⟨_, _, h⟩ := map_some_inv h; cases h
   · cases h
 case makeSlice t y z =>
   obtain ⟨_, _, h⟩ := bind_some_inv h
   obtain ⟨_, _, h⟩ := bind_some_inv h
   obtain ⟨_, _, h⟩ := bind_some_inv h
   obtain ⟨_, _, h⟩ := bind_some_inv h
   obtain ⟨_, _, h⟩ := bind_some_inv h
   obtain ⟨_, _, h⟩ := bind_some_inv h
   split at h <;> cases h
 case slice t y lo hi mx =>
   obtain ⟨_, _, h⟩ := bind_some_inv h
   obtain ⟨_, _, h⟩ := bind_some_inv h
   obtain ⟨_, _, h⟩ := bind_some_inv h
   obtain ⟨_, _, h⟩ := bind_some_inv h
   obtain ⟨_, _, h⟩ := bind_some_inv h
   obtain ⟨_, _, h⟩ := bind_some_inv h
   split at h <;> cases h
 case fieldAddr s y f =>
   simp only [cOp] at h
   split at h
   · obtain ⟨_, _, h⟩ := bind_some_inv h
     obtain ⟨_, _, h⟩ := bind_some_inv h
     obtain ⟨_, _, h⟩ := bind_some_inv h
     split at h <;> cases h
   · cases h
 case field t y f =>
   simp only [cOp] at h
   split at h
   · obtain ⟨_, _, h⟩ := bind_some_inv h
     obtain ⟨_, _, h⟩ := bind_some_inv h
     obtain ⟨_, _, h⟩ := bind_some_inv h
     obtain ⟨_, _, h⟩ := map_some_inv h; cases h
   · cases h
 case indexAddr t y i =>
   simp only [cOp] at h
   split at h
   · obtain ⟨_, _, h⟩ := bind_some_inv h; obtain ⟨_, _, h⟩ := bind_some_inv h; obtain ⟨_, _, h⟩ := map_some_inv h; cases h
   · obtain ⟨_, _, h⟩ := bind_some_inv h; obtain ⟨_, _, h⟩ := bind_some_inv h; obtain ⟨_, _, h⟩ := map_some_inv h; cases h
   · cases h
 case index t y i =>
   simp only [cOp] at h
   split at h
   · obtain ⟨_, _, h⟩ := bind_some_inv h; obtain ⟨_, _, h⟩ := bind_some_inv h; obtain ⟨_, _, h⟩ := bind_some_inv h; obtain ⟨_, _, h⟩ := map_some_inv h; cases h
   · obtain ⟨_, _, h⟩ := bind_some_inv h; obtain ⟨_, _, h⟩ := map_some_inv h; cases h
   · cases h
 case extract y i => obtain ⟨_, _, h⟩ := map_some_inv h; cases h
 all_goals (cases h)

/-- A call, as one operation. -/
theorem opSem_call {n0 : Nat} {o : Oper} {x : X} {q : List X} (hop : cOp T o.op = some (.call x q)) {E : Env} {H H1 H2 : Heap} {g : Nat} {caps vs : List V} {v : V} (hx : getX E x = .fn g caps) (hp : prep S g H (q.map (getX E) ++ caps) = some (vs, H1))
   (hc : CallSem T g vs H1 v H2) : OpSem T n0 o (AOp.call x q).reads E H v H2 := by
 intro a w M μ K Q hn hs hE hK
 obtain ⟨dst, cop, ty, pos, after, guard⟩ := o
 simp only at hop
 obtain ⟨f, args, argTypes, hcop, h1, h2⟩ := cOp_call hop
 subst hcop
 simp only [AOp.reads] at hE
 have hf := cX_on hs.tab h1 (a := a) (E := E) fun t ht => hE t (List.mem_append_left _ ht)
 have ha := cXs_on hs.tab args.toList h2 (a := a) (E := E) fun t ht => hE t (List.mem_append_right _ ht)
 rw [hx] at hf
 obtain ⟨fid, cs, hfv, hg, hcs⟩ := hf.inv_fn
 obtain ⟨hlen, hc⟩ := hc
 obtain ⟨fn, h5, h6, h7, h8⟩ := hc fid hg
 have hall := Rs.append ha hcs
 have hprep : ∃ M1, Step T.gid n0 w M μ H w M1 μ H1 ∧ Rs T.gid w M1 μ (args.toList.map a.eval ++ cs.toList) vs ∧ H1.length = H.length := by
   unfold prep at hp
   split at hp
   · split at hp
     · injection hp with hp; injection hp with hp1 hp2
       subst hp1; subst hp2
       exact ⟨M, .refl hs, hall, rfl⟩
     · exact frzVs_sound _ hs hp hall
   · exact frzVs_sound _ hs hp hall
 obtain ⟨M1, st1, hrs, hl1⟩ := hprep
 have hcall := h8 w M1 μ _ st1.sim hrs
 have hb : fn.body.isNone = false := by cases hq : fn.body <;> simp [hq] at h7 ⊢
 have hrun : (execOp a.eval ⟨dst, .call ⟨.value f, args, argTypes⟩, ty, pos, after, guard⟩).run T.P w = .ok (.enter fid (args.map a.eval ++ cs)) w := by
   simp only [execOp, resolve, hfv, Deferred.ofValue, pure_bind, invoke, callFunc, Sem.run_bind, run_program, Result.andThen_ok, h5, Array.empty_append]
   have e1 : (fn.name == "runtime.NumGoroutine") = false := by simpa using h6
   simp [e1, hb]
 unfold Oper.wp
 rw [hrun]
 simp only [Oper.upon]
 have harr : (args.toList.map a.eval ++ cs.toList).toArray = args.map a.eval ++ cs := by
   apply Array.ext'
   simp
 rw [harr] at hcall
 refine hcall.mono fun e w' he => ?_
 obtain ⟨v', M', μ', rfl, st2, hr⟩ := he
 exact hK v' w' M' μ' (st1.trans ⟨st2.sim, st2.ext, st2.len, st2.size, st2.frame, st2.shape, st2.sub, st2.keepM, st2.fresh, st2.wrmono, st2.alv, fun n hn' => st2.low n (by omega), st2.os, st2.tape, st2.output⟩) hr

end Go.Abs

/- A range over a function: the caller's side. -/
namespace Go.Abs

variable {T : Tab} {S : AProg}

theorem bind_rel {w : World} {M : Nat → Prop} {μ : Inj} : ∀ (ps : List Nat) (vals : List Value) (vs : List V) (tmps : Array Value) (E : Env), (∀ p ∈ ps, p < tmps.size) → Rs T.gid w M (fun _ => none) vals vs → ERel T.gid w M μ tmps E →
   ERel T.gid w M μ ((ps.zip vals).foldl (fun t (p : Nat × Value) => t.setIfInBounds p.1 p.2) tmps) (bindE E ps vs) ∧ ((ps.zip vals).foldl (fun t (p : Nat × Value) => t.setIfInBounds p.1 p.2) tmps).size = tmps.size
 | [], vals, vs, tmps, E, _, _, hE => by cases vs <;> exact ⟨hE, rfl⟩
 | p :: ps, [], vs, tmps, E, _, hr, hE => by
   have : vs = [] := List.eq_nil_of_length_eq_zero (by simpa using hr.1.symm)
   subst this
   exact ⟨hE, rfl⟩
 | p :: ps, v :: vals, vs, tmps, E, hp, hr, hE => by
   cases vs with
   | nil => have := hr.1; simp at this
   | cons c vs =>
     have h0 : R T.gid w M μ v c := (hr.2 0 v c rfl rfl).mono (Keep.refl w M) (Shape.refl w) (fun b x h => by cases h)
     have h1 := ERel.put (dst := some p) hE (fun d hd => by injection hd with hd; subst hd; exact hp p (by simp)) h0 []
     have h2 := bind_rel ps vals vs _ _ (fun q hq => by simp only [Act.put, Array.size_setIfInBounds]; exact hp q (by simp [hq])) (μ := μ) hr.tail.2 h1
     exact ⟨h2.1, h2.2.trans (by simp [Act.put])⟩

def jumpOf : AX → Option Code
 | .normal => none
 | .exit id => some (.exit id)
 | .ret => some .ret

/-- How things stand between two rounds, or behind the last one. -/
def RangeSt (T : Tab) (n0 : Nat) (w : World) (M : Nat → Prop) (μ : Inj) (H : Heap) (n1 l : Nat) (B : Nat → Prop) (rec : LoopState → Option Code → Loop) (ds : List Deferred) (Hk : Heap) (jump : Option Code) (F : Nat → Prop) (W : World) (M' : Nat → Prop) : Prop :=
 ∃ μ', Step T.gid n0 w M μ H W M' μ' Hk ∧ (∀ c, F c ↔ (c < n1 ∨ Held μ' Hk c)) ∧ W.heap[l]? = some (.loop (rec (if jump.isNone then .ready else .done) jump)) ∧ M' l ∧ n1 ≤ W.heap.size ∧ DefOk B W M' ds

section
variable {n0 : Nat} {w : World} {M : Nat → Prop} {μ : Inj} {H : Heap} {n1 l : Nat} {B : Nat → Prop} {rec : LoopState → Option Code → Loop} {ds : List Deferred} {Hk : Heap} {jump : Option Code} {F : Nat → Prop} {W : World} {M' : Nat → Prop}

theorem RangeSt.bound (h : RangeSt T n0 w M μ H n1 l B rec ds Hk jump F W M') : ∀ c, F c → c < W.heap.size := by
 obtain ⟨μ', st, hF, _, _, hn, _⟩ := h
 intro c hc
 rcases (hF c).1 hc with h | h
 · omega
 · exact h.lt st.sim

theorem RangeSt.stay (h : RangeSt T n0 w M μ H n1 l B rec ds Hk jump F W M') (hw : w.heap.size ≤ n1) (hl1 : l < n1) (hds : ∀ D, ({ target := .collected D, args := #[] } : Deferred) ∈ ds → D < n1) {W2 : World} {M2 : Nat → Prop} (k : Idle F W M' W2 M2) : RangeSt T n0 w M μ H n1 l B rec ds Hk jump F W2 M2 := by
 obtain ⟨μ', st, hF, hl, hM, hn, hd⟩ := h
 obtain ⟨e1, e2⟩ := k.same l (by omega) ((hF l).2 (.inl hl1))
 exact ⟨μ', st.poke k (fun c hc => (hF c).2 (.inr hc)) (fun c hc => (hF c).2 (.inl (by omega))), hF, e1.trans hl, e2 hM, Nat.le_trans hn k.keep.size, hd.idle k fun D hD => (hF D).2 (.inl (hds D hD))⟩
end

/-- A block that is no cells outlives a step. -/
theorem Step.other {gid : Gid} {n0 : Nat} {w w' : World} {M M' : Nat → Prop} {μ μ' : Inj} {H H' : Heap} (st : Step gid n0 w M μ H w' M' μ' H') (hs : Sim gid w M μ H) {l : Nat} {o : Obj} (ho : w.heap[l]? = some o) (hc : ∀ arr e fr, o ≠ .cells arr e fr) (hM : M l) : w'.heap[l]? = some o ∧ M' l := by
 have nh : ∀ b base z, μ b = some (l, base, z) → ¬ wrAt H b := fun b base z hb hw => by
   obtain ⟨arr, e, h1⟩ := Held.cells hs ⟨b, base, z, hb, hw.alive⟩
   rw [ho] at h1
   injection h1 with h1
   exact hc _ _ _ h1
 have hlt := (Array.getElem?_eq_some_iff.1 ho).1
 exact ⟨(st.frame l hlt nh).trans ho, st.keepM l hlt hM nh⟩

/-- One round. -/
theorem range_round {n0 nt : Nat} {w : World} {M : Nat → Prop} {μ : Inj} {H : Heap} {n1 l : Nat} {B : Nat → Prop} {ds : List Deferred} {fnn : FuncId} {act : Act} {PS : Array Tmp} {A C : Code} {blk : Nat} {a c : AC} {E : Env}
   (g1 : comp T nt A = some a) (g2 : comp T nt C = some c) (f1 : a.flat = true) (f2 : c.flat = true) (hps : ∀ p ∈ PS.toList, p < nt) (hn : n0 ≤ H.length) (ht : nt ≤ act.tmps.size) (hs : Sim T.gid w M μ H) (hE : ERel T.gid w M μ act.tmps E)
   (hw : w.heap.size ≤ l) (hl1 : l < n1)
   {Hk : Heap} {F : Nat → Prop} {W : World} {M' : Nat → Prop} {G : Nat → Prop} {args : Array Value} {vs : List V} {x : AX} {H2 : Heap}
   (hSt : RangeSt T n0 w M μ H n1 l B (fun st pe => { state := st, pending := pe, fn := fnn, tmps := act.tmps, params := PS, assign := A, body := C, defers := blk }) ds Hk none F W M') (hargs : Rs T.gid W M' (fun _ => none) args.toList vs) (hG : ∀ c, G c → ¬ F c ∧ c < W.heap.size)
   (hR : RndSem T n0 PS.toList a c vs E Hk x H2) :
   YieldR T l args W fun e W2 => ∃ (M2 F2 : Nat → Prop), Idle G W M' W2 M2 ∧ (∀ c, F2 c → F c ∨ W.heap.size ≤ c) ∧ e = .returned (.bool (jumpOf x).isNone) ∧
     RangeSt T n0 w M μ H n1 l B (fun st pe => { state := st, pending := pe, fn := fnn, tmps := act.tmps, params := PS, assign := A, body := C, defers := blk }) ds H2 (jumpOf x) F2 W2 M2 := by
 obtain ⟨rec, hrec⟩ : ∃ rec : LoopState → Option Code → Loop, rec = fun st pe => { state := st, pending := pe, fn := fnn, tmps := act.tmps, params := PS, assign := A, body := C, defers := blk } := ⟨_, rfl⟩
 rw [← hrec] at hSt ⊢
 obtain ⟨μk, st, hF, hl, hMl, hn1, hd⟩ := hSt
 obtain ⟨E1, Ha, E2, hlen, sa, sc⟩ := hR
 simp only [Option.isNone_none, if_true] at hl
 have hsz : args.size = PS.size := by
   have h5 := hargs.1
   have h6 : PS.toList.length = PS.size := by simp
   have h7 : args.toList.length = args.size := by simp
   omega
 have hy := run_yield (P := T.P) (args := args) hl (by rw [hrec]; exact hsz)
 rw [hrec] at hy
 refine ⟨fnn, _, A, C, hy, roundIn_of_wpIn trivial ?_⟩
 have hb := bind_rel (μ := μk) PS.toList args.toList vs act.tmps E (fun p hp => Nat.lt_of_lt_of_le (hps p hp) ht) hargs (fun t => st.r hs (hE t))
 have he : (PS.zip args).foldl (fun tmps (x : Nat × Value) => match x with | (t, a) => tmps.setIfInBounds t a) act.tmps = (PS.toList.zip args.toList).foldl (fun t (p : Nat × Value) => t.setIfInBounds p.1 p.2) act.tmps := by
   rw [← Array.foldl_toList, Array.toList_zip]
 have hnh : ∀ {w' : World} {M'' : Nat → Prop} {μ' : Inj} {H' : Heap} {r : Loop}, Sim T.gid w' M'' μ' H' → w'.heap[l]? = some (.loop r) → ∀ c, Held μ' H' c → c ≠ l := by
   intro w' M'' μ' H' r hs' hl' c hc e
   subst e
   obtain ⟨arr, et, h1⟩ := hc.cells hs'
   rw [hl'] at h1
   cases h1
 have hnd : ∀ {w' : World} {M'' : Nat → Prop} {ds' : List Deferred} {B' : Nat → Prop} {r : Loop}, DefOk B' w' M'' ds' → w'.heap[l]? = some (.loop r) → ∀ D, ({ target := .collected D, args := #[] } : Deferred) ∈ ds' → D ≠ l := by
   intro w' M'' ds' B' r hd' hl' D hD e
   subst e
   have := hd'.at_ hD
   rw [hl'] at this
   cases this
 refine sa.2.1 (some l) (fun _ => False) nt A _ W M' μk _ g1 (.inr f1) (Nat.le_trans hn st.len) ?_ st.sim ?_ (DefOk.nil _ _ _) (.inl f1) ?_
 · show nt ≤ Array.size _
   rw [he, hb.2]; exact ht
 · show ERel T.gid W M' μk _ _
   rw [he]; exact hb.1
 intro a1 Wa Ma μa sta hEa hda hta
 obtain ⟨hla, hMa⟩ := sta.other st.sim hl (by intro _ _ _ e; cases e) hMl
 have ib : Idle (fun c => c ≠ l) Wa Ma (Wa.putObj l (.loop { rec .ready none with state := .busy })) Ma := Idle.putObj hla (by intro _ _ _ e; cases e) hMa (fun h => h rfl)
 have hlb : (Wa.putObj l (.loop { rec .ready none with state := .busy })).heap[l]? = some (.loop { rec .ready none with state := .busy }) := World.putObj_heap_same (Array.getElem?_eq_some_iff.1 hla).1
 show ∃ w₂, _ ∧ _
 refine ⟨_, run_beginRound hla (by rw [hrec]), ?_⟩
 generalize hWb : Wa.putObj l (.loop { rec .ready none with state := .busy }) = Wb at *
 have sB := (st.trans sta).poke ib (hnh sta.sim hla) (fun c hc => by omega)
 have szb : Wb.heap.size = Wa.heap.size := by rw [← hWb]; simp
 refine sc.2.1 (some l) (fun _ => False) nt C a1 Wb Ma μa _ g2 (.inr f2) (Nat.le_trans hn (Nat.le_trans st.len sta.len)) hta sB.sim (fun t => ib.r (hEa t)) (hda.idle ib (hnd hda hla)) (.inl f2) ?_
 intro a2 Wc Mc μc stc hEc hdc htc
 obtain ⟨hlc, hMc⟩ := stc.other sB.sim hlb (by intro _ _ _ e; cases e) hMa
 have fin : ∀ jump : Option Code, jumpOf x = jump → (Instr.endRound l jump).run T.P Wc = .ok (.bool jump.isNone) (Wc.putObj l (.loop (rec (if jump.isNone then .ready else .done) jump))) ∧
     ∃ (M2 F2 : Nat → Prop), Idle G W M' (Wc.putObj l (.loop (rec (if jump.isNone then .ready else .done) jump))) M2 ∧ (∀ c, F2 c → F c ∨ W.heap.size ≤ c) ∧ Ending.returned (.bool jump.isNone) = .returned (.bool (jumpOf x).isNone) ∧
       RangeSt T n0 w M μ H n1 l B rec ds H2 (jumpOf x) F2 (Wc.putObj l (.loop (rec (if jump.isNone then .ready else .done) jump))) M2 := by
   intro jump hj
   have hrun := run_endRound (P := T.P) jump hlc
   have id : Idle (fun c => c ≠ l) Wc Mc (Wc.putObj l (.loop (rec (if jump.isNone then .ready else .done) jump))) Mc := Idle.putObj hlc (by intro _ _ _ e; cases e) hMc (fun h => h rfl)
   have hld : (Wc.putObj l (.loop (rec (if jump.isNone then .ready else .done) jump))).heap[l]? = some (.loop (rec (if jump.isNone then .ready else .done) jump)) := World.putObj_heap_same (Array.getElem?_eq_some_iff.1 hlc).1
   have szd : (Wc.putObj l (.loop (rec (if jump.isNone then .ready else .done) jump))).heap.size = Wc.heap.size := by simp
   refine ⟨by rw [hrec] at hrun ⊢; exact hrun, Mc, fun c => c < n1 ∨ Held μc H2 c, ?_, ?_, by rw [hj], μc, (sB.trans stc).poke id (hnh stc.sim hlc) (fun c hc => by omega), fun c => Iff.rfl, by rw [hj]; exact hld, hMc, ?_, ?_⟩
   · have h1 : ∀ c, G c → ¬ Held μk Hk c ∧ c ≠ l := fun c hg => ⟨fun hh => (hG c hg).1 ((hF c).2 (.inr hh)), fun e => (hG c hg).1 ((hF c).2 (.inl (by omega)))⟩
     refine (((sta.idle st.sim fun c hg => (h1 c hg).1).trans (ib.mono fun c hg => (h1 c hg).2)).trans (stc.idle sB.sim fun c hg hh => ?_)).trans (id.mono fun c hg => (h1 c hg).2)
     rcases sta.held hh with h2 | h2
     · exact (h1 c hg).1 h2
     · have := (hG c hg).2; omega
   · intro c hc
     rcases hc with hc | hc
     · exact .inl ((hF c).2 (.inl hc))
     · rcases stc.held hc with h2 | h2
       · rcases sta.held h2 with h3 | h3
         · exact .inl ((hF c).2 (.inr h3))
         · exact .inr h3
       · exact .inr (by have := sta.size; omega)
   · have := sta.size; have := stc.size; omega
   · have d1 := hd.step st.sim sta
     have d2 := (d1.idle ib (hnd d1 hla)).step sB.sim stc
     exact d2.idle id (hnd d2 hlc)
 cases x with
 | normal => obtain ⟨h1, h2⟩ := fin none rfl; exact ⟨_, _, h1, h2⟩
 | ret => obtain ⟨h1, h2⟩ := fin (some .ret) rfl; exact ⟨_, _, h1, h2⟩
 | exit id => obtain ⟨h1, h2⟩ := fin (some (.exit id)) rfl; exact ⟨_, _, h1, h2⟩

theorem jumpOf_code {x : AX} (hx : x ≠ .normal) : ∃ c, jumpOf x = some c ∧ ((x = .ret ∧ c = .ret) ∨ ∃ id, x = .exit id ∧ c = .exit id) := by
 cases x with
 | normal => exact absurd rfl hx
 | ret => exact ⟨_, rfl, .inl ⟨rfl, rfl⟩⟩
 | exit id => exact ⟨_, rfl, .inr ⟨id, rfl, rfl⟩⟩

/-- The statement. -/
theorem range_sound {n0 : Nat} {x : X} {ps : List Nat} {a c : AC} {E : Env} {H : Heap} {g : Nat} {caps : List V} {L : List (List V)} {y : AX} {H1 : Heap} (hx : getX E x = .fn g caps) (hp : caps.all V.pure = true)
   (hi : ∀ fid, T.gid fid = some g → IterOk T fid caps L) (hl : H.length ≤ H1.length) (hr : RndsSem T n0 ps a c L E H y H1) : CodeSem T n0 (.rfor x ps a c) E H y E H1 := by
 refine ⟨hl, ?_, fun c' e => by cases e⟩
 intro ro B nt C act w M μ Q hc hro hn ht hs hE hd hB he
 obtain rfl : ro = none := hro.resolve_right (fun h => by cases h)
 have hB2 : ∀ D, w.heap.size ≤ D → B D := hB.resolve_left (fun h => by cases h)
 obtain ⟨X, PS, A, C', rfl, g0, rfl, g1, g2, f1, f2, hps⟩ := comp_inv hc
 have hxr := cX_sound hs.tab g0 hE
 rw [hx] at hxr
 obtain ⟨fid, cs, hfv, hg, hcs⟩ := hxr.inv_fn
 obtain ⟨fn, i1, i2, i3, hit⟩ := hi fid hg
 obtain ⟨m, Hs, hH0, hgo, hend⟩ := hr
 refine wpIn_rangeFunc fun fnn hfn => ?_
 obtain ⟨rec, hrec⟩ : ∃ rec : LoopState → Option Code → Loop, rec = fun st pe => { state := st, pending := pe, fn := fnn, tmps := act.tmps, params := PS, assign := A, body := C', defers := w.heap.size } := ⟨_, rfl⟩
 obtain ⟨W1, hW1⟩ : ∃ W1, (w.alloc (.deferred (some []))).alloc (.loop (rec .ready none)) = W1 := ⟨_, rfl⟩
 have sz1 : (w.alloc (.deferred (some []))).heap.size = w.heap.size + 1 := by simp
 have szW : W1.heap.size = w.heap.size + 2 := by rw [← hW1]; simp
 have s1 : Step T.gid n0 w M μ H W1 (fun c => (M c ∨ c = w.heap.size) ∨ c = w.heap.size + 1) μ H := by
   have := (Step.grow (n0 := n0) hs (.deferred (some []))).trans (Step.grow (Step.grow (n0 := n0) hs (.deferred (some []))).sim (.loop (rec .ready none)))
   rw [sz1, hW1] at this
   exact this
 have hL1 : W1.heap[w.heap.size + 1]? = some (.loop (rec .ready none)) := by
   rw [← hW1, ← sz1]; exact World.alloc_heap_new _ _
 have hK1 : W1.heap[w.heap.size]? = some (.deferred (some [])) := by
   rw [← hW1, heap_alloc_old _ _ _ (by rw [sz1]; omega)]; exact World.alloc_heap_new _ _
 obtain ⟨ds, hds⟩ : ∃ ds : List Deferred, ds = { target := .collected w.heap.size, args := #[] } :: act.defers := ⟨_, rfl⟩
 have hd1 : DefOk B W1 (fun c => (M c ∨ c = w.heap.size) ∨ c = w.heap.size + 1) ds := by
   have h0 := hd.step hs s1
   obtain ⟨Ds, e1, e2, e3⟩ := h0
   obtain ⟨Ds', e1', _, e3'⟩ := hd
   refine ⟨w.heap.size :: Ds, by rw [hds, e1]; rfl, List.nodup_cons.2 ⟨fun hm => ?_, e2⟩, fun D hD => ?_⟩
   · have : ({ target := .collected w.heap.size, args := #[] } : Deferred) ∈ Ds.map (fun D => ({ target := .collected D, args := #[] } : Deferred)) := List.mem_map.2 ⟨_, hm, rfl⟩
     rw [← e1, e1'] at this
     obtain ⟨D', hm', e⟩ := List.mem_map.1 this
     injection e with e _
     injection e with e
     have := (Array.getElem?_eq_some_iff.1 (e3' D' hm').2.1).1
     omega
   · rcases List.mem_cons.1 hD with rfl | hD
     · exact ⟨hB2 _ (Nat.le_refl _), hK1, .inl (.inr rfl)⟩
     · exact e3 D hD
 have hdn : ∀ D, ({ target := .collected D, args := #[] } : Deferred) ∈ ds → D < W1.heap.size := fun D hD => (Array.getElem?_eq_some_iff.1 (hd1.at_ hD)).1
 have harr : (#[.func (.yield (w.heap.size + 1)) #[] #[]] ++ cs : Array Value) = #[.func (.yield (w.heap.size + 1)) #[] #[]] ++ cs := rfl
 refine ⟨w.heap.size + 1, [{ target := .collected w.heap.size, args := #[] }], W1, { target := .fn (.func fid) cs, args := #[.func (.yield (w.heap.size + 1)) #[] #[]] }, W1, fid,
   #[.func (.yield (w.heap.size + 1)) #[] #[]] ++ cs, W1, ?_, ?_, fun _ _ => trivial, ?_, fun h => by simp [fnc] at h, ?_⟩
 · rw [← hW1, hrec]; exact run_enterLoop_outer _ _ _ _ _
 · have hv : resolve act.eval (rangeCall X (w.heap.size + 1)) 0 = pure { target := .fn (.func fid) cs, args := #[.func (.yield (w.heap.size + 1)) #[] #[]] } := by
     simp only [resolve, hfv, Deferred.ofValue]
     simp [Act.eval]
   rw [hv]
   rfl
 · have e1 : (fn.name == "runtime.NumGoroutine") = false := by simpa using i2
   have hb : fn.body.isNone = false := by cases hq : fn.body <;> simp [hq] at i3 ⊢
   simp only [invoke, callFunc, Sem.run_bind, run_program, Result.andThen_ok, i1]
   simp [e1, hb]
 have hwl : w.heap.size ≤ w.heap.size + 1 := by omega
 have hl1 : w.heap.size + 1 < W1.heap.size := by omega
 have ctx : ItCtx T L (w.heap.size + 1) (fun k F W M' => k ≤ m ∧ RangeSt T n0 w M μ H W1.heap.size (w.heap.size + 1) B rec ds (Hs k) none F W M')
     (fun F W M' => y ≠ .normal ∧ RangeSt T n0 w M μ H W1.heap.size (w.heap.size + 1) B rec ds H1 (jumpOf y) F W M') := by
   refine ⟨fun k F W M' W2 M2 h k' => ⟨h.1, h.2.stay (by omega) hl1 hdn k'⟩, fun F W M' W2 M2 h k' => ⟨h.1, h.2.stay (by omega) hl1 hdn k'⟩, fun k F W M' h => h.2.bound, fun F W M' h => h.2.bound, ?_⟩
   intro k F W M' G args vs hJ hk hargs hG
   obtain ⟨hkm, hSt⟩ := hJ
   have hkL := (List.getElem?_eq_some_iff.1 hk).1
   rw [hrec] at hSt
   by_cases hlt : k < m
   · obtain ⟨f, t, as, bd, hy, hR⟩ := range_round g1 g2 f1 f2 hps hn ht hs hE hwl hl1 hSt hargs hG (hgo k vs hlt hk)
     refine ⟨f, t, as, bd, hy, hR.mono fun e W2 hq => ?_⟩
     obtain ⟨M2, F2, q1, q2, q3, q4⟩ := hq
     exact ⟨M2, F2, q1, q2, .inl ⟨q3, hlt, by rw [hrec]; exact q4⟩⟩
   · have hkm' : k = m := by omega
     subst hkm'
     rcases hend with ⟨h1, _, _⟩ | ⟨vs', h1, h2, h3⟩
     · omega
     · rw [hk] at h1
       injection h1 with h1
       subst h1
       obtain ⟨f, t, as, bd, hy, hR⟩ := range_round g1 g2 f1 f2 hps hn ht hs hE hwl hl1 hSt hargs hG h3
       refine ⟨f, t, as, bd, hy, hR.mono fun e W2 hq => ?_⟩
       obtain ⟨M2, F2, q1, q2, q3, q4⟩ := hq
       obtain ⟨c0, hc0, _⟩ := jumpOf_code h2
       exact ⟨M2, F2, q1, q2, .inr ⟨by rw [q3, hc0]; rfl, h2, by rw [hrec]; exact q4⟩⟩
 have hcs0 : Rs T.gid W1 (fun c => (M c ∨ c = w.heap.size) ∨ c = w.heap.size + 1) (fun _ => none) cs.toList caps :=
   ⟨hcs.1, fun i v cc hv hcc => (s1.r hs (hcs.2 i v cc hv hcc)).pureAny (List.all_eq_true.1 hp cc (List.mem_of_getElem? hcc)) _⟩
 refine (hit _ _ _ ctx (fun c => c < W1.heap.size ∨ Held μ H c) W1 _ cs s1.sim.tab hcs0 ⟨Nat.zero_le _, μ, by rw [hH0]; exact s1, fun c => by rw [hH0], hL1, .inr rfl, Nat.le_refl _, hd1⟩).mono ?_
 rintro e W3 ⟨⟨v, rfl⟩, F', M3, hJ⟩
 have done : ∀ {Hk : Heap} {x : AX}, x = y → Hk = H1 → RangeSt T n0 w M μ H W1.heap.size (w.heap.size + 1) B rec ds Hk (jumpOf x) F' W3 M3 → rangePost (fnc none) 0 T.P (w.heap.size + 1) Q { act with defers := [{ target := .collected w.heap.size, args := #[] }] ++ act.defers } (.returned v) W3 := by
   intro Hk x hxy hk hSt
   subst hxy; subst hk
   obtain ⟨μ3, st3, hF3, hl3, hM3, hn3, hd3⟩ := hSt
   have hne : (rec (if (jumpOf x).isNone then .ready else .done) (jumpOf x)).state ≠ .busy := by rw [hrec]; cases x <;> simp [jumpOf]
   have hrun := run_endLoop (P := T.P) hl3 hne
   have id : Idle (fun c => c ≠ w.heap.size + 1) W3 M3 (W3.putObj (w.heap.size + 1) (.loop { rec (if (jumpOf x).isNone then .ready else .done) (jumpOf x) with state := .exhausted })) M3 := Idle.putObj hl3 (by intro _ _ _ e; cases e) hM3 (fun h => h rfl)
   have st4 := st3.poke id (fun c hc e => by
     subst e
     obtain ⟨arr, et, h1⟩ := hc.cells st3.sim
     rw [hl3] at h1
     cases h1) (fun c hc => by omega)
   have hd4 : DefOk B (W3.putObj (w.heap.size + 1) (.loop { rec (if (jumpOf x).isNone then .ready else .done) (jumpOf x) with state := .exhausted })) M3 ds := hd3.idle id fun D hD e => by
     subst e
     have := hd3.at_ hD
     rw [hl3] at this
     cases this
   have hQ := he { act with defers := [{ target := .collected w.heap.size, args := #[] }] ++ act.defers } _ M3 μ3 st4 (fun t => st4.r hs (hE t)) (by rw [hds] at hd4; exact hd4) ht
   have hpe : (rec (if (jumpOf x).isNone then .ready else .done) (jumpOf x)).pending = jumpOf x := by rw [hrec]
   generalize hW4 : W3.putObj (w.heap.size + 1) (.loop { rec (if (jumpOf x).isNone then .ready else .done) (jumpOf x) with state := .exhausted }) = W4 at *
   rw [hpe] at hrun
   refine ⟨jumpOf x, W4, hrun, ?_⟩
   cases x with
   | normal => exact hQ
   | ret => exact wpIn_ret hQ
   | exit id => exact wpIn_exit hQ
 rcases hJ with ⟨hkm, hSt⟩ | ⟨hne, hSt⟩
 · rcases hend with ⟨h1, h2, h3⟩ | ⟨vs', h1, _, _⟩
   · rw [← h1] at hSt
     exact done (x := .normal) h2.symm h3.symm hSt
   · have := (List.getElem?_eq_some_iff.1 h1).1
     omega
 · exact done rfl rfl hSt

end Go.Abs

/- The induction over what abstract code does. -/
namespace Go.Abs

variable {T : Tab} {S : AProg}

/-- The results of a function, read where they lie. -/
theorem resV1_sound {w : World} {M : Nat → Prop} {μ : Inj} {H : Heap} (hs : Sim T.gid w M μ H) {tmps : Array Value} {E : Env} (hE : ERel T.gid w M μ tmps E) {r : ResultVar} {c : RV} (hc : cRV T r = some c) {v : V} (h : resV1 E H c = some v) :
   ∃ v', (match r with | .tmp t => pure (tmps.getD t Go.undef) | .cell a t => do loadVar t (← asAddr (tmps.getD a Go.undef)) : Sem Value).run T.P w = .ok v' w ∧ R T.gid w M μ v' v := by
 cases r with
 | tmp t =>
   simp only [cRV] at hc
   injection hc with hc; subst hc
   simp only [resV1] at h
   injection h with h; subst h
   exact ⟨_, rfl, hE t⟩
 | cell a t =>
   simp only [cRV] at hc
   obtain ⟨ag, h1, hc⟩ := bind_some_inv hc
   obtain ⟨z, h2, rfl⟩ := map_some_inv hc
   simp only [resV1] at h
   obtain ⟨⟨v1, Ha⟩, h3, h4⟩ := map_some_inv h
   simp only at h4
   subst h4
   have hx := hE a
   simp only [stp, getX] at h3
   split at h3
   · rename_i cs hg
     rw [hg] at hx
     obtain ⟨v1, h4, h5⟩ := map_some_inv h3
     injection h5 with h5 h6; subst h5; subst h6
     obtain ⟨ad, he, hp⟩ := hx.inv_eptr
     obtain ⟨v', h7, h8⟩ := run_loadVar h1 h2 (cells_eptr (μ := μ) hp) h4
     exact ⟨v', by simp only [he, asAddr, pure_bind]; exact h7, h8⟩
   · rename_i b i off hg
     rw [hg] at hx
     split at h3
     · rename_i k hk
       split at h3
       · rename_i e he
         obtain ⟨v1, h4, h5⟩ := map_some_inv h3
         injection h5 with h5 h6; subst h5; subst h6
         obtain ⟨c, base, zb, hμ, hv⟩ := hx.inv_ptr
         obtain ⟨v', h7, h8⟩ := run_loadVar h1 h2 (cells_ptr hs hμ hk he) h4
         exact ⟨v', by simp only [hv, asAddr, pure_bind]; exact h7, h8⟩
       · cases h3
     · cases h3
   · cases h3

theorem resVs_sound {w : World} {M : Nat → Prop} {μ : Inj} {H : Heap} (hs : Sim T.gid w M μ H) {tmps : Array Value} {E : Env} (hE : ERel T.gid w M μ tmps E) : ∀ (rs : List ResultVar) {cs : List RV} (_ : cRVs T rs = some cs) {vs : List V} (_ : resVs E H cs = some vs),
   ∃ vs', (rs.mapM fun r => (match r with | .tmp t => pure (tmps.getD t Go.undef) | .cell a t => do loadVar t (← asAddr (tmps.getD a Go.undef)) : Sem Value)).run T.P w = .ok vs' w ∧ Rs T.gid w M μ vs' vs
 | [], cs, hc, vs, h => by
   simp only [cRVs] at hc
   injection hc with hc; subst hc
   simp only [resVs] at h
   injection h with h; subst h
   exact ⟨[], rfl, rfl, by simp⟩
 | r :: rs, cs, hc, vs, h => by
   simp only [cRVs] at hc
   obtain ⟨c, h1, hc⟩ := bind_some_inv hc
   obtain ⟨cs', h2, h3⟩ := bind_some_inv hc
   injection h3 with h3; subst h3
   simp only [resVs] at h
   obtain ⟨v, h4, h⟩ := bind_some_inv h
   obtain ⟨vs', h5, h6⟩ := bind_some_inv h
   injection h6 with h6; subst h6
   obtain ⟨x, g1, g2⟩ := resV1_sound hs hE h1 h4
   obtain ⟨xs, g3, g4⟩ := resVs_sound hs hE rs h2 h5
   refine ⟨x :: xs, ?_, Rs.cons g2 g4⟩
   rw [List.mapM_cons]
   simp only [Sem.run_bind, g1, Result.andThen_ok, g3, Sem.run_pure]

theorem resV_sound {w : World} {M : Nat → Prop} {μ : Inj} {H : Heap} (hs : Sim T.gid w M μ H) {fn : Func} {tmps : Array Value} {E : Env} (hE : ERel T.gid w M μ tmps E) {cs : List RV} (hc : cRVs T fn.results.toList = some cs) {v : V} (h : resV E H cs = some v) :
   ∃ v', (results fn tmps).run T.P w = .ok v' w ∧ R T.gid w M μ v' v := by
 unfold resV at h
 obtain ⟨vs, h1, h2⟩ := map_some_inv h
 obtain ⟨xs, g1, g2⟩ := resVs_sound hs hE _ hc h1
 have hrun : (fn.results.mapM fun r => (match r with | .tmp t => pure (tmps.getD t Go.undef) | .cell a t => do loadVar t (← asAddr (tmps.getD a Go.undef)) : Sem Value)).run T.P w = .ok xs.toArray w := by
   rw [Array.mapM_eq_mapM_toList]
   simp only [Sem.run_map, g1, Result.andThen_ok]
 refine ⟨if h : xs.toArray.size = 1 then xs.toArray[0] else .tuple xs.toArray, ?_, ?_⟩
 · unfold results
   rw [Sem.run_bind]
   erw [hrun]
   rfl
 · have hl := g2.1
   match vs, xs, h2, hl, g2 with
   | [v0], [x0], h2, _, g2 =>
     simp only at h2
     subst h2
     simp only [List.size_toArray, List.length_singleton, dite_true, List.getElem_toArray, List.getElem_cons_zero]
     exact g2.2 0 x0 v0 rfl rfl
   | [], [], h2, _, g2 =>
     simp only at h2
     subst h2
     exact .tup #[] [] rfl (by simp)
   | v0 :: v1 :: vs, x0 :: x1 :: xs, h2, _, g2 =>
     simp only at h2
     subst h2
     rw [dif_neg (by simp)]
     exact .tup _ _ (by simpa using g2.1) (fun i x y hx hy => g2.2 i x y (by simpa using hx) hy)

theorem ends_trans {n0 nt : Nat} {B : Nat → Prop} {w w1 : World} {M M1 : Nat → Prop} {μ μ1 : Inj} {H H1 : Heap} {x : AX} {E' : Env} {H' : Heap} {Q : Exit → Act → World → Prop} (h : Ends T n0 nt B w M μ H x E' H' Q) (st : Step T.gid n0 w M μ H w1 M1 μ1 H1) : Ends T n0 nt B w1 M1 μ1 H1 x E' H' Q :=
 fun a' w' M' μ' s2 hE hd hn => h a' w' M' μ' (st.trans s2) hE hd hn

theorem codeSem_of {n0 : Nat} {c : AC} {E : Env} {H : Heap} {x : AX} {E' : Env} {H' : Heap} (hl : H.length ≤ H'.length) (hc : ∀ c', c ≠ .loop c')
   (h : Runs T n0 c E H x E' H' (fun ro C Q a w => C.wpIn (fnc ro) 0 T.P Q a w)) : CodeSem T n0 c E H x E' H' := ⟨hl, h, fun c' e => absurd e (hc c')⟩

theorem frzC_len {H : Heap} {c c' : V} {H1 : Heap} (h : frzC H c = some (c', H1)) : H1.length = H.length := (frzC_append (acc := []) h).2
theorem frzCs_len : ∀ (cs : List V) {H : Heap} {cs' : List V} {H1 : Heap}, frzCs H cs = some (cs', H1) → H1.length = H.length
 | [], H, cs', H1, h => by simp only [frzCs] at h; injection h with h; injection h with _ h; rw [h]
 | c :: cs, H, cs', H1, h => by
   simp only [frzCs] at h
   obtain ⟨⟨c', Ha⟩, h1, h⟩ := bind_some_inv h
   obtain ⟨⟨cs'', Hb⟩, h2, h3⟩ := bind_some_inv h
   injection h3 with h3; injection h3 with _ h4
   rw [← h4, frzCs_len cs h2, frzC_len h1]
theorem frzV_len {H : Heap} {c c' : V} {H1 : Heap} (h : frzV H c = some (c', H1)) : H1.length = H.length := by
 cases c <;> simp only [frzV] at h <;> first
   | exact frzC_len h
   | (obtain ⟨⟨cs', Ha⟩, h1, h2⟩ := bind_some_inv h
      injection h2 with h2; injection h2 with _ h3
      rw [← h3]; exact frzCs_len _ h1)
theorem frzVs_len : ∀ (cs : List V) {H : Heap} {cs' : List V} {H1 : Heap}, frzVs H cs = some (cs', H1) → H1.length = H.length
 | [], H, cs', H1, h => by simp only [frzVs] at h; injection h with h; injection h with _ h; rw [h]
 | c :: cs, H, cs', H1, h => by
   simp only [frzVs] at h
   obtain ⟨⟨c', Ha⟩, h1, h⟩ := bind_some_inv h
   obtain ⟨⟨cs'', Hb⟩, h2, h3⟩ := bind_some_inv h
   injection h3 with h3; injection h3 with _ h4
   rw [← h4, frzVs_len cs h2, frzV_len h1]
theorem pureIn_len {H : Heap} {c c' : V} {H1 : Heap} (h : pureIn H c = some (c', H1)) : H1.length = H.length := by
 simp only [pureIn] at h
 obtain ⟨⟨c1, Ha⟩, h1, h2⟩ := bind_some_inv h
 simp only [] at h2
 split at h2
 · injection h2 with h2; injection h2 with _ h3; rw [← h3]; exact frzV_len h1
 · cases h2
theorem pureIns_len : ∀ (cs : List V) {H : Heap} {cs' : List V} {H1 : Heap}, pureIns H cs = some (cs', H1) → H1.length = H.length
 | [], H, cs', H1, h => by simp only [pureIns] at h; injection h with h; injection h with _ h; rw [h]
 | c :: cs, H, cs', H1, h => by
   simp only [pureIns] at h
   obtain ⟨⟨c', Ha⟩, h1, h⟩ := bind_some_inv h
   obtain ⟨⟨cs'', Hb⟩, h2, h3⟩ := bind_some_inv h
   injection h3 with h3; injection h3 with _ h4
   rw [← h4, pureIns_len cs h2, pureIn_len h1]
theorem ownC_len {n0 : Nat} {H acc : Heap} {c c' : V} {H1 acc1 : Heap} (h : ownC n0 H acc c = some (c', H1, acc1)) : H1.length = H.length := by
 have other : (frzC H c).bind (fun (c', H1) => if c'.cellPure = true then some (c', H1, acc) else none) = some (c', H1, acc1) → H1.length = H.length := by
   intro h
   obtain ⟨⟨c1, Ha⟩, h1, h2⟩ := bind_some_inv h
   simp only [] at h2
   split at h2
   · injection h2 with h2; injection h2 with _ h3; injection h3 with h3 _; rw [← h3]; exact frzC_len h1
   · cases h2
 cases c
 case nil =>
   simp only [ownC] at h
   injection h with h; injection h with _ h3; injection h3 with h3 _; rw [← h3]
 case ref b z off len =>
   simp only [ownC] at h
   split at h
   · split at h
     · injection h with h; injection h with _ h3; injection h3 with h3 _; rw [← h3]; simp
     · cases h
   · cases h
 all_goals exact other h
theorem ownCs_len {n0 : Nat} : ∀ (cs : List V) {H acc : Heap} {cs' : List V} {H1 acc1 : Heap}, ownCs n0 H acc cs = some (cs', H1, acc1) → H1.length = H.length
 | [], H, acc, cs', H1, acc1, h => by simp only [ownCs] at h; injection h with h; injection h with _ h; injection h with h _; rw [h]
 | c :: cs, H, acc, cs', H1, acc1, h => by
   simp only [ownCs] at h
   obtain ⟨⟨c', Ha, aa⟩, h1, h⟩ := bind_some_inv h
   obtain ⟨⟨cs'', Hb, ab⟩, h2, h3⟩ := bind_some_inv h
   injection h3 with h3; injection h3 with _ h4; injection h4 with h4 _
   rw [← h4, ownCs_len cs h2, ownC_len h1]
theorem ownV_len {n0 : Nat} {H acc : Heap} {c c' : V} {H1 acc1 : Heap} (h : ownV n0 H acc c = some (c', H1, acc1)) : H1.length = H.length := by
 cases c <;> simp only [ownV] at h <;> first
   | exact ownC_len h
   | (obtain ⟨⟨cs', Ha, aa⟩, h1, h2⟩ := bind_some_inv h
      injection h2 with h2; injection h2 with _ h3; injection h3 with h3 _
      rw [← h3]; exact ownCs_len _ h1)
theorem ownVs_len {n0 : Nat} : ∀ (cs : List V) {H acc : Heap} {cs' : List V} {H1 acc1 : Heap}, ownVs n0 H acc cs = some (cs', H1, acc1) → H1.length = H.length
 | [], H, acc, cs', H1, acc1, h => by simp only [ownVs] at h; injection h with h; injection h with _ h; injection h with h _; rw [h]
 | c :: cs, H, acc, cs', H1, acc1, h => by
   simp only [ownVs] at h
   obtain ⟨⟨c', Ha, aa⟩, h1, h⟩ := bind_some_inv h
   obtain ⟨⟨cs'', Hb, ab⟩, h2, h3⟩ := bind_some_inv h
   injection h3 with h3; injection h3 with _ h4; injection h4 with h4 _
   rw [← h4, ownVs_len cs h2, ownV_len h1]
theorem capCs_len : ∀ (cs : List V) {H : Heap} {cs' : List V} {H1 : Heap}, capCs H cs = some (cs', H1) → H1.length = H.length
 | [], H, cs', H1, h => by simp only [capCs] at h; injection h with h; injection h with _ h; rw [h]
 | c :: cs, H, cs', H1, h => by
   simp only [capCs] at h
   obtain ⟨⟨c', Ha⟩, h1, h⟩ := bind_some_inv h
   obtain ⟨⟨cs'', Hb⟩, h2, h3⟩ := bind_some_inv h
   injection h3 with h3; injection h3 with _ h4
   have e1 : Ha.length = H.length := by
     cases c <;> simp only [capC] at h1 <;> (repeat' split at h1) <;> first
       | (injection h1 with h1; injection h1 with _ h1; subst h1; simp)
       | cases h1
   rw [← h4, capCs_len cs h2, e1]
theorem fin_len {own : Bool} {n0 : Nat} {H : Heap} {v v2 : V} {H2 : Heap} (hl : n0 ≤ H.length) (h : fin own n0 H v = some (v2, H2)) : n0 ≤ H2.length := by
 unfold fin at h
 cases own with
 | true =>
   simp only [if_true] at h
   split at h
   · obtain ⟨⟨vs', H1, acc⟩, h1, h2⟩ := bind_some_inv h
     injection h2 with h2; injection h2 with _ h3
     have := ownVs_len _ h1
     rw [← h3]; simp; omega
   · obtain ⟨⟨vs', H1, acc⟩, h1, h2⟩ := bind_some_inv h
     injection h2 with h2; injection h2 with _ h3
     have := ownV_len h1
     rw [← h3]; simp; omega
 | false =>
   simp only [Bool.false_eq_true, if_false] at h
   split at h
   · obtain ⟨⟨vs', H1⟩, h1, h2⟩ := bind_some_inv h
     injection h2 with h2; injection h2 with _ h3
     have := pureIns_len _ h1
     rw [← h3]; simp; omega
   · obtain ⟨⟨cs', H1⟩, h1, h2⟩ := bind_some_inv h
     injection h2 with h2; injection h2 with _ h3
     have := capCs_len _ h1
     rw [← h3]; simp; omega
   · obtain ⟨⟨v', H1⟩, h1, h2⟩ := bind_some_inv h
     injection h2 with h2; injection h2 with _ h3
     have := pureIn_len h1
     rw [← h3]; simp; omega

theorem stStore_len {n0 z : Nat} {x y : V} {H : Heap} {v : V} {H1 : Heap} (h : stStore n0 z x y H = some (v, H1)) : H.length ≤ H1.length := by
 unfold stStore at h
 split at h
 · split at h
   · split at h
     · obtain ⟨⟨v1, Ha⟩, h1, h⟩ := bind_some_inv h
       have hla : Ha.length = H.length := by
         split at h1
         · exact pureIn_len h1
         · injection h1 with h1; injection h1 with _ h1; rw [h1]
       simp only [] at h
       split at h
       · split at h
         · split at h
           · injection h with h; injection h with _ h; rw [← h]; simp [hla]
           · cases h
         · cases h
       · cases h
     · cases h
   · cases h
 · cases h

theorem stp_len {n0 : Nat} {op : AOp} {E : Env} {H : Heap} {v : V} {H1 : Heap} (h : stp n0 op E H = some (v, H1)) : H.length ≤ H1.length := by
 by_cases hl : op.loud = false
 · by_cases hs : ∃ ag z t, op = .sload ag z t
   · obtain ⟨ag, z, t, rfl⟩ := hs
     simp only [stp] at h
     split at h
     · obtain ⟨u, _, h⟩ := map_some_inv h
       injection h with _ h; rw [h]; exact Nat.le_refl _
     · split at h
       · split at h
         · obtain ⟨u, _, h⟩ := bind_some_inv h
           split at h
           · injection h with h; injection h with _ h; rw [h]; exact Nat.le_refl _
           · cases h
         · cases h
       · cases h
     · cases h
   · rw [(stp_quiet hl (fun ag z t e => hs ⟨ag, z, t, e⟩) h).1]; exact Nat.le_refl _
 · cases op <;> try (exact absurd rfl hl)
   case box z x =>
     simp only [stp] at h
     split at h
     · injection h with h; injection h with _ h; rw [← h]; simp
     · cases h
   case new z x =>
     simp only [stp] at h
     split at h
     · injection h with h; injection h with _ h; rw [← h]; simp
     · cases h
   case bslice z len zero ps =>
     simp only [stp] at h
     split at h
     · obtain ⟨⟨vs, Ha⟩, h1, h⟩ := bind_some_inv h
       obtain ⟨el, h2, h3⟩ := map_some_inv h
       injection h3 with _ h3
       rw [← h3]
       simp [pureIns_len _ h1]
     · cases h
   case load ag z x =>
     simp only [stp] at h
     split at h
     · obtain ⟨q, h1, h2⟩ := map_some_inv h; injection h2 with _ h2; rw [h2]; exact Nat.le_refl _
     · split at h
       · split at h
         · obtain ⟨q, h1, h2⟩ := map_some_inv h; injection h2 with _ h2; rw [h2]; exact Nat.le_refl _
         · cases h
       · cases h
     · cases h
   case store z x y => exact stStore_len (by simpa only [stp] using h)
   case storeN z x y av =>
     simp only [stp] at h
     split at h
     · exact stStore_len h
     · cases h
   case mkslice z b zero l c =>
     simp only [stp] at h
     split at h
     · split at h
       · injection h with h; injection h with _ h; rw [← h]; simp
       · cases h
     · cases h
   case appendZ z b zero x m =>
     simp only [stp] at h
     split at h
     · split at h
       · injection h with h; injection h with _ h; rw [← h]; simp
       · cases h
     · cases h
   case append z b x y =>
     simp only [stp] at h
     obtain ⟨ys, h1, h⟩ := bind_some_inv h
     split at h
     · split at h
       · split at h
         · injection h with h; injection h with _ h; rw [h]; exact Nat.le_refl _
         · split at h
           · injection h with h; injection h with _ h; rw [← h]; simp
           · cases h
       · split at h
         · split at h
           · split at h
             · injection h with h; injection h with _ h; rw [h]; exact Nat.le_refl _
             · injection h with h; injection h with _ h; rw [← h]; simp
           · cases h
         · cases h
       · cases h
     · cases h
   case copy z x y =>
     simp only [stp] at h
     split at h
     · obtain ⟨ys, h1, h⟩ := bind_some_inv h
       split at h
       · split at h
         · injection h with h; injection h with _ h; rw [← h]; simp
         · cases h
       · cases h
     · cases h
   case call x q => simp [stp] at h

theorem prep_len {g : Nat} {H : Heap} {args vs : List V} {H1 : Heap} (h : prep S g H args = some (vs, H1)) : H1.length = H.length := by
 unfold prep at h
 split at h
 · split at h
   · injection h with h; injection h with _ h; rw [h]
   · exact frzVs_len _ h
 · exact frzVs_len _ h

theorem softOp_soft (bits : List Nat) (l : List AOper) (i : Nat) (o : AOper) : Soft (softOp bits l i o) o.op := by
 unfold softOp
 split
 · rename_i ag z t h
   rw [h]
   split
   · exact .load ag z t
   · exact .refl _
 · rename_i z a x h
   rw [h]
   split
   · exact .refl _
   · exact .store z a x _
 · rename_i z len zero parts h
   rw [h]
   split
   · rename_i els hl
     split
     · exact .lit hl
     · exact .refl _
   · exact .refl _
 · exact .refl _

theorem flagOps_len (late : Bool) (bits : List Nat) (l : List AOper) : (flagOps late bits l).length = l.length := by simp [flagOps, soften]
theorem finalOps_len (bits : List Nat) (l : List AOper) : (finalOps bits l).length = l.length := by unfold finalOps; split <;> exact flagOps_len _ _ _

theorem flagOps_get {late : Bool} {bits : List Nat} {l : List AOper} {i : Nat} {ao : AOper} (h : (flagOps late bits l)[i]? = some ao) : ∃ a0 sy op, l[i]? = some a0 ∧ Soft op a0.op ∧ ao = { a0 with sync := sy, op := op } := by
 unfold flagOps at h
 rw [List.getElem?_mapIdx] at h
 obtain ⟨a1, h1, h2⟩ := map_some_inv h
 unfold soften at h1
 rw [List.getElem?_mapIdx] at h1
 obtain ⟨a0, h3, h4⟩ := map_some_inv h1
 exact ⟨a0, syncOf late bits (soften bits l) i a1, softOp bits l i a0, h3, softOp_soft bits l i a0, by rw [← h2, ← h4]⟩

theorem finalOps_get {bits : List Nat} {l : List AOper} {i : Nat} {ao : AOper} (h : (finalOps bits l)[i]? = some ao) : ∃ a0 sy op, l[i]? = some a0 ∧ Soft op a0.op ∧ ao = { a0 with sync := sy, op := op } := by
 unfold finalOps at h
 split at h <;> exact flagOps_get h

theorem link_tail {ops : Array Oper} {os : List Oper} {o : Oper} {l : List AOper} {ao : AOper} (h : ∀ (i : Nat) (x : Oper) (y : AOper), (o :: os)[i]? = some x → (ao :: l)[i]? = some y → Link T ops x y) :
   Link T ops o ao ∧ ∀ (i : Nat) (x : Oper) (y : AOper), os[i]? = some x → l[i]? = some y → Link T ops x y :=
 ⟨h 0 o ao rfl rfl, fun i x y hx hy => h (i + 1) x y (by simpa using hx) (by simpa using hy)⟩

theorem E0_rel {w : World} {M : Nat → Prop} {μ : Inj} {vs : List Value} {args : List V} (h : Rs T.gid w M μ vs args) (n : Nat) : ERel T.gid w M μ (vs.toArray ++ Array.replicate n Go.undef) (E0 args) := by
 intro t
 unfold E0
 rw [Array.getD_eq_getD_getElem?, List.getD_eq_getElem?_getD]
 by_cases ht : t < vs.length
 · have ht' : t < args.length := by rw [← h.1]; exact ht
   rw [Array.getElem?_append_left (by simpa using ht)]
   simp only [List.getElem?_toArray, List.getElem?_eq_getElem ht, List.getElem?_eq_getElem ht', Option.getD_some]
   exact h.2 t _ _ (List.getElem?_eq_getElem ht) (List.getElem?_eq_getElem ht')
 · have ht' : ¬ t < args.length := by rw [← h.1]; exact ht
   rw [List.getElem?_eq_none (by omega), Array.getElem?_append_right (by simp; omega), Array.getElem?_replicate]
   split <;> exact R.undef

theorem Rs.emp {gid : Gid} {w : World} {M : Nat → Prop} {μ : Inj} {vs : List Value} {pre post : List V} (h : Rs gid w M μ vs (pre ++ .sl [] :: post)) : Rs gid w M μ vs (pre ++ .nil :: post) ∨ Rs gid w M μ vs (pre ++ .emp :: post) := by
 have hlt : pre.length < vs.length := by have := h.1; simp at this; omega
 have hr : R gid w M μ vs[pre.length] (.sl []) := h.2 pre.length _ _ (List.getElem?_eq_getElem hlt) (by simp)
 have key : ∀ {b : V}, R gid w M μ vs[pre.length] b → Rs gid w M μ vs (pre ++ b :: post) := by
   intro b hb
   refine ⟨by simpa using h.1, fun i v c hv hc => ?_⟩
   by_cases hi : i = pre.length
   · subst hi
     simp at hc
     subst hc
     rw [List.getElem?_eq_getElem hlt] at hv
     injection hv with hv
     subst hv
     exact hb
   · refine h.2 i v c hv ?_
     rw [← hc]
     by_cases hlt : i < pre.length
     · rw [List.getElem?_append_left hlt, List.getElem?_append_left hlt]
     · rw [List.getElem?_append_right (by omega), List.getElem?_append_right (by omega)]
       obtain ⟨k, hk⟩ : ∃ k, i - pre.length = k + 1 := ⟨i - pre.length - 1, by omega⟩
       rw [hk]
       rfl
 have : ∀ {v : Value}, R gid w M μ v (.sl []) → R gid w M μ v .nil ∨ R gid w M μ v .emp := by
   intro v hr
   cases hr with
   | c hr => cases hr with
     | p hr =>
       rcases hr.sl_emp with h1 | h1
       · exact .inl (.c (.p h1))
       · exact .inr (.c (.p h1))
 rcases this hr with h1 | h1
 · exact .inl (key h1)
 · exact .inr (key h1)

theorem stepR_scope {P : Program} {b : Frame} {a : Act} {k : List Item} {cs : List Frame} {w : World} {c : Code} :
   step P (lone (b.atR a (.code (.scope c) :: k)) cs w) = .next (lone (b.atR a (.code c :: .inScope c :: k)) cs w) :=
 step_lone_go (by simp [stepG, stepG.exec, Frame.atR])
theorem stepR_inScope {P : Program} {b : Frame} {a : Act} {k : List Item} {cs : List Frame} {w : World} {c : Code} :
   step P (lone (b.atR a (.inScope c :: k)) cs w) = .next (lone (b.atR a k) cs w) :=
 step_lone_go (by simp [stepG, stepG.exec, Frame.atR])
/-- A scope whose code jumps nowhere. -/
theorem wpIn_scope {F : Fence} {n : Nat} {P : Program} {Q : Exit → Act → World → Prop} {a : Act} {w : World} {c : Code} (h : c.wpIn F n P (fun e a w => Q e a w ∧ ∀ l, e ≠ .goto l) a w) : (Code.scope c).wpIn F n P Q a w := by
 intro b k cs hro hb hr
 have h0 : (lone (b.atR a (.code (.scope c) :: k)) cs w).fenced P F := fenced_calm hb hr rfl
 obtain ⟨e, a₁, w₁, ⟨hq, hg⟩, harr⟩ := h b (.inScope c :: k) cs hro hb hr
 cases e with
 | normal => exact ⟨.normal, a₁, w₁, hq, .head h0 stepR_scope (StepsIn.trans harr (.one (fenced_calm hb hr rfl) stepR_inScope))⟩
 | exit id =>
   exact ⟨.exit id, a₁, w₁, hq, fun k' hk => .head h0 stepR_scope (harr.1 k' (by simpa [exitTo] using hk)),
     fun hr' hk => let ⟨k₁, h1, h2⟩ := harr.2 hr' (by simpa [exitTo] using hk); ⟨k₁, h1, .head h0 stepR_scope h2⟩⟩
 | goto l => exact absurd rfl (hg l)
 | ret => exact ⟨_, a₁, w₁, hq, .of_steps (.one h0 stepR_scope) harr⟩
 | panic ch => exact ⟨_, a₁, w₁, hq, .of_steps (.one h0 stepR_scope) harr⟩
 | outgrown => exact ⟨_, a₁, w₁, hq, .of_steps (.one h0 stepR_scope) harr⟩

/-- The marks are taken up, one by one. -/
theorem leaves_marks {n0 : Nat} {w0 : World} {M0 : Nat → Prop} {μ0 : Inj} {H0 : Heap} {fn : Func} {tmps : Array Value} {R : Ending → World → Prop} {E : Env} {M : Nat → Prop} {μ : Inj} {H : Heap} : ∀ (Ds : List Nat) (w : World), Step T.gid n0 w0 M0 μ0 H0 w M μ H → ERel T.gid w M μ tmps E → Ds.Nodup →
   (∀ D ∈ Ds, w0.heap.size ≤ D ∧ w.heap[D]? = some (.deferred (some [])) ∧ M D) → (∀ w', Step T.gid n0 w0 M0 μ0 H0 w' M μ H → ERel T.gid w' M μ tmps E → ∃ v, (results fn tmps).run T.P w' = .ok v w' ∧ R (.returned v) w') →
   LeavesInM (fnc none) 0 T.P fn tmps R (Ds.map fun D => { target := .collected D, args := #[] }) .returning w
 | [], w, st, hE, _, _, hK => hK w st hE
 | D :: Ds, w, st, hE, hn, hD, hK => by
   obtain ⟨g1, g2, g3⟩ := hD D (by simp)
   have id : Idle (fun c => c ≠ D) w M (w.putObj D (.deferred none)) M := Idle.putObj g2 (by intro _ _ _ e; cases e) g3 (fun h => h rfl)
   have st' := st.poke id (fun c hc e => by subst e; exact held_not_deferred st.sim g2 hc) (fun c hc => by omega)
   refine ⟨by simp, .inl ⟨D, _, rfl, run_takeDeferred g2, leaves_marks Ds _ st' (fun t => id.r (hE t)) (List.nodup_cons.1 hn).2 (fun D' hD' => ?_) hK⟩⟩
   obtain ⟨q1, q2, q3⟩ := hD D' (by simp [hD'])
   refine ⟨q1, ?_, q3⟩
   rw [World.putObj_heap_other]
   · exact q2
   · intro e
     subst e
     exact (List.nodup_cons.1 hn).1 hD'

theorem flat_seq {a b : AC} (h : (AC.seq a b).flat = true) : a.flat = true ∧ b.flat = true := by simpa [AC.flat] using h
theorem flat_cond {x : X} {a b : AC} (h : (AC.cond x a b).flat = true) : a.flat = true ∧ b.flat = true := by simpa [AC.flat] using h

theorem sound (seat : Seat T S) {t : Task} {r : Res} (h : Ev S t r) : Motive T t r := by
 induction h with
 | skip =>
   refine codeSem_of (Nat.le_refl _) (by simp) fun ro B nt C a w M μ Q hc hro hn ht hs hE hd hB he => ?_
   rcases comp_inv hc with hC | ⟨l, hC⟩
   · rw [hC]
     exact wpIn_skip (he a w M μ (.refl hs) hE hd ht)
   · rw [hC]
     exact wpIn_label (he a w M μ (.refl hs) hE hd ht)
 | @scope n0 cc E H x E1 H1 _ ih1 =>
   refine codeSem_of ih1.1 (by simp) fun ro B nt C a w M μ Q hc hro hn ht hs hE hd hB he => ?_
   obtain ⟨A, rfl, g1⟩ := comp_inv hc
   refine wpIn_scope (ih1.2.1 ro B nt A a w M μ _ g1 (hro.imp id fun h => h) hn ht hs hE hd (hB.imp (fun h => h) fun h => h) fun a' w' M' μ' st hE' hd' ht' => ?_)
   refine ⟨he a' w' M' μ' st hE' hd' ht', fun l h => ?_⟩
   cases x <;> cases h
 | @seqN n0 ca cb E H E1 H1 r _ _ ih1 ih2 =>
   cases r with
   | ret v H' => trivial
   | cd x E' H' =>
     refine codeSem_of (Nat.le_trans ih1.1 ih2.1) (by simp) fun ro B nt C a w M μ Q hc hro hn ht hs hE hd hB he => ?_
     obtain ⟨A, BB, rfl, g1, g2⟩ := comp_inv hc
     refine wpIn_seq (ih1.2.1 ro B nt A a w M μ _ g1 (hro.imp id fun h => (flat_seq h).1) hn ht hs hE hd (hB.imp (fun h => (flat_seq h).1) id) fun a' w' M' μ' st hE' hd' ht' => ?_)
     exact ih2.2.1 ro B nt BB a' w' M' μ' Q g2 (hro.imp id fun h => (flat_seq h).2) (by have := ih1.1; omega) ht' st.sim hE' hd' (hB.imp (fun h => (flat_seq h).2) fun h D hD => h D (Nat.le_trans st.size hD)) (ends_trans he st)
 | @seqX n0 ca cb E H x E1 H1 _ hx ih1 =>
   refine codeSem_of ih1.1 (by simp) fun ro B nt C a w M μ Q hc hro hn ht hs hE hd hB he => ?_
   obtain ⟨A, BB, rfl, g1, g2⟩ := comp_inv hc
   refine wpIn_seq (ih1.2.1 ro B nt A a w M μ _ g1 (hro.imp id fun h => (flat_seq h).1) hn ht hs hE hd (hB.imp (fun h => (flat_seq h).1) id) fun a' w' M' μ' st hE' hd' ht' => ?_)
   have := he a' w' M' μ' st hE' hd' ht'
   cases x with
   | normal => exact absurd rfl hx
   | exit id => exact this
   | ret => exact this
 | @cond n0 cx ca cb E H t r hcx _ ih1 =>
   cases r with
   | ret v H' => trivial
   | cd x E' H' =>
     refine codeSem_of ih1.1 (by simp) fun ro B nt C a w M μ Q hc hro hn ht hs hE hd hB he => ?_
     obtain ⟨X, A, BB, rfl, g0, g1, g2⟩ := comp_inv hc
     have hxr := cX_sound hs.tab g0 hE
     rw [hcx] at hxr
     refine wpIn_cond hxr.inv_bool ?_
     cases t with
     | true => exact ih1.2.1 ro B nt A a w M μ Q g1 (hro.imp id fun h => (flat_cond h).1) hn ht hs hE hd (hB.imp (fun h => (flat_cond h).1) id) he
     | false => exact ih1.2.1 ro B nt BB a w M μ Q g2 (hro.imp id fun h => (flat_cond h).2) hn ht hs hE hd (hB.imp (fun h => (flat_cond h).2) id) he
 | @block n0 id cc E H x E1 H1 _ ih1 =>
   refine codeSem_of ih1.1 (by simp) fun ro B nt C a w M μ Q hc hro hn ht hs hE hd hB he => ?_
   obtain ⟨A, rfl, g1⟩ := comp_inv hc
   refine wpIn_block (ih1.2.1 ro B nt A a w M μ _ g1 (hro.imp (fun h => h) fun h => h) hn ht hs hE hd (hB.imp (fun h => h) fun h => h) fun a' w' M' μ' st hE' hd' ht' => ?_)
   have := he a' w' M' μ' st hE' hd' ht'
   cases x with
   | normal => exact this
   | ret => exact this
   | exit id' =>
     simp only [AX.toExit, Exit.inBlock, AX.outOf] at this ⊢
     split
     · rename_i e; rw [if_pos e] at this; exact this
     · rename_i e; rw [if_neg e] at this; exact this
 | @loopN n0 cc E H E1 H1 r _ _ ih1 ih2 =>
   cases r with
   | ret v H' => trivial
   | cd x E' H' =>
     obtain ⟨n, hn2⟩ := ih2.2.2 cc rfl
     have rounds : Runs T n0 cc E H x E' H' (fun ro C Q a w => Code.roundsIn (fnc ro) 0 T.P C Q (n + 1) a w) := by
       intro ro B nt C a w M μ Q hc hro hn ht hs hE hd hB he
       rw [roundsIn_succ]
       refine ih1.2.1 ro B nt C a w M μ _ hc hro hn ht hs hE hd hB fun a' w' M' μ' st hE' hd' ht' => ?_
       exact hn2 ro B nt C a' w' M' μ' Q hc hro (by have := ih1.1; omega) ht' st.sim hE' hd' (hB.imp (fun h => h) fun h D hD => h D (Nat.le_trans st.size hD)) (ends_trans he st)
     refine ⟨Nat.le_trans ih1.1 ih2.1, fun ro B nt C a w M μ Q hc hro hn ht hs hE hd hB he => ?_, fun c' e => by injection e with e; subst e; exact ⟨n + 1, rounds⟩⟩
     obtain ⟨A, rfl, g1⟩ := comp_inv hc
     exact wpIn_loop_rounds (n + 1) (rounds ro B nt A a w M μ Q g1 (hro.imp id fun h => h) hn ht hs hE hd hB he)
 | @loopX n0 cc E H x E1 H1 _ hx ih1 =>
   have rounds : Runs T n0 cc E H x E1 H1 (fun ro C Q a w => Code.roundsIn (fnc ro) 0 T.P C Q (0 + 1) a w) := by
     intro ro B nt C a w M μ Q hc hro hn ht hs hE hd hB he
     rw [roundsIn_succ]
     refine ih1.2.1 ro B nt C a w M μ _ hc hro hn ht hs hE hd hB fun a' w' M' μ' st hE' hd' ht' => ?_
     have := he a' w' M' μ' st hE' hd' ht'
     cases x with
     | normal => exact absurd rfl hx
     | exit id => exact this
     | ret => exact this
   refine ⟨ih1.1, fun ro B nt C a w M μ Q hc hro hn ht hs hE hd hB he => ?_, fun c' e => by injection e with e; subst e; exact ⟨0 + 1, rounds⟩⟩
   obtain ⟨A, rfl, g1⟩ := comp_inv hc
   exact wpIn_loop_rounds (0 + 1) (rounds ro B nt A a w M μ Q g1 (hro.imp id fun h => h) hn ht hs hE hd hB he)
 | @rfor n0 x ps a c E H g caps L y H1 hx hp hi _ ih1 =>
   obtain ⟨_, hl, hr⟩ := ih1
   exact range_sound hx hp (fun fid hg => seat.iters fid g caps L hg hi) hl hr
 | @rndNil n0 ps a c E H => exact ⟨rfl, Nat.le_refl _, 0, fun _ => H, rfl, fun k _ hk => by omega, .inl ⟨rfl, rfl, rfl⟩⟩
 | @rndGo n0 ps a c args L E H E1 H1 E2 H2 r hlen _ _ _ ih1 ih2 ih3 =>
   cases r with
   | ret v H' => trivial
   | cd x E' H' =>
     obtain ⟨he, hl, m, Hs, h0, hgo, hend⟩ := ih3
     have hr : RndSem T n0 ps a c args E H .normal H2 := ⟨E1, H1, E2, hlen, ih1, ih2⟩
     refine ⟨he, Nat.le_trans ih1.1 (Nat.le_trans ih2.1 hl), m + 1, fun k => match k with | 0 => H | k + 1 => Hs k, rfl, fun k args' hk hL => ?_, ?_⟩
     · cases k with
       | zero =>
         simp at hL
         subst hL
         show RndSem T n0 ps a c args E H .normal (Hs 0)
         rw [h0]; exact hr
       | succ k => exact hgo k args' (by omega) (by simpa using hL)
     · rcases hend with ⟨e1, e2, e3⟩ | ⟨args', e1, e2, e3⟩
       · exact .inl ⟨by simp [e1], e2, e3⟩
       · exact .inr ⟨args', by simpa using e1, e2, e3⟩
 | @rndStop n0 ps a c args L E H E1 H1 x E2 H2 hlen _ _ hx ih1 ih2 =>
   exact ⟨rfl, Nat.le_trans ih1.1 ih2.1, 0, fun _ => H, rfl, fun k _ hk => by omega, .inr ⟨args, rfl, hx, E1, H1, E2, hlen, ih1, ih2⟩⟩
 | exit =>
   refine codeSem_of (Nat.le_refl _) (by simp) fun ro B nt C a w M μ Q hc hro hn ht hs hE hd hB he => ?_
   have hC : C = _ := comp_inv hc
   rw [hC]
   exact wpIn_exit (he a w M μ (.refl hs) hE hd ht)
 | ret =>
   refine codeSem_of (Nat.le_refl _) (by simp) fun ro B nt C a w M μ Q hc hro hn ht hs hE hd hB he => ?_
   have hC : C = _ := comp_inv hc
   rw [hC]
   exact wpIn_ret (he a w M μ (.refl hs) hE hd ht)
 | @region n0 d l E H E1 H1 _ ih1 =>
   obtain ⟨_, hlen, htr⟩ := ih1
   refine codeSem_of hlen (by simp) fun ro B nt C a w M μ Q hc hro hn ht hs hE hd hB he => ?_
   obtain ⟨id, ops, rfl, g1⟩ := comp_inv hc
   obtain ⟨l0, g2, g3, g4⟩ := cRegion_inv g1
   obtain ⟨g5, g6⟩ := cOpers_get _ g2
   rcases g4 with ⟨rfl, g4⟩ | ⟨rfl, g4, g7, g8⟩
   · injection g4 with _ g4
     subst g4
     have tr := htr ops ops.toList g5 fun i o ao h1 h2 => cOper_link (g6 i o ao h1 h2) ao.sync (.refl _)
     refine wpIn_region ?_
     have := tr.plain (ro := ro) 0 (by simp) nt g3 a w M μ ht hn hs hE Q fun a' w' M' μ' st hE' hd' hsz => he a' w' M' μ' st hE' (by rw [hd']; exact hd.step hs st) (by omega)
     rw [List.range_eq_range']
     simpa using this
   · injection g4 with _ g4
     subst g4
     have gl : ∀ (i : Nat) (ao : AOper), (finalOps (befores ops.toList []) l0)[i]? = some ao → ∃ a0 sy op, l0[i]? = some a0 ∧ Soft op a0.op ∧ ao = { a0 with sync := sy, op := op } := fun i ao h => finalOps_get h
     have tr := htr ops ops.toList (by rw [finalOps_len]; exact g5) fun i o ao h1 h2 => by
       obtain ⟨a0, sy, op, h3, h4, h5⟩ := gl i ao h2
       subst h5
       exact cOper_link (g6 i o a0 h1 h3) _ h4
     obtain ⟨Es, Hs, vs, hr, h1, h2, h3, h4⟩ := tr.run
     have hds : dstsOk nt (finalOps (befores ops.toList []) l0) = true := by
       unfold dstsOk
       rw [List.all_eq_true]
       intro ao hao
       obtain ⟨i, hi⟩ := List.getElem?_of_mem hao
       obtain ⟨a0, sy, op, h5, _, h6⟩ := gl i ao hi
       subst h6
       exact List.all_eq_true.1 g3 a0 (List.mem_of_getElem? h5)
     have hst : Static ops.toList (finalOps (befores ops.toList []) l0) := by
       refine ⟨fun i o hi => ?_, fun i o ao _ hao => ?_, fun i j a b hij ha hb => ?_⟩
       · have hi' : i < ops.size := by
           have := (List.getElem?_eq_some_iff.1 hi).1
           simpa using this
         have := List.all_eq_true.1 g7 i (List.mem_range.2 hi')
         have ho : ops[i]? = some o := by simpa using hi
         simpa [ho] using this
       · unfold drawOk at g8
         rw [Bool.and_eq_true] at g8
         exact List.all_eq_true.1 g8.1 ao (List.mem_of_getElem? hao)
       · have hj : j < (finalOps (befores ops.toList []) l0).length := (List.getElem?_eq_some_iff.1 hb).1
         unfold drawOk at g8
         rw [Bool.and_eq_true] at g8
         have := List.all_eq_true.1 g8.2 j (List.mem_range.2 hj)
         have := List.all_eq_true.1 this i (List.mem_range.2 hij)
         rw [ha, hb] at this
         exact this
     refine wpIn_region_any seat.mixed ?_
     subst h1; subst h2
     have hs' := hs.same (Same.drew w)
     obtain ⟨e, hH⟩ := HInv.begin (D := fun i => (Array.replicate ops.size false).getD i false = true) (w0 := w) (M0 := M) (μ0 := μ) (w := w.drew) (M := M) (μ := μ) (s := 0) hr (Nat.zero_le _) (fun j hj => by omega)
       (fun j _ _ hD => by
         rw [Array.getD_eq_getD_getElem?, Array.getElem?_replicate] at hD
         split at hD <;> cases hD) (Step.same hs (Same.drew w))
     refine drawn_all (ds := a.defers) hr hst hn Q hds (fun a' w' M' μ' st hE' hd' hsz => he a' w' M' μ' (by rw [← h4]; exact st) (by rw [← h3]; exact hE') (by rw [hd']; exact hd.step hs st) hsz) ops.size _ a w.drew M μ 0 e (by simp) ?_ ?_ hH ?_ ht rfl
     · unfold left
       refine Nat.le_trans (List.length_filter_le _ _) ?_
       simp
     · intro i o hD
       have hD : (Array.replicate ops.size false).getD i false = true := hD
       rw [Array.getD_eq_getD_getElem?, Array.getElem?_replicate] at hD
       split at hD <;> cases hD
     · intro t
       refine .inr ⟨fun j _ hD => ?_, ?_⟩
       · have hD : (Array.replicate ops.size false).getD j false = true := hD
         rw [Array.getD_eq_getD_getElem?, Array.getElem?_replicate] at hD
         split at hD <;> cases hD
       · refine (hE t).mono ((Same.drew w).keep M) (Same.drew w).shape fun b x hx => ?_
         unfold cutM
         rw [if_pos (hs.dom b x hx)]
         exact hx
 | opNil =>
   refine ⟨rfl, Nat.le_refl _, fun ops os hl _ => ?_⟩
   have : os = [] := List.eq_nil_of_length_eq_zero (by simpa using hl)
   subst this
   exact .nil
 | @opSkip n0 d o l E H r hg _ ih1 =>
   cases r with
   | ret v H' => trivial
   | cd x E' H' =>
     obtain ⟨hx, hlen, htr⟩ := ih1
     refine ⟨hx, hlen, fun ops os hl hk => ?_⟩
     cases os with
     | nil => simp at hl
     | cons oo os =>
       obtain ⟨k1, k2⟩ := link_tail hk
       exact .skip k1 hg (htr ops os (by simpa using hl) k2)
 | @opDo n0 d o l E H v H1 r hg hstp hpre _ ih1 =>
   cases r with
   | ret v H' => trivial
   | cd x E' H' =>
     obtain ⟨hx, hlen, htr⟩ := ih1
     refine ⟨hx, Nat.le_trans (stp_len hstp) hlen, fun ops os hl hk => ?_⟩
     cases os with
     | nil => simp at hl
     | cons oo os =>
       obtain ⟨k1, k2⟩ := link_tail hk
       obtain ⟨op0, ko, ks⟩ := k1.op
       refine .step k1 hg (opSem_stp ko ks hstp) (stp_len hstp) hpre (fun hq => ?_) (fun z x y av e t ht b i off hE => ?_) (htr ops os (by simpa using hl) k2)
       · by_cases hs : ∃ ag z t, o.op = .sload ag z t
         · obtain ⟨ag, z, t, e⟩ := hs
           rw [e] at hstp ks ⊢
           obtain ⟨q1, q2⟩ := lateSem_stp ko ks hstp
           exact ⟨q1, q2.symm⟩
         · obtain ⟨q1, q2⟩ := stp_quiet hq (fun ag z t e => hs ⟨ag, z, t, e⟩) hstp
           exact ⟨q1, .inl fun Hc => opSem_stp ko ks (q2 Hc)⟩
       · rw [e] at hstp
         exact storeN_spares hstp ht hE
 | @opCall n0 d o l E H x xs g caps vs H1 v H2 r hg ho hx hp _ hpre _ ih1 ih2 =>
   cases r with
   | ret v H' => trivial
   | cd x' E' H' =>
     obtain ⟨hxx, hlen, htr⟩ := ih2
     have hl12 : H.length ≤ H2.length := by
       have := prep_len hp
       have := ih1.1
       omega
     refine ⟨hxx, Nat.le_trans hl12 hlen, fun ops os hl hk => ?_⟩
     cases os with
     | nil => simp at hl
     | cons oo os =>
       obtain ⟨k1, k2⟩ := link_tail hk
       obtain ⟨op0, ko, ks⟩ := k1.op
       have hop : cOp T oo.op = some (.call x xs) := by
         rw [ho] at ks
         cases ks
         exact ko
       refine .step k1 hg (by rw [ho]; exact opSem_call hop hx hp ih1) hl12 hpre (fun hq => ?_) (fun z x y av e => by rw [ho] at e; cases e) (htr ops os (by simpa using hl) k2)
       rw [ho] at hq
       cases hq
 | @call g f args H x E1 H1 v0 v H2 hf _ hx hres hfin ih1 =>
   have hlen2 : H.length ≤ H2.length := fin_len ih1.1 hfin
   refine ⟨hlen2, fun fid hg => ?_⟩
   obtain ⟨fn, C, s1, s2, s3, s4, s5⟩ := seat.fns fid g f hg hf
   refine ⟨fn, s1, s2, by rw [s3]; rfl, fun w M μ vs hs hrs => ?_⟩
   refine callsIn_wide (n := 0).1 (callsIn_of_wp_marks (F := fnc none) (n := 0) s1 s3 trivial ?_ rfl)
   have hE := E0_rel hrs (fn.ntmps - vs.toArray.size)
   refine ih1.2.1 none (fun D => w.heap.size ≤ D) fn.ntmps C _ w M μ _ s4 (.inl rfl) (Nat.le_refl _) (by simp; omega) hs hE (DefOk.nil _ _ _) (.inr fun _ h => h) fun a' w' M' μ' st hE' hd' ht' => ?_
   obtain ⟨Ds, d1, d2, d3⟩ := hd'
   have last : LeavesInM (fnc none) 0 T.P fn a'.tmps (fun e w' => ∃ v' M' μ', e = .returned v' ∧ Step T.gid H.length w M μ H w' M' μ' H2 ∧ R T.gid w' M' μ' v' v) a'.defers .returning w' := by
     rw [d1]
     refine leaves_marks Ds w' st hE' d2 d3 fun w2 st2 hE2 => ?_
     obtain ⟨v', r1, r2⟩ := resV_sound st2.sim hE2 s5 hres
     obtain ⟨M2, μ2, st3, r3⟩ := fin_sound rfl (hs.lowH (Nat.le_refl _)) st2 r2 hfin
     exact ⟨v', r1, v', M2, μ2, rfl, st3, r3⟩
   rcases hx with rfl | rfl
   · exact last
   · exact last
 | @emp g pre post H r _ _ ih1 ih2 =>
   cases r with
   | cd x E' H' => trivial
   | ret v H' =>
     refine ⟨ih1.1, fun fid hg => ?_⟩
     obtain ⟨fn, h1, h2, h3, h4⟩ := ih1.2 fid hg
     obtain ⟨fn', h1', _, _, h5⟩ := ih2.2 fid hg
     refine ⟨fn, h1, h2, h3, fun w M μ vs hs hrs => ?_⟩
     rcases hrs.emp with hr | hr
     · exact h4 w M μ vs hs hr
     · exact h5 w M μ vs hs hr
 | @prim g args H v hp =>
   refine ⟨Nat.le_refl _, fun fid hg => ?_⟩
   obtain ⟨fn, s1, s2, s3, s4⟩ := seat.prims fid g args v H hg hp
   exact ⟨fn, s1, s2, s3, s4⟩

end Go.Abs

/- A range over a function: the iterator's side. -/
namespace Go.Abs

variable {T : Tab} {S : AProg}

theorem R.inv_yld {gid : Gid} {w : World} {M : Nat → Prop} {μ : Inj} {v : Value} {l : Nat} (h : R gid w M μ v (.yld l)) : v = .func (.yield l) #[] #[] := by
 cases h with
 | c h => cases h with
   | p h => cases h; rfl

/-- The iterator's state, beside the loop's. -/
def ItSt (T : Tab) (J : Nat → (Nat → Prop) → World → (Nat → Prop) → Prop) (Jx : (Nat → Prop) → World → (Nat → Prop) → Prop) (nt : Nat) (E : Env) (H : Heap) (k : Nat) (st : Bool) (a : Act) (w : World) : Prop :=
 ∃ M μ F, nt ≤ a.tmps.size ∧ Sim T.gid w M μ H ∧ ERel T.gid w M μ a.tmps E ∧ a.defers = [] ∧ (∀ c, Held μ H c → ¬ F c) ∧ (if st = true then Jx F w M else J k F w M)

/-- What the iterator's code comes to: k values have been yielded; st: it has been told to stop. -/
def ItSem (T : Tab) (L : List (List V)) (l : Nat) (c : AC) (E : Env) (H : Heap) (k : Nat) (st : Bool) (K : AX → Env → Heap → Nat → Bool → Prop) : Prop :=
 ∀ J Jx, ItCtx T L l J Jx → ∀ (nt : Nat) (C : Code) (a : Act) (w : World) (Q : Exit → Act → World → Prop), comp T nt C = some c → ItSt T J Jx nt E H k st a w →
   (∀ x E' H' k' st' a' w', K x E' H' k' st' → ItSt T J Jx nt E' H' k' st' a' w' → Q x.toExit a' w') → C.wpIn (fnc none) 0 T.P Q a w

variable {L : List (List V)} {l : Nat}

theorem ItCtx.stays {J : Nat → (Nat → Prop) → World → (Nat → Prop) → Prop} {Jx : (Nat → Prop) → World → (Nat → Prop) → Prop} (ctx : ItCtx T L l J Jx) {st : Bool} {k : Nat} {F : Nat → Prop} {w w' : World} {M M' : Nat → Prop}
   (h : if st = true then Jx F w M else J k F w M) (i : Idle F w M w' M') : if st = true then Jx F w' M' else J k F w' M' := by
 cases st with
 | true => exact ctx.stayx F w M w' M' h i
 | false => exact ctx.stay k F w M w' M' h i

theorem ItCtx.bounds {J : Nat → (Nat → Prop) → World → (Nat → Prop) → Prop} {Jx : (Nat → Prop) → World → (Nat → Prop) → Prop} (ctx : ItCtx T L l J Jx) {st : Bool} {k : Nat} {F : Nat → Prop} {w : World} {M : Nat → Prop}
   (h : if st = true then Jx F w M else J k F w M) : ∀ c, F c → c < w.heap.size := by
 cases st with
 | true => exact ctx.boundx F w M h
 | false => exact ctx.bound k F w M h

/-- A step of the iterator's own. -/
theorem ItSt.step {J : Nat → (Nat → Prop) → World → (Nat → Prop) → Prop} {Jx : (Nat → Prop) → World → (Nat → Prop) → Prop} (ctx : ItCtx T L l J Jx) {st : Bool} {k nt n0 : Nat} {F : Nat → Prop} {w w' : World} {M M' : Nat → Prop} {μ μ' : Inj} {H H' : Heap} {E' : Env} {a' : Act}
   (hs : Sim T.gid w M μ H) (hF : ∀ c, Held μ H c → ¬ F c) (h : if st = true then Jx F w M else J k F w M) (s : Step T.gid n0 w M μ H w' M' μ' H') (hE : ERel T.gid w' M' μ' a'.tmps E') (hd : a'.defers = []) (ht : nt ≤ a'.tmps.size) : ItSt T J Jx nt E' H' k st a' w' := by
 refine ⟨M', μ', F, ht, s.sim, hE, hd, fun c hc hf => ?_, ctx.stays h (s.idle hs fun c hf hc => hF c hc hf)⟩
 rcases s.held hc with h1 | h1
 · exact hF c h1 hf
 · have := ctx.bounds h c hf; omega

theorem it_ev (seat : Seat T S) {c : AC} {E : Env} {H : Heap} {x : AX} {E' : Env} {H' : Heap} {k : Nat} {st : Bool} {K : AX → Env → Heap → Nat → Bool → Prop} (hf : c.flat = true) (h : Ev S (.code 0 c E H) (.cd x E' H')) (hK : K x E' H' k st) : ItSem T L l c E H k st K := by
 intro J Jx ctx nt C a w Q hc ⟨M, μ, F, ht, hs, hE, hd, hF, hJ⟩ hQ
 refine (sound seat h).2.1 none (fun _ => False) nt C a w M μ Q hc (.inl rfl) (Nat.zero_le _) ht hs hE (by rw [hd]; exact DefOk.nil _ _ _) (.inl hf) fun a' w' M' μ' s hE' hd' ht' => ?_
 obtain ⟨Ds, d1, d2, d3⟩ := hd'
 have hD : Ds = [] := by
   cases Ds with
   | nil => rfl
   | cons D Ds => exact (d3 D (by simp)).1.elim
 exact hQ _ _ _ _ _ _ _ hK (ItSt.step ctx hs hF hJ s hE' (by rw [d1, hD]; rfl) ht')

theorem it_seq {ca cb : AC} {E : Env} {H : Heap} {k : Nat} {st : Bool} {K K1 : AX → Env → Heap → Nat → Bool → Prop} (h : ItSem T L l ca E H k st K1) (hN : ∀ E1 H1 k1 st1, K1 .normal E1 H1 k1 st1 → ItSem T L l cb E1 H1 k1 st1 K)
   (hX : ∀ x E1 H1 k1 st1, x ≠ .normal → K1 x E1 H1 k1 st1 → K x E1 H1 k1 st1) : ItSem T L l (.seq ca cb) E H k st K := by
 intro J Jx ctx nt C a w Q hc hst hQ
 obtain ⟨A, B, rfl, g1, g2⟩ := comp_inv hc
 refine wpIn_seq (h J Jx ctx nt A a w _ g1 hst fun x E' H' k' st' a' w' hk hs => ?_)
 cases x with
 | normal => exact hN _ _ _ _ hk J Jx ctx nt B a' w' Q g2 hs hQ
 | exit id => exact hQ (.exit id) _ _ _ _ _ _ (hX _ _ _ _ _ (by simp) hk) hs
 | ret => exact hQ .ret _ _ _ _ _ _ (hX _ _ _ _ _ (by simp) hk) hs

theorem it_cond {cx : X} {ca cb : AC} {E : Env} {H : Heap} {k : Nat} {st : Bool} {K : AX → Env → Heap → Nat → Bool → Prop} {t : Bool} (hc : getX E cx = .bool t) (h : ItSem T L l (if t then ca else cb) E H k st K) : ItSem T L l (.cond cx ca cb) E H k st K := by
 intro J Jx ctx nt C a w Q hcp hst hQ
 obtain ⟨X, A, B, rfl, g0, g1, g2⟩ := comp_inv hcp
 have hst' := hst
 obtain ⟨M, μ, F, ht, hs, hE, hd, hF, hJ⟩ := hst
 have hxr := cX_sound hs.tab g0 hE
 rw [hc] at hxr
 refine wpIn_cond hxr.inv_bool ?_
 cases t with
 | true => exact h J Jx ctx nt A a w Q g1 hst' hQ
 | false => exact h J Jx ctx nt B a w Q g2 hst' hQ

theorem it_block {id : Nat} {c : AC} {E : Env} {H : Heap} {k : Nat} {st : Bool} {K : AX → Env → Heap → Nat → Bool → Prop} (h : ItSem T L l c E H k st (fun x E H k st => K (x.outOf id) E H k st)) : ItSem T L l (.block id c) E H k st K := by
 intro J Jx ctx nt C a w Q hc hst hQ
 obtain ⟨A, rfl, g1⟩ := comp_inv hc
 refine wpIn_block (h J Jx ctx nt A a w _ g1 hst fun x E' H' k' st' a' w' hk hs => ?_)
 have := hQ _ _ _ _ _ _ _ hk hs
 cases x with
 | normal => exact this
 | ret => exact this
 | exit id' =>
   simp only [AX.toExit, Exit.inBlock, AX.outOf] at this ⊢
   split
   · rename_i e; rw [if_pos e] at this; exact this
   · rename_i e; rw [if_neg e] at this; exact this

theorem roundsIn_mono {F : Fence} {n : Nat} {P : Program} {c : Code} {Q : Exit → Act → World → Prop} : ∀ {m m' : Nat} {a : Act} {w : World}, m ≤ m' → Code.roundsIn F n P c Q m a w → Code.roundsIn F n P c Q m' a w
 | 0, _, _, _, _, h => h.elim
 | m + 1, 0, _, _, hm, _ => by omega
 | m + 1, m' + 1, a, w, hm, h => by
   rw [roundsIn_succ] at h ⊢
   refine wpIn_mono h fun e a w hq => ?_
   cases e with
   | normal => exact roundsIn_mono (by omega) hq
   | _ => exact hq

theorem it_loop {c : AC} {E : Env} {H : Heap} {k : Nat} {st : Bool} {K : AX → Env → Heap → Nat → Bool → Prop} (I : Nat → Env → Heap → Nat → Bool → Prop) (m : Nat) (h0 : I m E H k st)
   (h : ∀ m E H k st, I m E H k st → ItSem T L l c E H k st (fun x E1 H1 k1 st1 => (x = .normal → ∃ j, j < m ∧ I j E1 H1 k1 st1) ∧ (x ≠ .normal → K x E1 H1 k1 st1))) : ItSem T L l (.loop c) E H k st K := by
 intro J Jx ctx nt C a w Q hc hst hQ
 obtain ⟨A, rfl, g1⟩ := comp_inv hc
 refine wpIn_loop_rounds (m + 1) ?_
 induction m using Nat.strongRecOn generalizing E H k st a w with
 | _ m ih =>
   rw [roundsIn_succ]
   refine h m E H k st h0 J Jx ctx nt A a w _ g1 hst fun x E' H' k' st' a' w' hk hs => ?_
   cases x with
   | normal =>
     obtain ⟨j, hj, hI⟩ := hk.1 rfl
     exact roundsIn_mono (by omega) (ih j hj hI a' w' hs)
   | exit id => exact hQ (.exit id) _ _ _ _ _ _ (hk.2 (by simp)) hs
   | ret => exact hQ .ret _ _ _ _ _ _ (hk.2 (by simp)) hs

theorem wpInOp_Q {F : Fence} {n : Nat} {P : Program} {o : Oper} {a : Act} {w : World} {K : Act → World → Prop} {Q Q' : Exit → Act → World → Prop} (hp : ∀ c a w, Q' (.panic c) a w → Q (.panic c) a w) (ho : ∀ a w, Q' .outgrown a w → Q .outgrown a w)
   (hh : o.wpIn F n P a w K Q') : o.wpIn F n P a w K Q := by
 unfold Oper.wpIn at *
 refine ⟨hh.1, ?_⟩
 have hh := hh.2
 have hl : LetsOut Q' → LetsOut Q := fun ⟨a, w, h⟩ => ⟨a, w, ho a w h⟩
 generalize (o.semAt F.round a.eval).run P w = r at *
 cases r with
 | ok x w' =>
   cases x <;> simp only [Oper.uponIn] at hh ⊢ <;>
     first
       | exact hh
       | exact ⟨hh.1, CallsIn.mono hh.2 (fun e w'' he => by cases e <;> first | exact he | exact hp _ _ _ he | exact hl he)⟩
       | exact ⟨hh.1, RoundIn.mono hh.2 (fun e w'' he => by cases e <;> first | exact he | exact hp _ _ _ he | exact hl he)⟩
 | halt x w' => cases x <;> simp only [Oper.uponIn] at hh ⊢ <;> first | exact hh | exact hp _ _ _ hh

theorem wpOpsIn_append {F : Fence} {n : Nat} {P : Program} {ops : Array Oper} {Q : Exit → Act → World → Prop} {l2 : List Nat} : ∀ {l1 : List Nat} {a : Act} {w : World}, wpOpsIn F n P ops (fun e a w => e = .normal ∧ wpOpsIn F n P ops Q l2 a w) l1 a w → wpOpsIn F n P ops Q (l1 ++ l2) a w
 | [], a, w, h => h.2
 | i :: l1, a, w, h => by
   simp only [List.cons_append, wpOpsIn] at h ⊢
   split
   · rename_i ho
     simp only [ho] at h
     exact wpOpsIn_append h
   · rename_i o ho
     simp only [ho] at h
     split
     · rename_i hw
       simp only [hw, if_true] at h
       exact wpInOp_Q (fun c a w hq => by cases hq.1) (fun a w hq => by cases hq.1) (Oper.wpIn_mono (fun a w hk => wpOpsIn_append hk) h)
     · rename_i hw
       simp only [hw] at h
       exact ⟨h.1, wpOpsIn_append h.2⟩

/-- A region with one call of yield. -/
theorem it_yield (seat : Seat T S) {l1 l2 : List AOper} {d y : Nat} {xs : List X} {sy : Bool} {E E1 : Env} {H H1 : Heap} {vs : List V} {k : Nat} {K : AX → Env → Heap → Nat → Bool → Prop}
   (h1 : Ev S (.ops 0 false l1 E H) (.cd .normal E1 H1)) (hy : E1 y = .yld l) (hv : xs.map (getX E1) = vs) (hp : vs.all V.pure = true) (hL : L[k]? = some vs)
   (h2 : ∀ b : Bool, ∃ E2 H2, Ev S (.ops 0 false l2 (upd E1 d (.bool b)) H1) (.cd .normal E2 H2) ∧ K .normal E2 H2 (k + 1) (!b)) : ItSem T L l (.region false (l1 ++ ⟨some d, .call (.t y) xs, none, sy⟩ :: l2)) E H k false K := by
 intro J Jx ctx nt C a w Q hc ⟨M, μ, F, ht, hs, hE, hd, hF, hJ⟩ hQ
 obtain ⟨id, ops, rfl, g1⟩ := comp_inv hc
 obtain ⟨l0, g2, g3, g4⟩ := cRegion_inv g1
 obtain ⟨g5, g6⟩ := cOpers_get _ g2
 have g4 : AC.region false (l1 ++ ⟨some d, .call (.t y) xs, none, sy⟩ :: l2) = .region false l0 := by
   rcases g4 with ⟨_, g4⟩ | ⟨hf, _⟩
   · exact g4
   · cases hf
 injection g4 with _ g4
 subst g4
 obtain ⟨_, hl1, tr1⟩ := sound seat h1
 have hlen : ops.toList.length = l1.length + (l2.length + 1) := by rw [g5]; simp
 have hops : ops.size = l1.length + (l2.length + 1) := by rw [← hlen]; simp
 simp only [dstsOk, List.all_append, List.all_cons, Bool.and_eq_true] at g3
 obtain ⟨ds1, ds2, ds3⟩ := g3
 have hd0 : d < nt := by simpa using ds2
 refine wpIn_region ?_
 rw [List.range_eq_range', hops, ← List.range'_append_1]
 refine wpOpsIn_append ?_
 have htk : (ops.toList.take l1.length).length = l1.length := by rw [List.length_take]; omega
 have t1 := tr1 ops (ops.toList.take l1.length) htk fun i o ao ho ha => by
   have hi := (List.getElem?_eq_some_iff.1 ha).1
   rw [List.getElem?_take_of_lt hi] at ho
   exact cOper_link (g6 i o ao ho (by rw [List.getElem?_append_left hi]; exact ha)) ao.sync (.refl _)
 have p1 := t1.plain (ro := none) 0 (by rw [List.drop_zero]; exact List.take_prefix _ _) nt ds1 a w M μ ht (Nat.zero_le _) hs hE (fun e a w => e = .normal ∧ wpOpsIn (fnc none) 0 T.P ops Q (List.range' (0 + l1.length) (l2.length + 1)) a w)
 rw [htk] at p1
 refine p1 fun a1 w1 M1 μ1 s1 hE1 hd1 hsz1 => ⟨rfl, ?_⟩
 rw [List.range'_succ, Nat.zero_add]
 have hn1 : l1.length < ops.size := by omega
 have ho : ops[l1.length]? = some ops[l1.length] := by simp [hn1]
 generalize ops[l1.length] = o at ho
 have ho' : ops.toList[l1.length]? = some o := by simpa using ho
 have ha : (l1 ++ (⟨some d, .call (.t y) xs, none, sy⟩ : AOper) :: l2)[l1.length]? = some ⟨some d, .call (.t y) xs, none, sy⟩ := by simp
 have link := cOper_link (g6 _ o _ ho' ha) sy (.refl _)
 have hw := wanted_eq (w := w1) (M := M1) (μ := μ1) (a := a1) (E := E1) (b := true) link (fun t _ => hE1 t) rfl
 simp only [wpOpsIn, ho, hw, if_true]
 obtain ⟨op0, k1, k2⟩ := link.op
 have hdst := link.dst
 cases k2
 obtain ⟨dst, cop, ty, pos, after, guard⟩ := o
 obtain ⟨f, args, argTypes, hcop, q1, q2⟩ := cOp_call k1
 simp only at hcop hdst
 subst hcop
 have hfv := cX_sound s1.sim.tab q1 hE1
 rw [show getX E1 (.t y) = E1 y from rfl, hy] at hfv
 have hfv' := hfv.inv_yld
 have hargs := cXs_sound s1.sim.tab args.toList q2 hE1
 rw [hv] at hargs
 have hargs0 : Rs T.gid w1 M1 (fun _ => none) (args.map a1.eval).toList vs := by
   rw [Array.toList_map]
   exact ⟨hargs.1, fun i v c hv hc => (hargs.2 i v c hv hc).pureAny (List.all_eq_true.1 hp c (List.mem_of_getElem? hc)) _⟩
 have hF1 : ∀ c, Held μ1 H1 c → ¬ F c := fun c hc hf => by
   rcases s1.held hc with h | h
   · exact hF c h hf
   · have := ctx.bounds hJ c hf; omega
 have hJ1 := ctx.stays hJ (s1.idle hs fun c hf hc => hF c hc hf)
 simp only [Bool.false_eq_true, if_false] at hJ1
 obtain ⟨fn, tmps, assign, body, hyr, hR⟩ := ctx.round k F w1 M1 (fun c => Held μ1 H1 c) (args.map a1.eval) vs hJ1 hL hargs0 (fun c hc => ⟨hF1 c hc, hc.lt s1.sim⟩)
 have hrun : (Oper.semAt (fnc none).round a1.eval ⟨dst, .call ⟨.value f, args, argTypes⟩, ty, pos, after, guard⟩).run T.P w1 = .ok (.round l fn tmps assign body) w1 := by
   rw [show (fnc none).round = none from rfl, Oper.semAt_none, ← hyr]
   simp only [execOp, resolve, hfv', Deferred.ofValue, pure_bind, invoke, Array.empty_append]
 refine ⟨fun _ _ => trivial, ?_⟩
 rw [hrun]
 simp only [Oper.uponIn_round]
 refine ⟨fun h => by simp [fnc] at h, hR.mono fun e w2 hq => ?_⟩
 obtain ⟨M2, F2, i1, i2, hcase⟩ := hq
 have tail : ∀ b : Bool, (if (!b) = true then Jx F2 w2 M2 else J (k + 1) F2 w2 M2) → wpOpsIn (fnc none) 0 T.P ops Q (List.range' (l1.length + 1) l2.length) (a1.put dst (.bool b)) w2 := by
   intro b hJ2
   obtain ⟨E2, H2, e2, hK⟩ := h2 b
   obtain ⟨_, hl2, tr2⟩ := sound seat e2
   have hdl : (ops.toList.drop (l1.length + 1)).length = l2.length := by rw [List.length_drop]; omega
   have t2 := tr2 ops (ops.toList.drop (l1.length + 1)) hdl fun i o ao ho ha => by
     rw [List.getElem?_drop] at ho
     refine cOper_link (g6 (l1.length + 1 + i) o ao ho ?_) ao.sync (.refl _)
     rw [List.getElem?_append_right (by omega), show l1.length + 1 + i - l1.length = i + 1 by omega]
     exact ha
   have hs2 : Sim T.gid w2 M2 μ1 H1 := s1.sim.poke i1 fun c hc => hc
   have hE2 : ERel T.gid w2 M2 μ1 (a1.put dst (.bool b)).tmps (upd E1 d (.bool b)) := by
     rw [hdst]
     exact ERel.put (dst := some d) (fun t => i1.r (hE1 t)) (fun d' hd' => by injection hd' with hd'; subst hd'; omega) (.c (.p (.bool b))) a1.defers
   have p2 := t2.plain (ro := none) (l1.length + 1) (List.prefix_refl _) nt ds3 (a1.put dst (.bool b)) w2 M2 μ1 (by rw [put_size]; omega) (Nat.zero_le _) hs2 hE2 Q
   rw [hdl] at p2
   refine p2 fun a3 w3 M3 μ3 s3 hE3 hd3 hsz3 => hQ .normal _ _ _ _ _ _ hK (ItSt.step ctx hs2 (fun c hc hf => ?_) hJ2 s3 hE3 (by rw [hd3, put_defers, hd1, hd]) (by rw [hsz3, put_size]; omega))
   rcases i2 c hf with h | h
   · exact hF1 c hc h
   · have := hc.lt s1.sim; omega
 rcases hcase with ⟨rfl, hJ2⟩ | ⟨rfl, hJ2⟩
 · exact tail true hJ2
 · exact tail false hJ2

/-- The contract out of the body. -/
theorem iter_ok (seat : Seat T S) {g : Nat} {f : AFn} {caps : List V} (hf : S.fn g = some f) (hr : f.results = []) (h : ∀ l, ItSem T L l f.body (E0 (.yld l :: caps)) [] 0 false (fun x _ _ k st => (x = .normal ∨ x = .ret) ∧ (st = false → k = L.length))) :
   ∀ fid, T.gid fid = some g → IterOk T fid caps L := by
 intro fid hg
 obtain ⟨fn, C, s1, s2, s3, s4, s5⟩ := seat.fns fid g f hg hf
 refine ⟨fn, s1, s2, by rw [s3]; rfl, fun l J Jx ctx F w M vs tb hvs hJ => ?_⟩
 refine callsIn_of_wp s1 s3 trivial ?_ rfl
 have hrs : Rs T.gid w M (fun _ => none) (Value.func (.yield l) #[] #[] :: vs.toList) (.yld l :: caps) := Rs.cons (.c (.p (.yl l))) hvs
 have hE := E0_rel hrs (fn.ntmps - (#[Value.func (.yield l) #[] #[]] ++ vs).size)
 have hs0 : Sim T.gid w M (fun _ => none) [] := ⟨fun b x h => absurd h (by simp), fun _ _ _ _ _ _ _ h => absurd h (by simp), fun _ _ _ _ _ h => absurd h (by simp), tb⟩
 refine h l J Jx ctx fn.ntmps C _ w _ s4 ⟨M, _, F, by simp; omega, hs0, ?_, rfl, fun c hc => ?_, hJ⟩ fun x E' H' k' st' a' w' hk hst => ?_
 · have e : (#[.func (.yield l) #[] #[]] ++ vs : Array Value) = ((Value.func (.yield l) #[] #[] :: vs.toList).toArray : Array Value) := by apply Array.ext'; simp
   show ERel T.gid w M _ ((#[.func (.yield l) #[] #[]] ++ vs) ++ Array.replicate _ Go.undef) _
   rw [e] at hE ⊢
   exact hE
 · obtain ⟨b, base, z, hb, _⟩ := hc
   cases hb
 · obtain ⟨M', μ', F', ht', hs', hE', hd', hF', hJ'⟩ := hst
   obtain ⟨hx, hfull⟩ := hk
   have hres : (results fn a'.tmps).run T.P w' = .ok (.tuple #[]) w' := by
     have e : fn.results = #[] := by
       rw [hr] at s5
       cases hq : fn.results.toList with
       | nil => exact Array.ext' (by simpa using hq)
       | cons r rs =>
         rw [hq] at s5
         simp only [cRVs] at s5
         obtain ⟨_, _, s5⟩ := bind_some_inv s5
         obtain ⟨_, _, s6⟩ := bind_some_inv s5
         cases s6
     simp [results, e]
   have fin : bodyPost T.P fn (fun e w' => (∃ v, e = .returned v) ∧ ∃ F' M', J L.length F' w' M' ∨ Jx F' w' M') .normal a' w' := by
     refine ⟨hd', _, hres, ⟨_, rfl⟩, F', M', ?_⟩
     cases st' with
     | true => exact .inr hJ'
     | false => rw [hfull rfl] at hJ'; exact .inl hJ'
   rcases hx with rfl | rfl
   · exact fin
   · exact fin

end Go.Abs

/- A seat: the program's functions are the abstract ones. -/
namespace Go.Abs

/-- Our number of a function, out of a list by the program's number; 0: none. -/
def gidOf (l : List Nat) (f : FuncId) : Option Nat :=
 match l[f]? with
 | some 0 => none
 | some (n + 1) => some (n + 1)
 | none => none

/-- The package's tables, out of a list. -/
def tabsOf (l : List (Nat × List V)) (g : Nat) : Option (List V) :=
 match l with
 | [] => none
 | (i, cs) :: l => if g = i then some cs else tabsOf l g

/-- A row of the tie: the program's number, ours, and the function. -/
structure Row where
 fid : Nat
 gid : Nat
 fn : AFn

structure RowOk (T : Tab) (r : Row) : Prop where
 ok : ∃ f, T.P.funcs[r.fid]? = some f ∧ compF T f = some (r.fn.results, r.fn.body)

theorem compF_inv {T : Tab} {f : Func} {rs : List RV} {b : AC} (h : compF T f = some (rs, b)) :
   f.name ≠ "runtime.NumGoroutine" ∧ ∃ C, f.body = some C ∧ comp T f.ntmps C = some b ∧ cRVs T f.results.toList = some rs := by
 unfold compF at h
 split at h
 · cases h
 · rename_i hn
   simp only [Option.bind_eq_some_iff, Option.map_eq_some_iff] at h
   obtain ⟨C, h1, c, h2, rs', h3, h4⟩ := h
   injection h4 with h4 h5
   subst h4; subst h5
   exact ⟨hn, C, h1, h2, h3⟩

/-- Each number of ours that the program's table gives and that has code stands in a row. -/
theorem fns_of_rows {T : Tab} {fns : List (Nat × AFn)} {S : AProg} {l : List Nat} (hg : T.gid = gidOf l) (hS : S.fn = look fns) (rows : List Row)
   (hok : ∀ r ∈ rows, RowOk T r)
   (hall : ((List.range l.length).all fun i => match gidOf l i with
     | none => true
     | some g => (fns.find? fun p => p.1 == g).isNone || rows.any fun r => r.fid == i && r.gid == g) = true)
   (hsame : ∀ r ∈ rows, look fns r.gid = some r.fn) :
   ∀ fid g f, T.gid fid = some g → S.fn g = some f → ∃ fn C, T.P.funcs[fid]? = some fn ∧ fn.name ≠ "runtime.NumGoroutine" ∧ fn.body = some C ∧ comp T fn.ntmps C = some f.body ∧ cRVs T fn.results.toList = some f.results := by
 intro fid g f h1 h2
 rw [hg] at h1
 rw [hS] at h2
 have hlt : fid < l.length := by
   unfold gidOf at h1
   split at h1
   · cases h1
   · rename_i n hn; exact (List.getElem?_eq_some_iff.1 hn).1
   · cases h1
 have h3 := List.all_eq_true.1 hall fid (List.mem_range.2 hlt)
 simp only [h1] at h3
 have hf : ∃ p, fns.find? (fun p => p.1 == g) = some p := by
   unfold look at h2
   cases hq : fns.find? (fun p => p.1 == g) with
   | none => rw [hq] at h2; cases h2
   | some p => exact ⟨p, rfl⟩
 obtain ⟨p, hp⟩ := hf
 rw [hp] at h3
 simp only [Option.isNone_some, Bool.false_or, List.any_eq_true, Bool.and_eq_true, beq_iff_eq] at h3
 obtain ⟨r, hr, e1, e2⟩ := h3
 subst e1; subst e2
 have h4 := hsame r hr
 rw [h4] at h2
 injection h2 with h2
 subst h2
 obtain ⟨fn, h5, h6⟩ := (hok r hr).ok
 obtain ⟨h7, C, h8, h9, h10⟩ := compF_inv h6
 exact ⟨fn, C, h5, h7, h8, h9, h10⟩

end Go.Abs

/- From a row's arguments to abstract values, and from the abstract answer back to the row. -/
namespace Go.Abs
open Go.ChangeShapes Go.RowKit

/-- Cells and abstract cells, one by one, where nothing is written any more. -/
def RPs (gid : Gid) (w : World) (cs : List Value) (vs : List V) : Prop :=
 cs.length = vs.length ∧ ∀ (i : Nat) (x : Value) (c : V), cs[i]? = some x → vs[i]? = some c → RP gid w (fun _ => False) x c

section
variable {H : Type} {enc : TypeId × Value → H} {P : Program} {w : World} {gid : Gid}

theorem RPs.nil : RPs gid w [] [] := ⟨rfl, by simp⟩
theorem RPs.one {x : Value} {c : V} (h : RP gid w (fun _ => False) x c) : RPs gid w [x] [c] := by
 refine ⟨rfl, fun i y d hy hd => ?_⟩
 cases i with
 | zero => simp at hy hd; subst hy; subst hd; exact h
 | succ i => simp at hy

theorem RPs.append {a b : List Value} {c d : List V} (h : RPs gid w a c) (k : RPs gid w b d) : RPs gid w (a ++ b) (c ++ d) := by
 refine ⟨by simp [h.1, k.1], fun i x y hx hy => ?_⟩
 by_cases hi : i < a.length
 · rw [List.getElem?_append_left hi] at hx
   rw [List.getElem?_append_left (by rw [← h.1]; exact hi)] at hy
   exact h.2 i x y hx hy
 · rw [List.getElem?_append_right (by omega)] at hx
   rw [List.getElem?_append_right (by rw [← h.1]; omega), ← h.1] at hy
   exact k.2 _ x y hx hy

/-- What a type's cells read as: an abstract value of the kind Q. -/
def Rd (enc : TypeId × Value → H) (P : Program) (w : World) (gid : Gid) (t : TypeId) (Q : V → Prop) : Prop :=
 ∀ (fuel : Nat) (cs : List Value) (d : DataW H) (ps : List MemPlace), DataW.trod enc P w 0 (fun _ => true) true fuel t cs = some (d, ps) → ∃ v, Q v ∧ v.isTup = false ∧ RPs gid w cs v.cells

theorem Rd.mono {t : TypeId} {Q Q' : V → Prop} (h : Rd enc P w gid t Q) (hq : ∀ v, Q v → Q' v) : Rd enc P w gid t Q' := fun fuel cs d ps e => by
 obtain ⟨v, h1, h2, h3⟩ := h fuel cs d ps e
 exact ⟨v, hq v h1, h2, h3⟩

theorem rd_bool {t : TypeId} (ht : P.underlying t = some .bool) : Rd enc P w gid t (fun v => ∃ b, v = .bool b) := by
 intro fuel cs d ps h
 cases fuel with
 | zero => cases h
 | succ fuel =>
   unfold DataW.trod at h
   rw [ht] at h
   simp only at h
   split at h <;> rename_i h1 <;> try (cases h1; done)
   · exact ⟨_, ⟨_, rfl⟩, rfl, .one (.bool _)⟩
   all_goals (try (simp at h1; done))
   cases h

theorem rd_int {t : TypeId} {k : IntKind} (ht : P.underlying t = some (.int k)) : Rd enc P w gid t (fun v => ∃ n, v = .int k n ∧ k.min ≤ n ∧ n ≤ k.max) := by
 intro fuel cs d ps h
 cases fuel with
 | zero => cases h
 | succ fuel =>
   unfold DataW.trod at h
   rw [ht] at h
   simp only at h
   split at h <;> rename_i h1 <;> try (cases h1; done)
   · injection h1 with h1; injection h1 with h1
     subst h1
     split at h
     · rename_i hc
       obtain ⟨rfl, hw⟩ := hc
       simp only [Lit.wf, Bool.and_eq_true, decide_eq_true_eq] at hw
       exact ⟨_, ⟨_, rfl, hw.1, hw.2⟩, rfl, .one (.int _ _)⟩
     · cases h
   all_goals (try (simp at h1; done))
   cases h

theorem mapM_some {α β : Type} {f : α → Option β} : ∀ {l : List α} {r : List β}, l.mapM f = some r → l.length = r.length ∧ ∀ (i : Nat) (a : α) (b : β), l[i]? = some a → r[i]? = some b → f a = some b := by
 intro l
 induction l with
 | nil => intro r h; simp at h; subst h; exact ⟨rfl, by simp⟩
 | cons x xs ih =>
   intro r h
   rw [List.mapM_cons] at h
   simp only [Option.bind_eq_bind, Option.bind_eq_some_iff, Option.pure_def, Option.some.injEq] at h
   obtain ⟨y, h1, ys, h2, h3⟩ := h
   subst h3
   obtain ⟨e1, e2⟩ := ih h2
   refine ⟨by simp [e1], fun i a b ha hb => ?_⟩
   cases i with
   | zero => simp at ha hb; subst ha; subst hb; exact h1
   | succ i => exact e2 i a b (by simpa using ha) (by simpa using hb)

theorem choose_list {α : Type} {R : Nat → α → Prop} : ∀ (n : Nat), (∀ i, i < n → ∃ a, R i a) → ∃ l : List α, l.length = n ∧ ∀ (i : Nat) (a : α), l[i]? = some a → R i a
 | 0, _ => ⟨[], rfl, by simp⟩
 | n + 1, h => by
   obtain ⟨l, h1, h2⟩ := choose_list (R := R) n (fun i hi => h i (by omega))
   obtain ⟨a, ha⟩ := h n (by omega)
   refine ⟨l ++ [a], by simp [h1], fun i b hb => ?_⟩
   by_cases hi : i < l.length
   · rw [List.getElem?_append_left hi] at hb; exact h2 i b hb
   · have hin : i = n := by
       have := (List.getElem?_eq_some_iff.1 hb).1
       simp at this; omega
     subst hin
     rw [List.getElem?_append_right (by omega)] at hb
     simp [h1] at hb
     subst hb
     exact ha

theorem cell_lt {a : Addr} {v : Value} (h : w.cell? a = some v) : a.block < w.heap.size ∧ a.spot = none := by
 unfold World.cell? at h
 split at h
 · rename_i c e fr hw
   split at h
   · cases h
   · rename_i hs
     exact ⟨(Array.getElem?_eq_some_iff.1 hw).1, by cases hq : a.spot <;> simp [hq] at hs ⊢⟩
 · cases h

theorem add_flat {a : Addr} (h : a.spot = none) (n : Nat) : a.add n = ⟨a.block, a.off + n, none⟩ := by
 unfold Addr.add
 split
 · rename_i e; subst e; cases a; simp at h; subst h; rfl
 · rfl

theorem rd_slice {t e : TypeId} {z : Nat} {Q : V → Prop} (ht : P.underlying t = some (.slice e)) (hz : P.cellsOf e = z) (h0 : 0 < z) (hQ : Rd enc P w gid e Q) (hlen : ∀ v, Q v → v.cells.length = z) :
   Rd enc P w gid t (fun v => ∃ l : List V, v = .sl l ∧ (∀ x ∈ l, Q x) ∧ l.length ≤ maxLen) := by
 intro fuel cs d ps h
 cases fuel with
 | zero => cases h
 | succ fuel =>
   unfold DataW.trod at h
   rw [ht] at h
   simp only at h
   split at h <;> rename_i h1 <;> try (cases h1; done)
   all_goals (try (simp at h1; done))
   · exact ⟨.sl [], ⟨[], rfl, by simp, by simp⟩, rfl, .one .sl0⟩
   · rename_i a len cap
     injection h1 with h1; injection h1 with h1
     subst h1
     split at h
     · rename_i hc
       simp only [Option.bind_eq_some_iff, Option.map_eq_some_iff] at h
       obtain ⟨elems, h2, rest, h3, h4⟩ := h
       obtain ⟨e1, e2⟩ := mapM_some h2
       simp at e1
       have row0 : ∀ i, i < len → ∃ row v, (Q v ∧ v.isTup = false ∧ v.cells.length = z) ∧ RPs gid w row v.cells ∧ row.length = z ∧ ∀ j x, row[j]? = some x → w.cell? ((a.add (i * z)).add j) = some x := by
         intro i hi
         have hel := e2 i i (elems[i]'(by omega)) (by simp [hi]) (List.getElem?_eq_getElem _)
         obtain ⟨row, g1, g2⟩ := Option.bind_eq_some_iff.1 hel
         obtain ⟨v, q1, q2, q3⟩ := hQ fuel row _ _ g2
         have hl := hlen v q1
         unfold World.cells? at g1
         rw [if_pos (Nat.zero_le _), hz] at g1
         obtain ⟨m1, m2⟩ := mapM_some g1
         simp at m1
         refine ⟨row, v, ⟨q1, q2, hl⟩, q3, m1.symm, fun j x hj => ?_⟩
         have hjlt : j < z := by rw [m1]; exact (List.getElem?_eq_some_iff.1 hj).1
         exact m2 j j x (by simp [hjlt]) hj
       have flat : 0 < len → a.spot = none ∧ a.block < w.heap.size := by
         intro hp
         obtain ⟨row, v, _, _, hrl, hr⟩ := row0 0 hp
         have h5 := hr 0 (row[0]'(by omega)) (List.getElem?_eq_getElem _)
         have e0 : (a.add (0 * z)).add 0 = a := by simp [Addr.add]
         rw [e0] at h5
         obtain ⟨b1, b2⟩ := cell_lt h5
         exact ⟨b2, b1⟩
       have key : ∀ i, i < len → ∃ v, (Q v ∧ v.isTup = false ∧ v.cells.length = z) ∧ a.spot = none ∧ a.block < w.heap.size ∧ ∃ f : Nat → Value, ∀ (j : Nat) (c : V), v.cells[j]? = some c → w.cell? ⟨a.block, a.off + (i * z + j), none⟩ = some (f j) ∧ RP gid w (fun _ => False) (f j) c := by
         intro i hi
         obtain ⟨hsp, hbl⟩ := flat (by omega)
         obtain ⟨row, v, hv, hrp, hrl, hr⟩ := row0 i hi
         refine ⟨v, hv, hsp, hbl, fun j => (row[j]?).getD Go.undef, fun j c hj => ?_⟩
         have hjlt : j < z := by rw [← hv.2.2]; exact (List.getElem?_eq_some_iff.1 hj).1
         have hrj : row[j]? = some (row[j]'(by omega)) := List.getElem?_eq_getElem _
         have g := hr j _ hrj
         refine ⟨?_, ?_⟩
         · simp only [hrj, Option.getD_some]
           rw [← g]
           rw [add_flat hsp, add_flat rfl, Nat.add_assoc]
         · simp only [hrj, Option.getD_some]
           exact hrp.2 j _ c hrj hj
       obtain ⟨l, l1, l2⟩ := choose_list len key
       have hF : ∃ f : Nat → Nat → Value, ∀ (i : Nat) (e : V) (j : Nat) (c : V), l[i]? = some e → e.cells[j]? = some c → w.cell? ⟨a.block, a.off + (i * z + j), none⟩ = some (f i j) ∧ RP gid w (fun _ => False) (f i j) c := by
         refine ⟨fun i j => (w.cell? ⟨a.block, a.off + (i * z + j), none⟩).getD Go.undef, fun i e j c hi hj => ?_⟩
         obtain ⟨_, _, _, f, hf⟩ := l2 i e hi
         obtain ⟨g1, g2⟩ := hf j c hj
         refine ⟨by simp only [g1, Option.getD_some], ?_⟩
         simp only [g1, Option.getD_some]
         exact g2
       obtain ⟨f, hf⟩ := hF
       have any : l ≠ [] → a.spot = none ∧ a.block < w.heap.size := by
         intro hn
         cases hl : l with
         | nil => exact absurd hl hn
         | cons x xs =>
           obtain ⟨_, g1, g2, _⟩ := l2 0 x (by rw [hl]; rfl)
           exact ⟨g1, g2⟩
       refine ⟨.sl l, ⟨l, rfl, fun x hx => ?_, ?_⟩, rfl, .one ?_⟩
       · obtain ⟨i, hi⟩ := List.getElem?_of_mem hx
         exact (l2 i x hi).1.1
       · omega
       · exact .sl a len cap z l f l1.symm (fun hn => (any hn).1) (fun _ h => h) (fun hn => (any hn).2) hc.2.1 (fun i e hi => (l2 i e hi).1.2.2) (fun i e j c hi hj => (hf i e j c hi hj).1) (fun i e j c hi hj => (hf i e j c hi hj).2)
     · cases h
   · cases h

/-- The fields of a struct, one behind the other. -/
theorem rd_fields {fuel : Nat} : ∀ (fs : List Field) (Qs : List (V → Prop)) (cs : List Value) (off : Nat) (xs : List (DataW H × List MemPlace)),
   fs.length = Qs.length → (∀ (i : Nat) (f : Field) (Q : V → Prop), fs[i]? = some f → Qs[i]? = some Q → Rd enc P w gid f.type Q) →
   (fs.foldl (fun (o : Option Nat) f => o.bind fun o => if f.offset = o then some (o + P.cellsOf f.type) else none) (some off) = some cs.length) → off ≤ cs.length →
   (fs.mapM fun f => DataW.trod enc P w 0 (fun _ => true) true fuel f.type ((cs.drop f.offset).take (P.cellsOf f.type))) = some xs →
   ∃ vs : List V, vs.length = Qs.length ∧ (∀ (i : Nat) (v : V) (Q : V → Prop), vs[i]? = some v → Qs[i]? = some Q → Q v ∧ v.isTup = false) ∧ RPs gid w (cs.drop off) (vs.flatMap V.cells)
 | [], Qs, cs, off, xs, hl, _, hoff, _, _ => by
   simp at hoff hl
   refine ⟨[], by simp [hl], by simp, ?_⟩
   rw [hoff]
   simp
   exact .nil
 | f :: fs, Qs, cs, off, xs, hl, hQ, hoff, hle, h => by
   cases Qs with
   | nil => simp at hl
   | cons Q Qs =>
     simp only [List.foldl_cons, Option.bind_some] at hoff
     split at hoff
     · rename_i ho
       rw [List.mapM_cons] at h
       simp only [Option.bind_eq_bind, Option.bind_eq_some_iff, Option.pure_def, Option.some.injEq] at h
       obtain ⟨x, h1, ys, h2, h3⟩ := h
       have grow : ∀ (fs : List Field) (o n : Nat), fs.foldl (fun (o : Option Nat) f => o.bind fun o => if f.offset = o then some (o + P.cellsOf f.type) else none) (some o) = some n → o ≤ n := by
         intro fs
         induction fs with
         | nil => intro o n h; simp at h; omega
         | cons g gs ih =>
           intro o n h
           simp only [List.foldl_cons, Option.bind_some] at h
           split at h
           · have := ih _ _ h; omega
           · have none' : ∀ (gs : List Field), gs.foldl (fun (o : Option Nat) f => o.bind fun o => if f.offset = o then some (o + P.cellsOf f.type) else none) none = none := by
               intro gs
               induction gs with
               | nil => rfl
               | cons _ _ ih => simpa using ih
             rw [none'] at h; cases h
       have hle2 := grow fs _ _ hoff
       obtain ⟨v, q1, q2, q3⟩ := hQ 0 f Q rfl rfl fuel _ _ _ h1
       obtain ⟨vs, v1, v2, v3⟩ := rd_fields fs Qs cs (off + P.cellsOf f.type) ys (by simpa using hl) (fun i g R hg hR => hQ (i + 1) g R (by simpa using hg) (by simpa using hR)) hoff hle2 h2
       refine ⟨v :: vs, by simp [v1], fun i u R hu hR => ?_, ?_⟩
       · cases i with
         | zero => simp at hu hR; subst hu; subst hR; exact ⟨q1, q2⟩
         | succ i => exact v2 i u R (by simpa using hu) (by simpa using hR)
       · rw [List.flatMap_cons]
         have e : cs.drop off = (cs.drop f.offset).take (P.cellsOf f.type) ++ cs.drop (off + P.cellsOf f.type) := by
           rw [ho, ← List.drop_drop]
           exact (List.take_append_drop _ _).symm
         rw [e]
         exact q3.append v3
     · have none' : ∀ (gs : List Field), gs.foldl (fun (o : Option Nat) f => o.bind fun o => if f.offset = o then some (o + P.cellsOf f.type) else none) none = none := by
         intro gs
         induction gs with
         | nil => rfl
         | cons _ _ ih => simpa using ih
       rw [none'] at hoff; cases hoff

theorem rd_struct {t : TypeId} {fs : Array Field} {z : Nat} (Qs : List (V → Prop)) (ht : P.underlying t = some (.struct fs)) (hz : P.cellsOf t = z) (hl : fs.toList.length = Qs.length)
   (hQ : ∀ (i : Nat) (f : Field) (Q : V → Prop), fs.toList[i]? = some f → Qs[i]? = some Q → Rd enc P w gid f.type Q)
   (hoff : fs.toList.foldl (fun (o : Option Nat) f => o.bind fun o => if f.offset = o then some (o + P.cellsOf f.type) else none) (some 0) = some z) :
   Rd enc P w gid t (fun v => ∃ vs : List V, v = .agg (vs.flatMap V.cells) ∧ vs.length = Qs.length ∧ ∀ (i : Nat) (v : V) (Q : V → Prop), vs[i]? = some v → Qs[i]? = some Q → Q v) := by
 intro fuel cs d ps h
 cases fuel with
 | zero => cases h
 | succ fuel =>
   unfold DataW.trod at h
   rw [ht] at h
   simp only at h
   split at h
   · rename_i hcs
     rw [hz] at hcs
     obtain ⟨xs, h2, h3⟩ := Option.map_eq_some_iff.1 h
     obtain ⟨vs, v1, v2, v3⟩ := rd_fields fs.toList Qs cs 0 xs hl hQ (by rw [hcs]; exact hoff) (Nat.zero_le _) h2
     exact ⟨.agg (vs.flatMap V.cells), ⟨vs, rfl, v1, fun i v Q hv hq => (v2 i v Q hv hq).1⟩, rfl, by simp only [List.drop_zero] at v3; exact v3⟩
   · cases h

theorem RPs.get {μ : Inj} {cs : List Value} {vs : List V} (h : RPs gid w cs vs) : ∀ (i : Nat) (x : Value) (c : V), cs[i]? = some x → vs[i]? = some c → RC gid w (fun _ => False) μ x c := fun i x c hx hc => .p (h.2 i x c hx hc)

/-- An argument of a struct's type. -/
theorem Rd.struct {μ : Inj} {t : TypeId} {Q : V → Prop} {fs : Array Field} {r : Reach} {base : Nat} (hQ : Rd enc P w gid t Q) (ht : P.underlying t = some (.struct fs)) (hagg : ∀ a, Q a → ∃ cs, a = .agg cs) {v : Value} {d : DataW H} {ps : List MemPlace}
   (h : DataW.Trod enc P w 0 (fun _ => true) true t v d ps) (hok : Value.okWide P w r base t v) : ∃ a, Q a ∧ R gid w (fun _ => False) μ v a := by
 obtain ⟨fuel, h⟩ := h
 unfold Value.okWide at hok
 rw [ht] at hok
 obtain ⟨cs, rfl, _⟩ := hok
 obtain ⟨a, q1, _, q3⟩ := hQ fuel _ d ps h
 obtain ⟨as', rfl⟩ := hagg a q1
 exact ⟨_, q1, .agg cs as' (by have := q3.1; simp only [Value.cells, Array.length_toList] at this; exact this) fun i x c hx hc => .p (q3.2 i x c (by simpa [Value.cells] using hx) hc)⟩

/-- An argument of one cell. -/
theorem Rd.cell {μ : Inj} {t : TypeId} {Q : V → Prop} (hQ : Rd enc P w gid t Q) (hcell : ∀ a, Q a → a.isCell = true) {v : Value} {d : DataW H} {ps : List MemPlace}
   (h : DataW.Trod enc P w 0 (fun _ => true) true t v d ps) (hv : v.cells = #[v]) : ∃ a, Q a ∧ R gid w (fun _ => False) μ v a := by
 obtain ⟨fuel, h⟩ := h
 obtain ⟨a, q1, _, q3⟩ := hQ fuel _ d ps h
 rw [hv, V.cells_cell (hcell a q1)] at q3
 exact ⟨a, q1, .c (.p (q3.2 0 v a rfl rfl))⟩

theorem trodAll_stays (hl : laidOutB P = true) {W W' : World} {sp : Nat → Bool} : ∀ {ts : List TypeId} {vs : List Value} {ds : List (DataW H)} {ps : List MemPlace}, (∀ t ∈ ts, P.readableRec t = true ∧ t < P.types.size) →
   DataW.TrodAll enc P W 0 (fun _ => true) true ts vs ds ps → (∀ p ∈ ps, W.sameAt W' p) → (∀ p ∈ ps, sp p.block = true) → DataW.TrodAll enc P W' 0 sp true ts vs ds ps
 | [], vs, ds, ps, _, h, _, _ => by
   obtain ⟨rfl, rfl, rfl⟩ := trodAll_nil h
   exact h
 | t :: ts, vs, ds, ps, hr, h, hs, hsp => by
   obtain ⟨v, vs', d, ds', p, q, rfl, rfl, rfl, h1, h2⟩ := trodAll_cons h
   exact ⟨p, q, WideElems.Trod_stays hl (hr t (by simp)).1 (hr t (by simp)).2 h1 (fun x hx => hs x (List.mem_append_left _ hx)) (fun x hx => hsp x (List.mem_append_left _ hx)),
     trodAll_stays hl (fun u hu => hr u (by simp [hu])) h2 (fun x hx => hs x (List.mem_append_right _ hx)) (fun x hx => hsp x (List.mem_append_right _ hx)), rfl⟩

/-- What the row asks behind a call that returned true and turned nothing that was there. -/
theorem post_true {f : Func} {s : ChangeSpec} {apart fresh handsOn again : Bool} {W W' : World} {args : Array Value} {ds gs : List (DataW H)} {before : List MemPlace} {tb : TypeId}
   (hl : laidOutB P = true) (hvars : s.vars = []) (hr : ∀ t ∈ f.params.toList, P.readableRec t = true ∧ t < P.types.size) (hres : f.resultTypes = #[tb]) (htb : P.underlying tb = some .bool)
   (hfn : (s.fn H (ds ++ gs)).results = [.lit (.bool true)] ∧ (s.fn H (ds ++ gs)).args = ds ∧ (s.fn H (ds ++ gs)).vars = [])
   (hW : DataW.Whole enc P f.params.toList s.vars apart W args.toList ds gs before) (hb : Below W.heap.size W W') :
   s.post enc P f apart fresh handsOn again W args (.bool true) W' := by
 have hlt := hW.lt
 have hW0 := hW
 obtain ⟨p, q, hA, hV, rfl, hz, hn⟩ := hW
 rw [hvars] at hV
 obtain ⟨hq, hg⟩ : q = [] ∧ gs = [] := by
   cases gs with
   | nil => exact ⟨hV, rfl⟩
   | cons _ _ => exact hV.elim
 subst hq; subst hg
 simp only [List.append_nil] at hW0 hz hn hlt
 have hA' : ∀ sp : Nat → Bool, (∀ x ∈ p, sp x.block = true) → DataW.TrodAll enc P W' 0 sp true f.params.toList args.toList ds p := fun sp hsp =>
   trodAll_stays hl hr hA (fun x hx => hb.same (hlt x hx)) hsp
 have hrv : (Value.bool true).resultList f.resultTypes.size = [.bool true] := by rw [hres]; rfl
 have hR : ∀ (b : Nat) (sp : Nat → Bool) (hd : Bool), DataW.TrodAll enc P W' b sp hd f.resultTypes.toList ((Value.bool true).resultList f.resultTypes.size) (s.fn H (ds ++ [])).results [] := by
   intro b sp hd
   rw [hfn.1, hrv, hres]
   exact trodAll_mk1 (shut_bool htb true)
 have hVs : ∀ (sp : Nat → Bool), DataW.TrodVars enc P W' sp s.vars (s.fn H (ds ++ [])).vars [] := by
   intro sp
   rw [hfn.2.2, hvars]
   rfl
 refine ⟨ds, [], p, [], p, [], hW0, hR _ _ _, by rw [hfn.2.1]; exact hA' _ (fun x hx => by simpa using hlt x hx), hVs _, hb.frame _, fun _ => ⟨?_, ?_⟩⟩
 · exact ok_one hres rfl (okWide_bool_mk htb true)
 · refine ⟨_, _, ([] ++ p) ++ [], ⟨[] ++ p, [], trodAll_append (hA' _ (fun _ _ => rfl)) (hR _ _ _), hVs _, rfl, ?_, ?_⟩, ?_⟩
   · intro b off hp
     rw [hb.frozen (p := ⟨b, off, none⟩) (hlt (.cell b off) (by simpa using hp))]
     exact hz b off (by simpa using hp)
   · intro ha
     simpa using hn ha
   · intro x hx _
     simpa using hx

/-- A law's call, out of the abstract machine. -/
theorem law_calls {T : Tab} {S : AProg} (seat : Seat T S) {g fid : Nat} (hg : T.gid fid = some g) {args : List V} (hc : Ev S (.call g args []) (.ret (.bool true) [])) {W : World} {vs : List Value}
   (hr : Rs T.gid W (fun _ => False) (fun _ => none) vs args) (tb : Tabs T.gid W fun _ => False) : Calls T.P fid vs.toArray W fun e W' => e = .returned (.bool true) ∧ Below W.heap.size W W' := by
 have hs : Sim T.gid W (fun _ => False) (fun _ => none) [] := ⟨(by intro b x h; cases h), (by intro b b' c base z base' z' h; cases h), (by intro b c base z k h; cases h), tb⟩
 obtain ⟨_, h⟩ := sound seat hc
 obtain ⟨fn, _, _, _, h⟩ := h fid hg
 refine (h W _ _ vs hs hr).mono fun e W' he => ?_
 obtain ⟨v', M', μ', rfl, st, hv⟩ := he
 refine ⟨by rw [hv.inv_bool], st.os, st.tape, st.output, st.size, fun k hk => st.frame k hk ?_⟩
 intro b base z h
 cases h

end
end Go.Abs

