/- Parts of the proof: FpProg, FpWR, FpNum, FpNat, FpLen, FpLen2, FpBits. -/
import Derived.Test.YtnlmgfdifcflgaaGreatFa
import Derived.Test.YtnlmgfdifcflgaaGreatF0
import Derived.Test.YtnlmgfdifcflgaaGreatFc
/- The abstract program: the functions of this seat. -/
namespace Go.Abs

/-- Without what its iterators yield. -/
def prog0 : AProg := { fn := look fnList, prim := fun _ _ => none }

def prog : AProg := { fn := look fnList, prim := fun _ _ => none, iter := fun g caps L => ∀ T : Tab, Seat T prog0 → ∀ fid, T.gid fid = some g → IterOk T fid caps L }

theorem seat_of {T : Tab} (s : Seat T prog0) : Seat T prog := ⟨s.mixed, s.fns, fun fid _ _ _ hg hi => hi T s fid hg, s.prims⟩

theorem seat0 {T : Tab} (h1 : T.P.follows .mixedOrders = true) (h2 : ∀ fid g f, T.gid fid = some g → look fnList g = some f → ∃ fn C, T.P.funcs[fid]? = some fn ∧ fn.name ≠ "runtime.NumGoroutine" ∧ fn.body = some C ∧ comp T fn.ntmps C = some f.body ∧ cRVs T fn.results.toList = some f.results) : Seat T prog :=
 seat_of ⟨h1, h2, fun _ _ _ _ _ h => h.elim, fun _ _ _ _ _ _ h => by cases h⟩

theorem iter_prog {g : Nat} {f : AFn} {caps : List V} {L : List (List V)} (hf : look fnList g = some f) (hr : f.results = [])
   (h : ∀ (T : Tab) (l : Nat), Seat T prog → ItSem T L l f.body (E0 (.yld l :: caps)) [] 0 false (fun x _ _ k st => (x = .normal ∨ x = .ret) ∧ (st = false → k = L.length))) : prog.iter g caps L :=
 fun T s fid hg => iter_ok (seat_of s) (S := prog) hf hr (fun l => h T l (seat_of s)) fid hg

end Go.Abs

/- Ranges over a function: the rules for contracts. -/
namespace Go.Abs

/-- Behind a round. -/
def rndP (I : Heap → Prop) (W : AX → Heap → Prop) : AX → Heap → Prop
 | .normal, H => I H
 | x, H => W x H
@[simp] theorem rndP_normal {I : Heap → Prop} {W : AX → Heap → Prop} {H : Heap} : rndP I W .normal H ↔ I H := Iff.rfl
@[simp] theorem rndP_ret {I : Heap → Prop} {W : AX → Heap → Prop} {H : Heap} : rndP I W .ret H ↔ W .ret H := Iff.rfl
@[simp] theorem rndP_exit {I : Heap → Prop} {W : AX → Heap → Prop} {H : Heap} {id : Nat} : rndP I W (.exit id) H ↔ W (.exit id) H := Iff.rfl

theorem WK_rfor {S : AProg} {n0 : Nat} {Q : AX → Env → Heap → Prop} {x : X} {ps : List Nat} {a c : AC} {K : List Fr} {E : Env} {H : Heap} {g : Nat} {caps : List V} {L : List (List V)} (hx : getX E x = .fn g caps) (hp : caps.all V.pure = true) (hi : S.iter g caps L)
   (I : Nat → Heap → Prop) (h0 : I 0 H)
   (hr : ∀ k vs H', L[k]? = some vs → I k H' → vs.length = ps.length ∧ WK S n0 a [] (bindE E ps vs) H' (fun y E1 H1 => y = .normal ∧ WK S n0 c [] E1 H1 (fun y _ H2 => rndP (I (k + 1)) (fun y H => WP S n0 Q K y E H) y H2)))
   (hd : ∀ H', I L.length H' → WP S n0 Q K .normal E H') : WK S n0 (.rfor x ps a c) K E H Q := by
 have key : ∀ (L' : List (List V)) (k : Nat) (H : Heap), (∀ j, L'[j]? = L[k + j]?) → k + L'.length = L.length → I k H → ∃ y H1, Ev S (.rnds n0 ps a c L' E H) (.cd y E H1) ∧ WP S n0 Q K y E H1 := by
   intro L'
   induction L' with
   | nil => exact fun k H _ hk hI => ⟨.normal, H, .rndNil, hd H (by rw [← hk]; simpa using hI)⟩
   | cons vs L' ih =>
     intro k H hL hk hI
     have hv : L[k]? = some vs := by have := hL 0; simpa using this.symm
     obtain ⟨h1, x1, E1, H1, e1, rfl, x2, E2, H2, e2, q2⟩ := hr k vs H hv hI
     cases x2 with
     | normal =>
       obtain ⟨y, H3, e3, q3⟩ := ih (k + 1) H2 (fun j => by have := hL (j + 1); rw [show k + 1 + j = k + (j + 1) by omega, ← this]; rfl) (by simp at hk; omega) q2
       exact ⟨y, H3, .rndGo h1 e1 e2 e3, q3⟩
     | exit id => exact ⟨_, H2, .rndStop h1 e1 e2 (by simp), q2⟩
     | ret => exact ⟨_, H2, .rndStop h1 e1 e2 (by simp), q2⟩
 obtain ⟨y, H1, e, q⟩ := key L 0 H (fun j => by rw [Nat.zero_add]) (by simp) h0
 exact ⟨y, E, H1, .rfor hx hp hi e, q⟩

/-- Behind a round of a loop that may be left by a break. -/
def rndB (id : Nat) (I D : Heap → Prop) (W : AX → Heap → Prop) : AX → Heap → Prop
 | .normal, H => I H
 | .exit i, H => if i = id then D H else W (.exit i) H
 | .ret, H => W .ret H
@[simp] theorem rndB_normal {id : Nat} {I D : Heap → Prop} {W : AX → Heap → Prop} {H : Heap} : rndB id I D W .normal H ↔ I H := Iff.rfl
@[simp] theorem rndB_ret {id : Nat} {I D : Heap → Prop} {W : AX → Heap → Prop} {H : Heap} : rndB id I D W .ret H ↔ W .ret H := Iff.rfl
@[simp] theorem rndB_exit {id i : Nat} {I D : Heap → Prop} {W : AX → Heap → Prop} {H : Heap} : rndB id I D W (.exit i) H ↔ if i = id then D H else W (.exit i) H := Iff.rfl

theorem WK_rforB {S : AProg} {n0 : Nat} {Q : AX → Env → Heap → Prop} {x : X} {ps : List Nat} {a c : AC} {K : List Fr} {E : Env} {H : Heap} {g id : Nat} {caps : List V} {L : List (List V)} (hx : getX E x = .fn g caps) (hp : caps.all V.pure = true) (hi : S.iter g caps L)
   (I : Nat → Heap → Prop) (D : Heap → Prop) (h0 : I 0 H)
   (hr : ∀ k vs H', L[k]? = some vs → I k H' → vs.length = ps.length ∧ WK S n0 a [] (bindE E ps vs) H' (fun y E1 H1 => y = .normal ∧ WK S n0 c [] E1 H1 (fun y _ H2 => rndB id (I (k + 1)) D (fun y H => WP S n0 Q (.blk id :: K) y E H) y H2)))
   (hd : ∀ H', I L.length H' → D H') (hf : ∀ H', D H' → WP S n0 Q K .normal E H') : WK S n0 (.rfor x ps a c) (.blk id :: K) E H Q := by
 refine WK_rfor hx hp hi I h0 (fun k vs H' hL hI => ?_) fun H' h => by simpa [AX.outOf] using hf H' (hd H' h)
 obtain ⟨h1, x1, E1, H1, e1, h2, x2, E2, H2, e2, q2⟩ := hr k vs H' hL hI
 refine ⟨h1, x1, E1, H1, e1, h2, x2, E2, H2, e2, ?_⟩
 cases x2 with
 | normal => exact q2
 | ret => exact q2
 | exit i =>
   simp only [WP_nil, rndB_exit, rndP_exit] at q2 ⊢
   split at q2
   · rename_i e
     subst e
     simpa [AX.outOf] using hf H2 q2
   · exact q2

section
variable {T : Tab} {L : List (List V)} {l : Nat} {S : AProg}

theorem it_wk (seat : Seat T S) {c : AC} {E : Env} {H : Heap} {k : Nat} {st : Bool} {K : AX → Env → Heap → Nat → Bool → Prop} (hf : c.flat = true) (h : WK S 0 c [] E H (fun x E H => K x E H k st)) : ItSem T L l c E H k st K := by
 obtain ⟨x, E1, H1, e, q⟩ := h
 exact it_ev seat hf e q

theorem it_yield_wl (seat : Seat T S) {l1 l2 : List AOper} {d y : Nat} {xs : List X} {sy : Bool} {E : Env} {H : Heap} {k : Nat} {K : AX → Env → Heap → Nat → Bool → Prop}
   (h : WL S 0 false l1 [] E H (fun _ E1 H1 => E1 y = .yld l ∧ (xs.map (getX E1)).all V.pure = true ∧ L[k]? = some (xs.map (getX E1)) ∧ ∀ b : Bool, WL S 0 false l2 [] (upd E1 d (.bool b)) H1 (fun _ E2 H2 => K .normal E2 H2 (k + 1) (!b)))) :
   ItSem T L l (.region false (l1 ++ ⟨some d, .call (.t y) xs, none, sy⟩ :: l2)) E H k false K := by
 obtain ⟨E1, H1, e1, hy, hp, hL, h2⟩ := h
 exact it_yield seat e1 hy rfl hp hL fun b => by
   obtain ⟨E2, H2, e2, q⟩ := h2 b
   exact ⟨E2, H2, e2, q⟩

theorem it_scope {c : AC} {E : Env} {H : Heap} {k : Nat} {st : Bool} {K : AX → Env → Heap → Nat → Bool → Prop} (h : ItSem T L l c E H k st K) : ItSem T L l (.scope c) E H k st K := by
 intro J Jx ctx nt C a w Q hc hst hQ
 obtain ⟨A, rfl, g1⟩ := comp_inv hc
 refine wpIn_scope (h J Jx ctx nt A a w _ g1 hst fun x E' H' k' st' a' w' hk hs => ⟨hQ _ _ _ _ _ _ _ hk hs, fun l h => ?_⟩)
 cases x <;> cases h

/-- Two pieces; the first one leaves by its end alone. -/
theorem it_then {ca cb : AC} {E : Env} {H : Heap} {k : Nat} {st : Bool} {K : AX → Env → Heap → Nat → Bool → Prop} (K1 : Env → Heap → Nat → Bool → Prop) (h : ItSem T L l ca E H k st (fun x E H k st => x = .normal ∧ K1 E H k st)) (hN : ∀ E1 H1 k1 st1, K1 E1 H1 k1 st1 → ItSem T L l cb E1 H1 k1 st1 K) : ItSem T L l (.seq ca cb) E H k st K :=
 it_seq h (fun E1 H1 k1 st1 hk => hN E1 H1 k1 st1 hk.2) (fun _ _ _ _ _ hx hk => absurd hk.1 hx)
end

end Go.Abs

/- Numbers out of limbs. -/
namespace Go.Abs

/-- The number that limbs are, the least significant one first. -/
def natV : List Nat → Nat
 | [] => 0
 | x :: l => x + 4294967296 * natV l

def Li (l : List Nat) : Prop := ∀ x ∈ l, x < 4294967296

theorem Li.cons {x : Nat} {l : List Nat} (h : Li (x :: l)) : x < 4294967296 ∧ Li l := ⟨h x (by simp), fun y hy => h y (by simp [hy])⟩
theorem Li.take {l : List Nat} (h : Li l) (n : Nat) : Li (l.take n) := fun x hx => h x (List.mem_of_mem_take hx)
theorem Li.drop {l : List Nat} (h : Li l) (n : Nat) : Li (l.drop n) := fun x hx => h x (List.mem_of_mem_drop hx)
theorem Li.append {l m : List Nat} (h : Li l) (k : Li m) : Li (l ++ m) := fun x hx => (List.mem_append.1 hx).elim (h x) (k x)

theorem natV_append : ∀ (l m : List Nat), natV (l ++ m) = natV l + 4294967296 ^ l.length * natV m
 | [], m => by simp [natV]
 | x :: l, m => by
   simp only [List.cons_append, natV, natV_append l m, List.length_cons, Nat.pow_succ]
   rw [Nat.mul_add, ← Nat.mul_assoc, Nat.mul_comm 4294967296 (4294967296 ^ l.length)]
   omega

theorem natV_lt : ∀ {l : List Nat}, Li l → natV l < 4294967296 ^ l.length
 | [], _ => by simp [natV]
 | x :: l, h => by
   have h1 := natV_lt h.cons.2
   have h2 := h.cons.1
   simp only [natV, List.length_cons, Nat.pow_succ]
   omega

theorem natV_zeros (n : Nat) : natV (List.replicate n 0) = 0 := by
 induction n with
 | zero => rfl
 | succ n ih => simp [List.replicate_succ, natV, ih]

/-- How many limbs are left of the first n, without zeros at the top. -/
def trimN (l : List Nat) : Nat → Nat
 | 0 => 0
 | n + 1 => if l[n]? = some 0 then trimN l n else n + 1
def trimL (l : List Nat) : List Nat := l.take (trimN l l.length)

theorem trimN_le (l : List Nat) : ∀ n, trimN l n ≤ n
 | 0 => Nat.le_refl _
 | n + 1 => by unfold trimN; split; exact Nat.le_succ_of_le (trimN_le l n); exact Nat.le_refl _

theorem natV_trimN (l : List Nat) : ∀ n, n ≤ l.length → natV (l.take (trimN l n)) = natV (l.take n)
 | 0, _ => by simp [trimN]
 | n + 1, h => by
   unfold trimN
   split
   · rename_i h0
     rw [natV_trimN l n (by omega), List.take_add_one, h0, natV_append]
     simp [natV]
   · rfl

theorem natV_trimL (l : List Nat) : natV (trimL l) = natV l := by rw [trimL, natV_trimN l _ (Nat.le_refl _), List.take_length]

theorem Li.trimL {l : List Nat} (h : Li l) : Li (trimL l) := h.take _

/-- The top limb, if there is one, is not zero. -/
def Trim (l : List Nat) : Prop := ∀ x, l.getLast? = some x → x ≠ 0

theorem trimN_top (l : List Nat) : ∀ n, n ≤ l.length → ∀ m, trimN l n = m + 1 → l[m]? ≠ some 0
 | 0, _, m, h => by simp [trimN] at h
 | n + 1, hn, m, h => by
   unfold trimN at h
   split at h
   · exact trimN_top l n (by omega) m h
   · rename_i h0
     have : n = m := by omega
     subst this
     exact h0

theorem trim_trimL (l : List Nat) : Trim (trimL l) := by
 intro x hx
 unfold trimL at hx
 have hle := trimN_le l l.length
 rw [List.getLast?_eq_getElem?, List.length_take, Nat.min_eq_left hle] at hx
 cases hq : trimN l l.length with
 | zero => rw [hq] at hx; simp at hx
 | succ m =>
   rw [hq] at hx
   have h1 := trimN_top l l.length (Nat.le_refl _) m hq
   have h2 : (l.take (m + 1))[m + 1 - 1]? = l[m]? := by rw [List.getElem?_take]; simp
   rw [h2] at hx
   intro h0
   subst h0
   exact h1 hx

/-- Trimmed limbs with more limbs are more. -/
theorem natV_ge {l : List Nat} (h : Trim l) (hn : l ≠ []) : 4294967296 ^ (l.length - 1) ≤ natV l := by
 obtain ⟨x, hx⟩ : ∃ x, l.getLast? = some x := by
   cases hq : l.getLast? with
   | none => exact absurd (List.getLast?_eq_none_iff.1 hq) hn
   | some x => exact ⟨x, rfl⟩
 have hx0 := h x hx
 have : l = l.dropLast ++ [x] := by
   have := List.dropLast_concat_getLast hn
   rw [List.getLast?_eq_some_getLast hn] at hx
   injection hx with hx
   rw [hx] at this
   exact this.symm
 rw [this, natV_append]
 simp only [natV, List.length_append, List.length_dropLast, List.length_singleton, Nat.mul_zero, Nat.add_zero]
 have e : l.length - 1 + 1 - 1 = l.length - 1 := by omega
 rw [e]
 have : 4294967296 ^ (l.length - 1) * 1 ≤ 4294967296 ^ (l.length - 1) * x := Nat.mul_le_mul_left _ (by omega)
 omega

theorem natV_lt_of_len {a b : List Nat} (ha : Li a) (hb : Trim b) (h : a.length < b.length) : natV a < natV b := by
 have h1 := natV_lt ha
 have h2 := natV_ge hb (fun e => by rw [e] at h; simp at h)
 have h3 : 4294967296 ^ a.length ≤ 4294967296 ^ (b.length - 1) := Nat.pow_le_pow_right (by omega) (by omega)
 omega

/-- The first difference from the top decides. -/
theorem natV_lt_of_top {a b : List Nat} (ha : Li a) {k : Nat} (hka : k < a.length) (hkb : k < b.length) (hd : a.drop (k + 1) = b.drop (k + 1)) (h : a[k] < b[k]) : natV a < natV b := by
 have ea : a = a.take k ++ (a[k] :: a.drop (k + 1)) := by rw [← List.drop_eq_getElem_cons hka, List.take_append_drop]
 have eb : b = b.take k ++ (b[k] :: b.drop (k + 1)) := by rw [← List.drop_eq_getElem_cons hkb, List.take_append_drop]
 have h1 := natV_lt (ha.take k)
 rw [ea, eb, natV_append, natV_append]
 simp only [List.length_take, Nat.min_eq_left (Nat.le_of_lt hka), Nat.min_eq_left (Nat.le_of_lt hkb), natV] at h1 ⊢
 rw [hd]
 have h2 : 4294967296 ^ k * (a[k] + 4294967296 * natV (b.drop (k + 1))) + 4294967296 ^ k ≤ 4294967296 ^ k * (b[k] + 4294967296 * natV (b.drop (k + 1))) := by
   rw [← Nat.mul_succ]
   exact Nat.mul_le_mul_left _ (by omega)
 omega

def cmpN (x y : Nat) : Int := if x < y then -1 else if y < x then 1 else 0

end Go.Abs

/- Limbs: what the functions on lists of limbs compute. -/
namespace Go.Abs
attribute [local simp] WK_cond_iff WL_cons_iff stepL gd

def u32 (x : Nat) : V := .int .u32 (x : Int)
def lim (l : List Nat) : V := .sl (l.map u32)
def i64 (n : Int) : V := .int .i64 n
@[simp] theorem cells_u32 {x : Nat} : (u32 x).cells = [u32 x] := rfl
@[simp] theorem cells_lim {l : List Nat} : (lim l).cells = [lim l] := rfl
@[simp] theorem cells_i64 {n : Int} : (i64 n).cells = [i64 n] := rfl
@[simp] theorem isTup_u32 {x : Nat} : (u32 x).isTup = false := rfl
@[simp] theorem isTup_lim {l : List Nat} : (lim l).isTup = false := rfl
@[simp] theorem isTup_i64 {n : Int} : (i64 n).isTup = false := rfl

theorem fn_natural_trim : prog.fn g_natural_trim = some c_natural_trim := by rfl

set_option maxHeartbeats 1000000 in
theorem trim_cq (l : List Nat) (hl : l.length ≤ 9223372036854775807) : CQ prog g_natural_trim [lim l] (lim (trimL l)) := by
 refine CQ_run fn_natural_trim fun H => ?_
 simp [c_natural_trim, lim]
 refine WK_loop (fun k E H' => H' = H ∧ E 0 = lim l ∧ k ≤ l.length ∧ E 3 = .int .i64 k ∧ trimN l k = trimN l l.length) l.length ?_ ?_
 · simp [lim]
 · rintro n E H' ⟨rfl, h0, hn, h3, ht⟩
   refine WC_round ?_
   simp only [lim] at h0
   rcases n with _ | n
   · simp [c_natural_trim_l0, h0, h3, trimL, ← ht, trimN]
   · have e1 : IntKind.i64.wrap (n : Int) = n := by rw [wrap_i64] <;> omega
     have hlt : n < l.length := by omega
     have p1 : (0 : Int) ≤ (n : Int) + 1 := by omega
     by_cases hx : l[n] = 0
     · simp [c_natural_trim_l0, h0, h3, e1, hlt, hx, u32]
       refine ⟨n, by omega, rfl, by omega, rfl, ?_⟩
       rw [← ht, trimN, if_pos (by rw [List.getElem?_eq_getElem hlt, hx])]
     · simp [c_natural_trim_l0, h0, h3, e1, hlt, hx, u32, p1, hn]
       rw [trimL, ← ht, trimN, if_neg (by rw [List.getElem?_eq_getElem hlt]; simpa using hx), List.map_take]

@[simp] theorem frzVs_lim (H : Heap) (l : List Nat) (vs : List V) : frzVs H (lim l :: vs) = (frzVs H vs).bind fun p => some (lim l :: p.1, p.2) := rfl
@[simp] theorem frzVs_int (H : Heap) (k : IntKind) (n : Int) (vs : List V) : frzVs H (.int k n :: vs) = (frzVs H vs).bind fun p => some (.int k n :: p.1, p.2) := rfl
@[simp] theorem frzVs_bool (H : Heap) (b : Bool) (vs : List V) : frzVs H (.bool b :: vs) = (frzVs H vs).bind fun p => some (.bool b :: p.1, p.2) := rfl
@[simp] theorem frzVs_nil (H : Heap) : frzVs H [] = some ([], H) := rfl

theorem fn_natural_Cmp : prog.fn g_natural_Cmp = some c_natural_Cmp := by rfl

theorem prep_trim (H : Heap) (l : List Nat) : prep prog 111 H [lim l] = some ([lim l], H) := rfl

set_option maxHeartbeats 1000000 in
theorem Cmp_cq (a b : List Nat) (ha : a.length ≤ 9223372036854775807) (hb : b.length ≤ 9223372036854775807) (la : Li a) (lb : Li b) : CQ prog g_natural_Cmp [lim a, lim b] (i64 (cmpN (natV a) (natV b))) := by
 refine CQ_run fn_natural_Cmp fun H => ?_
 simp
 refine WL_call rfl rfl (prep_trim H a) (trim_cq a ha) ?_
 simp
 refine WL_call rfl rfl (prep_trim H b) (trim_cq b hb) ?_
 rw [← natV_trimL a, ← natV_trimL b]
 have ta := trim_trimL a
 have tb := trim_trimL b
 have la' := la.trimL
 have lb' := lb.trimL
 have hla : (trimL a).length ≤ 9223372036854775807 := by unfold trimL; simp; omega
 generalize trimL a = x at *
 generalize trimL b = y at *
 by_cases hlt : x.length < y.length
 · have h1 : ¬ ((x.length : Int) = (y.length : Int)) := by omega
   have h2 := natV_lt_of_len la' tb hlt
   simp [lim, hlt, h1, cmpN, h2, i64]
 · by_cases hgt : y.length < x.length
   · have h1 : ¬ ((x.length : Int) = (y.length : Int)) := by omega
     have h2 := natV_lt_of_len lb' ta hgt
     have h3 : ¬ natV x < natV y := by omega
     simp [lim, hlt, h1, cmpN, h2, h3, i64]
   · have heq : x.length = y.length := by omega
     simp [lim, heq]
     refine WK_loop (fun k E H' => H' = H ∧ E 0 = lim x ∧ E 1 = lim y ∧ k ≤ x.length ∧ E 5 = .int .i64 ((k : Int) - 1) ∧ x.drop k = y.drop k) x.length ?_ ?_
     · have e1 : IntKind.i64.wrap ((y.length : Int) - 1) = (y.length : Int) - 1 := by rw [wrap_i64] <;> omega
       have e2 : y.drop x.length = [] := by rw [heq]; exact List.drop_length
       simp [lim, e1, heq]
     · rintro n E H' ⟨rfl, h0, h1, hn, h5, hd⟩
       refine WC_round ?_
       simp only [lim] at h0 h1
       rcases n with _ | n
       · have e1 : x = y := by simpa using hd
         have e2 : ¬ ((0 : Int) ≤ -1) := by omega
         simp [c_natural_Cmp_l0, h5, e1, cmpN, i64]
       · have e1 : (n + 1 : Int) - 1 = n := by omega
         have hx : n < x.length := by omega
         have hy : n < y.length := by omega
         have p1 : ((0 : Int) ≤ n) := by omega
         by_cases hlt : x[n] < y[n]
         · have h2 := natV_lt_of_top la' hx hy hd hlt
           have h3 : ((x[n] : Int) < (y[n] : Int)) := by omega
           simp [c_natural_Cmp_l0, h0, h1, h5, e1, p1, hx, hy, u32, hlt, cmpN, h2, i64]
         · by_cases hgt : y[n] < x[n]
           · have h2 := natV_lt_of_top lb' hy hx hd.symm hgt
             have h3 : ¬ natV x < natV y := by omega
             simp [c_natural_Cmp_l0, h0, h1, h5, e1, p1, hx, hy, u32, hlt, hgt, cmpN, h2, h3, i64]
           · have e2 : IntKind.i64.wrap ((n : Int) - 1) = (n : Int) - 1 := by rw [wrap_i64] <;> omega
             simp [c_natural_Cmp_l0, h0, h1, h5, e1, p1, hx, hy, u32, hlt, hgt, e2]
             refine ⟨n, by omega, rfl, rfl, by omega, rfl, ?_⟩
             rw [List.drop_eq_getElem_cons hx, List.drop_eq_getElem_cons hy, hd]
             congr 1
             omega

end Go.Abs

/- The number of the bits of a limb. -/
namespace Go.Abs
theorem fn_Len32 : prog.fn g_math_bits_Len32 = some c_math_bits_Len32 := by rfl

/-- The number of the bits. -/
def bitL (n : Nat) : Nat := if n = 0 then 0 else Nat.log2 n + 1

theorem tab_len : ∀ i : Fin 256, str_0[i.val]? = some (UInt8.ofNat (bitL i.val)) := by decide +kernel

theorem tab_at {i : Nat} (h : i < 256) : str_0[i]? = some (UInt8.ofNat (bitL i)) := tab_len ⟨i, h⟩

theorem bitL_le {i : Nat} (h : i < 256) : bitL i ≤ 8 := by
 have : ∀ i : Fin 256, bitL i.val ≤ 8 := by decide +kernel
 exact this ⟨i, h⟩

theorem bitL_shift {n k : Nat} (h : 2 ^ k ≤ n) : bitL n = bitL (n / 2 ^ k) + k := by
 have h0 : 0 < 2 ^ k := Nat.two_pow_pos k
 have h1 : n ≠ 0 := by omega
 have h2 : n / 2 ^ k ≠ 0 := by
   have := (Nat.le_div_iff_mul_le h0 (x := 1) (y := n)).2 (by omega)
   omega
 unfold bitL
 rw [if_neg h1, if_neg h2]
 have : Nat.log2 n = Nat.log2 (n / 2 ^ k) + k := by
   rw [Nat.log2_eq_iff h1]
   have h3 := (Nat.log2_eq_iff h2).1 rfl
   rw [Nat.pow_add, show Nat.log2 (n / 2 ^ k) + k + 1 = (Nat.log2 (n / 2 ^ k) + 1) + k by omega, Nat.pow_add]
   exact ⟨(Nat.le_div_iff_mul_le h0).1 h3.1, (Nat.div_lt_iff_lt_mul h0).1 h3.2⟩
 omega

theorem bitL_eq {n b : Nat} (h0 : n ≠ 0) (h1 : 2 ^ b ≤ n) (h2 : n < 2 ^ (b + 1)) : bitL n = b + 1 := by
 unfold bitL
 rw [if_neg h0, (Nat.log2_eq_iff h0).2 ⟨h1, h2⟩]

theorem bitL_pow {n : Nat} (h : n ≠ 0) : 2 ^ (bitL n - 1) ≤ n ∧ n < 2 ^ bitL n ∧ 0 < bitL n := by
 unfold bitL
 rw [if_neg h]
 have := (Nat.log2_eq_iff h).1 rfl
 exact ⟨this.1, this.2, by omega⟩

theorem pow32 (n : Nat) : 4294967296 ^ n = 2 ^ (32 * n) := by rw [Nat.pow_mul]

/-- The bits of trimmed limbs: of the top one, and 32 for each other one. -/
theorem bitL_top {l : List Nat} {t : Nat} (hl : Li l) (ht : t ≠ 0) : bitL (natV (l ++ [t])) = 32 * l.length + bitL t := by
 have h1 := natV_lt hl
 obtain ⟨h2, h3, h4⟩ := bitL_pow ht
 rw [natV_append]
 simp only [natV, Nat.mul_zero, Nat.add_zero]
 rw [pow32] at h1 ⊢
 have e1 : 2 ^ (32 * l.length) * t ≥ 2 ^ (32 * l.length) * 2 ^ (bitL t - 1) := Nat.mul_le_mul_left _ h2
 have e2 : 2 ^ (32 * l.length) * (t + 1) ≤ 2 ^ (32 * l.length) * 2 ^ bitL t := Nat.mul_le_mul_left _ h3
 rw [← Nat.pow_add] at e1 e2
 rw [Nat.mul_add, Nat.mul_one] at e2
 have hp := Nat.two_pow_pos (32 * l.length + (bitL t - 1))
 have := bitL_eq (n := natV l + 2 ^ (32 * l.length) * t) (b := 32 * l.length + (bitL t - 1)) (by omega) (by omega) (by rw [show 32 * l.length + (bitL t - 1) + 1 = 32 * l.length + bitL t by omega]; omega)
 omega

theorem bitL_lt {t : Nat} (h : t < 4294967296) : bitL t ≤ 32 := by
 unfold bitL
 split
 · omega
 · rename_i h0
   have := (Nat.log2_lt h0 (k := 32)).2 (by omega)
   omega

end Go.Abs

namespace Go.Abs
attribute [local simp] WK_cond_iff WL_cons_iff stepL gd shiftI

theorem fdiv_nat (x k : Nat) : Int.fdiv (x : Int) (k : Int) = ((x / k : Nat) : Int) := by
 rw [Int.fdiv_eq_ediv_of_nonneg _ (by omega)]; rfl

theorem fdiv_65536 (x : Nat) : Int.fdiv (x : Int) 65536 = ((x / 65536 : Nat) : Int) := fdiv_nat x 65536
theorem fdiv_256 (x : Nat) : Int.fdiv (x : Int) 256 = ((x / 256 : Nat) : Int) := fdiv_nat x 256

theorem wrap_u8 {n : Int} (h1 : 0 ≤ n) (h2 : n < 256) : IntKind.wrap .u8 n = n := by
 simp only [IntKind.wrap, IntKind.bits, IntKind.signed]; simp; omega

theorem len_fact {y : Nat} (h : y < 256) : ((UInt8.ofNat (bitL y)).toNat : Int) = bitL y := by
 have := bitL_le h
 simp; omega

@[simp] theorem bits_u32 : IntKind.u32.bits = 32 := rfl
@[simp] theorem bits_u64 : IntKind.u64.bits = 64 := rfl
@[simp] theorem bits_i64 : IntKind.i64.bits = 64 := rfl
theorem w8 : IntKind.i64.wrap 8 = 8 := by decide
theorem w24 : IntKind.i64.wrap 24 = 24 := by decide

set_option maxHeartbeats 1000000 in
theorem Len32_cq (x : Nat) (hx : x < 4294967296) : CQ prog g_math_bits_Len32 [u32 x] (i64 (bitL x)) := by
 refine CQ_run fn_Len32 fun H => ?_
 have fin' : ∀ (y k : Nat), y < 256 → k ≤ 24 → bitL x = bitL y + k → IntKind.i64.wrap ((k : Int) + IntKind.i64.wrap (((UInt8.ofNat (bitL y)).toNat : Nat) : Int)) = bitL x := by
   intro y k hy hk he
   have := bitL_le hy
   rw [len_fact hy, wrap_i64 (n := (bitL y : Int)) (by omega) (by omega), wrap_i64 (by omega) (by omega), he]
   omega
 have u8' : ∀ y : Nat, y < 256 → IntKind.u8.wrap (y : Int) = y := fun y hy => wrap_u8 (by omega) (by omega)
 by_cases h1 : x < 65536
 · have e1 : ¬ ((65536 : Int) ≤ x) := by omega
   by_cases h2 : x < 256
   · have e2 : ¬ ((256 : Int) ≤ x) := by omega
     have := fin' x 0 h2 (by omega) rfl
     simp [u32, e1, e2, u8' x h2, tab_at h2, i64]
     simpa using this
   · have e2 : ((256 : Int) ≤ x) := by omega
     obtain ⟨y, hy⟩ : ∃ y, y = x / 256 := ⟨_, rfl⟩
     have f1 : Int.fdiv (x : Int) 256 = (y : Int) := by rw [hy]; exact fdiv_256 x
     have h3 : y < 256 := by omega
     have := fin' y 8 h3 (by omega) (by rw [hy]; exact bitL_shift (k := 8) (by omega))
     simp [u32, e1, e2, f1, w8, u8' _ h3, tab_at h3, i64]
     simpa using this
 · have e1 : ((65536 : Int) ≤ x) := by omega
   obtain ⟨y, hy⟩ : ∃ y, y = x / 65536 := ⟨_, rfl⟩
   have f1 : Int.fdiv (x : Int) 65536 = (y : Int) := by rw [hy]; exact fdiv_65536 x
   have he : bitL x = bitL y + 16 := by rw [hy]; exact bitL_shift (k := 16) (by omega)
   by_cases h2 : y < 256
   · have e2 : ¬ ((256 : Int) ≤ y) := by omega
     have := fin' y 16 h2 (by omega) he
     simp [u32, e1, e2, f1, u8' _ h2, tab_at h2, i64]
     simpa using this
   · have e2 : ((256 : Int) ≤ y) := by omega
     obtain ⟨z, hz⟩ : ∃ z, z = y / 256 := ⟨_, rfl⟩
     have f2 : Int.fdiv (y : Int) 256 = (z : Int) := by rw [hz]; exact fdiv_256 y
     have h3 : z < 256 := by omega
     have he2 : bitL y = bitL z + 8 := by rw [hz]; exact bitL_shift (k := 8) (by omega)
     have := fin' z 24 h3 (by omega) (by rw [he, he2])
     simp [u32, e1, e2, f1, f2, w24, u8' _ h3, tab_at h3, i64]
     simpa using this
end Go.Abs

namespace Go.Abs
attribute [local simp] WK_cond_iff WL_cons_iff stepL gd

theorem fn_natural_Bits : prog.fn g_natural_Bits = some c_natural_Bits := by rfl

@[simp] theorem prep_lim (g : Nat) (hg : (prog.fn g).elim true (fun f => !f.raw) = true) (H : Heap) (l : List Nat) : prep prog g H [lim l] = some ([lim l], H) := by
 unfold prep
 cases hq : prog.fn g with
 | none => rfl
 | some f => rw [hq] at hg; simp at hg; simp [hg]

theorem snoc_cases (l : List Nat) : l = [] ∨ ∃ k t, l = k ++ [t] := by
 cases l with
 | nil => exact .inl rfl
 | cons x xs => exact .inr ⟨(x :: xs).dropLast, (x :: xs).getLast (by simp), (List.dropLast_concat_getLast (by simp)).symm⟩

set_option maxHeartbeats 1000000 in
theorem Bits_cq (a : List Nat) (ha : a.length ≤ 100000000) (la : Li a) : CQ prog g_natural_Bits [lim a] (i64 (bitL (natV a))) := by
 refine CQ_run fn_natural_Bits fun H => ?_
 simp
 refine WL_call rfl rfl (prep_trim H a) (trim_cq a (by omega)) ?_
 rw [← natV_trimL a]
 have ta := trim_trimL a
 have la' := la.trimL
 have hla : (trimL a).length ≤ 100000000 := by unfold trimL; simp; omega
 generalize trimL a = x at *
 rcases snoc_cases x with rfl | ⟨k, t, rfl⟩
 · simp [lim, natV, bitL, i64]
 · have hk : k.length ≤ 100000000 := by simp at hla; omega
   have ht : t ≠ 0 := ta t (by simp)
   have ht2 : t < 4294967296 := la' t (by simp)
   have lk : Li k := fun y hy => la' y (by simp [hy])
   have e1 : ¬ ((k.length : Int) + 1 = 0) := by omega
   have e2 : IntKind.i64.wrap (k.length : Int) = k.length := by rw [wrap_i64] <;> omega
   have e3 : IntKind.i64.wrap (32 * (k.length : Int)) = 32 * k.length := by rw [wrap_i64] <;> omega
   simp [lim, e1, e2, e3]
   refine WL_call rfl rfl (vs := [u32 t]) rfl (Len32_cq t ht2) ?_
   have e4 : IntKind.i64.wrap (32 * (k.length : Int) + bitL t) = bitL (natV (k ++ [t])) := by
     have := bitL_lt ht2
     rw [bitL_top lk ht, wrap_i64] <;> omega
   simp [i64, e4]

end Go.Abs

