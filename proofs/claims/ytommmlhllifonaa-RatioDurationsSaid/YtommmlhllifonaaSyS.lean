/- A verified generator of conditions for this program, and its soundness: part S of the proof. -/
import Derived.Test.YtommmlhllifonaaSyR
namespace Go.Sy
variable {P : Program} {L : Nat → Option Lay}

/-! tables of contracts -/
abbrev PCon := List TV → Option (List Prop × AV)
inductive CE : Type
  | pu (c : PCon)
  | gen (c : Con)
def CE.con : CE → Con
  | .pu c => fun args _ _ => match c args with
    | some (cs, r) => some (cs, r, [])
    | none => none
  | .gen c => c
abbrev Tab := List (Nat × CE)
def ΓT (T : Tab) (f : Nat) : Option Con := match look T f with
  | some e => some e.con
  | none => none
def PuT (T : Tab) (f : Nat) : Bool := match look T f with
  | some (.pu _) => true
  | _ => false
theorem puOk (T : Tab) : PuOk (ΓT T) (PuT T) := by
  intro f con h1 h2 args hp hp' fr
  unfold PuT at h1
  unfold ΓT at h2
  split at h1
  · rename_i c hc
    rw [hc] at h2
    injection h2 with h2
    subst h2
    rfl
  · cases h1
def TOk (P : Program) : Tab → Prop
  | [] => True
  | (f, e) :: r => FnOk P f e.con ∧ TOk P r
theorem TOk.con : ∀ {T : Tab}, TOk P T → ConOk P (ΓT T)
  | [], _, f, con, h => by cases h
  | (g, e) :: r, ht, f, con, h => by
    unfold ΓT at h
    rw [look_cons] at h
    by_cases hg : g = f
    · subst hg
      rw [if_pos rfl] at h
      injection h with h
      subst h
      exact ht.1
    · rw [if_neg hg] at h
      exact TOk.con ht.2 f con h

/-- how a function is evaluated: its temporaries, the slots that are read later, the loops' annotations -/
def fnOf (L : Nat → Option Lay) (T : Tab) (fn : Func) (keep : List Nat) (ann : Nat → Option Ann) : Fn := { N := fn.ntmps, keep := keep, ann := ann, draw := draws L (ΓT T) (PuT T) fn.ntmps }
def vcPu (L : Nat → Option Lay) (T : Tab) (fn : Func) (keep : List Nat) (ann : Nat → Option Ann) (args : List TV) (r : AV) : VC :=
  vcFn L (ΓT T) (fnOf L T fn keep ann) fn.results.toList (fn.body.getD .skip) args r

theorem drawsOk {T : Tab} (hL : LOk P L) (hT : TOk P T) (hm : P.follows .mixedOrders = true) {N : Nat} {X : Cx} (hX : X.N = N) : DrawOk P L (ΓT T) Fence.wide 1 X (draws L (ΓT T) (PuT T) N) := by
  subst hX
  exact drawOk ⟨fun _ => trivial, rfl, rfl⟩ hL hT.con (puOk T) hm

theorem fnPu (T : Tab) (c : PCon) {f : FuncId} {fn : Func} (hL : LOk P L) (hT : TOk P T) (hm : P.follows .mixedOrders = true) (hf : P.funcs[f]? = some fn) (hb : fn.body.isSome = true) (hn : (fn.name == "runtime.NumGoroutine") = false)
    (h : ∀ args cs r, c args = some (cs, r) → (∀ p ∈ cs, p) → ∃ keep ann, Nat.ble args.length fn.ntmps = true ∧ tvsOk [] args = true ∧ avOk [] r = true ∧ (vcPu L T fn keep ann args r).holds) : FnOk P f (CE.pu c).con := by
  have hb' : fn.body = some (fn.body.getD .skip) := by
    cases hx : fn.body with
    | none => rw [hx] at hb; cases hb
    | some c => rfl
  refine fnOk_of_vc hL hT.con hf hb' (enters hf hb' hn) fun args hp fr cs r up hc hcs => ?_
  have hc' : c args = some (cs, r) ∧ up = [] := by
    simp only [CE.con] at hc
    split at hc
    · rename_i cs' r' h'
      injection hc with hc; injection hc with h1 h2; injection h2 with h2 h3
      subst h1 h2
      exact ⟨h', h3.symm⟩
    · cases hc
  obtain ⟨keep, ann, h1, h2, h3, h4⟩ := h args cs r hc'.1 hcs
  exact ⟨fnOf L T fn keep ann, rfl, fun X hX => drawsOk hL hT hm hX, hc'.2, Nat.le_of_ble_eq_true h1, h2, h3, h4⟩

/-- a function that is handed, or hands back, blocks of the state -/
theorem fnGen (T : Tab) (con : Con) {f : FuncId} {fn : Func} (hL : LOk P L) (hT : TOk P T) (hm : P.follows .mixedOrders = true) (hf : P.funcs[f]? = some fn) (hb : fn.body.isSome = true) (hn : (fn.name == "runtime.NumGoroutine") = false)
    (h : ∀ args hp fr cs r up, con args hp fr = some (cs, r, up) → (∀ p ∈ cs, p) → ∃ keep ann bs fs cargs ch rc uc, Meets L (ΓT T) (fnOf L T fn keep ann) fn args hp r up bs fs cargs ch rc uc) : FnOk P f (CE.gen con).con := by
  refine fnOk_of_meets hL hT.con hf hb hn fun args hp fr cs r up hc hcs => ?_
  obtain ⟨keep, ann, bs, fs, cargs, ch, rc, uc, hmeets⟩ := h args hp fr cs r up hc hcs
  exact ⟨fnOf L T fn keep ann, bs, fs, cargs, ch, rc, uc, rfl, fun X hX => drawsOk hL hT hm hX, hmeets⟩

/-- blocks that are handed in and read alone -/
theorem Meets.reads {L : Nat → Option Lay} {Γ : Nat → Option Con} {φ : Fn} {fn : Func} {args cargs : List TV} {hp : Nat → Option HO} {r rc : AV} {bs : List (Nat × Nat)} {ch : List (Nat × HO)}
    (hinj : ∀ c c' a, look bs c = some a → look bs c' = some a → c = c') (hbo : ∀ c a, look bs c = some a → ∃ o, look ch c = some o ∧ hp a = some (rnH (rn bs) o)) (hch : ∀ c o, look ch c = some o → ∃ a, look bs c = some a)
    (hlen : args.length ≤ φ.N) (hargs : args = cargs.map (rnT (rn bs))) (ok1 : tvsOk ch cargs = true) (ok2 : heapOk ch ch = true) (hres : r = rnA (rn bs) rc) (ok3 : avOk ch rc = true)
    (hvc : (vcH L Γ φ fn.results.toList (fn.body.getD .skip) cargs ch rc ch).holds) : Meets L Γ φ fn args hp r [] bs [] cargs ch rc ch := by
  have e : bs ++ [] = bs := List.append_nil bs
  refine ⟨⟨by rw [e]; exact hinj, by rw [e]; exact hbo, hch, fun c a _ h => by cases h⟩, hlen, by rw [e]; exact hargs, ok1, ok2, by rw [e]; exact hres, fun a => ?_, fun c a h => ?_, fun c h => ?_, ok3, ok2, hvc⟩
  · rw [e]
    show hp a = _
    cases hl : look (ch.map fun q => (rn bs q.1, rnH (rn bs) q.2)) a with
    | none => rfl
    | some o =>
      obtain ⟨c, hc⟩ : ∃ c, look bs c = some a := by
        by_cases hex : ∃ c, look bs c = some a
        · exact hex
        · exfalso
          rw [look_map_none fun c hc h => ?_] at hl
          · cases hl
          · cases ho : look ch c with
            | none => exact hc ho
            | some o' =>
              obtain ⟨a', ha'⟩ := hch c o' ho
              have : rn bs c = a' := by simp [rn, ha']
              rw [this] at h
              subst h
              exact hex ⟨c, ha'⟩
      obtain ⟨o', h1, h2⟩ := hbo c a hc
      have h3 := look_map_inj (g := rnH (rn bs)) (ρ := rn bs) (l := ch) (fun x y hx hy hxy => by
        cases hx' : look ch x with
        | none => exact absurd hx' hx
        | some ox =>
          cases hy' : look ch y with
          | none => exact absurd hy' hy
          | some oy =>
            obtain ⟨ax, hax⟩ := hch x ox hx'
            obtain ⟨ay, hay⟩ := hch y oy hy'
            have ex : rn bs x = ax := by simp [rn, hax]
            have ey : rn bs y = ay := by simp [rn, hay]
            rw [ex, ey] at hxy
            subst hxy
            exact hinj x y ax hax hay) h1
      rw [show rn bs c = a by simp [rn, hc], hl] at h3
      injection h3 with h3
      rw [h2, h3]
  · rw [e] at h
    obtain ⟨o, h1, _⟩ := hbo c a h
    rw [h1]; simp
  · rw [e]
    cases ho : look ch c with
    | none => exact absurd ho h
    | some o => obtain ⟨a, ha⟩ := hch c o ho; rw [ha]; simp

theorem look1 {β : Type _} {x : β} {c : Nat} {y : β} (h : look [(2000, x)] c = some y) : c = 2000 ∧ y = x := by
  rw [look_cons] at h
  split at h
  · rename_i e; injection h with h; exact ⟨e.symm, h.symm⟩
  · cases h
theorem look2 {β : Type _} {x x2 : β} {c : Nat} {y : β} (h : look [(2000, x), (2001, x2)] c = some y) : (c = 2000 ∧ y = x) ∨ (c = 2001 ∧ y = x2) := by
  rw [look_cons] at h
  split at h
  · rename_i e; injection h with h; exact .inl ⟨e.symm, h.symm⟩
  · rw [look_cons] at h
    split at h
    · rename_i e; injection h with h; exact .inr ⟨e.symm, h.symm⟩
    · cases h

/-- one block that is read -/
theorem Meets.reads1 {L : Nat → Option Lay} {Γ : Nat → Option Con} {φ : Fn} {fn : Func} {args : List TV} {hp : Nat → Option HO} {r : AV} (p : Nat) (cargs : List TV) (o : HO) (rc : AV)
    (hbo : hp p = some (rnH (rn [(2000, p)]) o)) (hlen : Nat.ble args.length φ.N = true) (hargs : args = cargs.map (rnT (rn [(2000, p)]))) (ok1 : tvsOk [(2000, o)] cargs = true) (ok2 : heapOk [(2000, o)] [(2000, o)] = true) (hres : r = rnA (rn [(2000, p)]) rc)
    (ok3 : avOk [(2000, o)] rc = true) (hvc : (vcH L Γ φ fn.results.toList (fn.body.getD .skip) cargs [(2000, o)] rc [(2000, o)]).holds) : Meets L Γ φ fn args hp r [] [(2000, p)] [] cargs [(2000, o)] rc [(2000, o)] := by
  refine Meets.reads (fun c c' a h h' => ?_) (fun c a h => ?_) (fun c o' h => ?_) (Nat.le_of_ble_eq_true hlen) hargs ok1 ok2 hres ok3 hvc
  · rw [(look1 h).1, (look1 h').1]
  · obtain ⟨rfl, rfl⟩ := look1 h
    exact ⟨o, by rw [look_cons, if_pos rfl], hbo⟩
  · obtain ⟨rfl, rfl⟩ := look1 h
    exact ⟨p, by rw [look_cons, if_pos rfl]⟩

/-- two blocks that are read -/
theorem Meets.reads2 {L : Nat → Option Lay} {Γ : Nat → Option Con} {φ : Fn} {fn : Func} {args : List TV} {hp : Nat → Option HO} {r : AV} (p q : Nat) (hpq : p ≠ q) (cargs : List TV) (o o2 : HO) (rc : AV)
    (hbo : hp p = some (rnH (rn [(2000, p), (2001, q)]) o)) (hbo2 : hp q = some (rnH (rn [(2000, p), (2001, q)]) o2)) (hlen : Nat.ble args.length φ.N = true) (hargs : args = cargs.map (rnT (rn [(2000, p), (2001, q)])))
    (ok1 : tvsOk [(2000, o), (2001, o2)] cargs = true) (ok2 : heapOk [(2000, o), (2001, o2)] [(2000, o), (2001, o2)] = true) (hres : r = rnA (rn [(2000, p), (2001, q)]) rc)
    (ok3 : avOk [(2000, o), (2001, o2)] rc = true) (hvc : (vcH L Γ φ fn.results.toList (fn.body.getD .skip) cargs [(2000, o), (2001, o2)] rc [(2000, o), (2001, o2)]).holds) :
    Meets L Γ φ fn args hp r [] [(2000, p), (2001, q)] [] cargs [(2000, o), (2001, o2)] rc [(2000, o), (2001, o2)] := by
  refine Meets.reads (fun c c' a h h' => ?_) (fun c a h => ?_) (fun c o' h => ?_) (Nat.le_of_ble_eq_true hlen) hargs ok1 ok2 hres ok3 hvc
  · rcases look2 h with ⟨rfl, rfl⟩ | ⟨rfl, rfl⟩ <;> rcases look2 h' with ⟨rfl, e⟩ | ⟨rfl, e⟩
    · rfl
    · exact absurd e hpq
    · exact absurd e.symm hpq
    · rfl
  · rcases look2 h with ⟨rfl, rfl⟩ | ⟨rfl, rfl⟩
    · exact ⟨o, by rw [look_cons, if_pos rfl], hbo⟩
    · exact ⟨o2, by rfl, hbo2⟩
  · rcases look2 h with ⟨rfl, rfl⟩ | ⟨rfl, rfl⟩
    · exact ⟨p, by rw [look_cons, if_pos rfl]⟩
    · exact ⟨q, by rfl⟩
end Go.Sy
