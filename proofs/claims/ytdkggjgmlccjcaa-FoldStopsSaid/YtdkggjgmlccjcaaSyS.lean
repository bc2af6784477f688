/- A verified generator of conditions for this program, and its soundness: part S of the proof. -/
import Derived.Test.YtdkggjgmlccjcaaSyR
namespace Go.Sy
variable {P : Program} {L : Nat → Option Lay}

/-! tables of contracts -/
abbrev PCon := List TV → Option (List Prop × AV)
inductive CE : Type
  | pu (c : PCon)
  | gen (c : Con)
def CE.con : CE → Con
  | .pu c => fun args _ _ => match c args with
    | some (cs, r) => some (cs, r, [])
    | none => none
  | .gen c => c
abbrev Tab := List (Nat × CE)
def ΓT (T : Tab) (f : Nat) : Option Con := match look T f with
  | some e => some e.con
  | none => none
def PuT (T : Tab) (f : Nat) : Bool := match look T f with
  | some (.pu _) => true
  | _ => false
theorem puOk (T : Tab) : PuOk (ΓT T) (PuT T) := by
  intro f con h1 h2 args hp hp' fr
  unfold PuT at h1
  unfold ΓT at h2
  split at h1
  · rename_i c hc
    rw [hc] at h2
    injection h2 with h2
    subst h2
    rfl
  · cases h1
def TOk (P : Program) : Tab → Prop
  | [] => True
  | (f, e) :: r => FnOk P f e.con ∧ TOk P r
theorem TOk.con : ∀ {T : Tab}, TOk P T → ConOk P (ΓT T)
  | [], _, f, con, h => by cases h
  | (g, e) :: r, ht, f, con, h => by
    unfold ΓT at h
    rw [look_cons] at h
    by_cases hg : g = f
    · subst hg
      rw [if_pos rfl] at h
      injection h with h
      subst h
      exact ht.1
    · rw [if_neg hg] at h
      exact TOk.con ht.2 f con h

/-- how a function is evaluated: its temporaries, the slots that are read later, the loops' annotations -/
def fnOf (L : Nat → Option Lay) (T : Tab) (fn : Func) (keep : List Nat) (ann : Nat → St → Option Ann) (rann : Nat → St → Option RAnn := fun _ _ => none) : Fn := { N := fn.ntmps, keep := keep, ann := ann, draw := draws L (ΓT T) (PuT T) fn.ntmps, rann := rann }
def vcPu (L : Nat → Option Lay) (T : Tab) (fn : Func) (keep : List Nat) (ann : Nat → St → Option Ann) (args : List TV) (r : AV) (rann : Nat → St → Option RAnn := fun _ _ => none) : VC :=
  vcFn L (ΓT T) (fnOf L T fn keep ann rann) fn.results.toList (fn.body.getD .skip) args r
def vcGe (L : Nat → Option Lay) (T : Tab) (fn : Func) (keep : List Nat) (ann : Nat → St → Option Ann) (args : List TV) (ch : List (Nat × HO)) (r : AV) (uc : List (Nat × HO)) (rann : Nat → St → Option RAnn := fun _ _ => none) : VC :=
  vcH L (ΓT T) (fnOf L T fn keep ann rann) fn.results.toList (fn.body.getD .skip) args ch r uc

theorem drawsOk {T : Tab} (hL : LOk P L) (hT : TOk P T) (hm : P.follows .mixedOrders = true) {N : Nat} {F : Fence} {n : Nat} {X : Cx} (hF : Wide F) (hX : X.N = N) (hpr : X.b0.pr = P) : DrawOk P L (ΓT T) F n X (draws L (ΓT T) (PuT T) N) := by
  subst hX
  exact drawOk hF hpr hL hT.con (puOk T) hm

theorem fnPuR (T : Tab) (c : PCon) {f : FuncId} {fn : Func} (hL : LOk P L) (hT : TOk P T) (hm : P.follows .mixedOrders = true) (hf : P.funcs[f]? = some fn) (hb : fn.body.isSome = true) (hn : (fn.name == "runtime.NumGoroutine") = false)
    (h : ∀ args cs r, c args = some (cs, r) → (∀ p ∈ cs, p) → ∃ keep ann rann, Nat.ble args.length fn.ntmps = true ∧ tvsOk [] args = true ∧ avOk [] r = true ∧ (vcPu L T fn keep ann args r rann).holds) : FnOk P f (CE.pu c).con := by
  have hb' : fn.body = some (fn.body.getD .skip) := by
    cases hx : fn.body with
    | none => rw [hx] at hb; cases hb
    | some c => rfl
  refine fnOk_of_vc hL hT.con hf hb' (enters hf hb' hn) fun args hp fr cs r up hc hcs => ?_
  have hc' : c args = some (cs, r) ∧ up = [] := by
    simp only [CE.con] at hc
    split at hc
    · rename_i cs' r' h'
      injection hc with hc; injection hc with h1 h2; injection h2 with h2 h3
      subst h1 h2
      exact ⟨h', h3.symm⟩
    · cases hc
  obtain ⟨keep, ann, rann, h1, h2, h3, h4⟩ := h args cs r hc'.1 hcs
  exact ⟨fnOf L T fn keep ann rann, rfl, fun F n X hF hX hpr => drawsOk hL hT hm hF hX hpr, hc'.2, Nat.le_of_ble_eq_true h1, h2, h3, h4⟩

theorem fnPu (T : Tab) (c : PCon) {f : FuncId} {fn : Func} (hL : LOk P L) (hT : TOk P T) (hm : P.follows .mixedOrders = true) (hf : P.funcs[f]? = some fn) (hb : fn.body.isSome = true) (hn : (fn.name == "runtime.NumGoroutine") = false)
    (h : ∀ args cs r, c args = some (cs, r) → (∀ p ∈ cs, p) → ∃ keep ann, Nat.ble args.length fn.ntmps = true ∧ tvsOk [] args = true ∧ avOk [] r = true ∧ (vcPu L T fn keep ann args r).holds) : FnOk P f (CE.pu c).con :=
  fnPuR T c hL hT hm hf hb hn fun args cs r hc hcs => by
    obtain ⟨keep, ann, h⟩ := h args cs r hc hcs
    exact ⟨keep, ann, _, h⟩

/-- a function that is handed, or hands back, blocks of the state -/
theorem fnGen (T : Tab) (con : Con) {f : FuncId} {fn : Func} (hL : LOk P L) (hT : TOk P T) (hm : P.follows .mixedOrders = true) (hf : P.funcs[f]? = some fn) (hb : fn.body.isSome = true) (hn : (fn.name == "runtime.NumGoroutine") = false)
    (h : ∀ args hp fr cs r up, con args hp fr = some (cs, r, up) → (∀ p ∈ cs, p) → ∃ keep ann bs fs cargs ch rc uc, Meets L (ΓT T) (fnOf L T fn keep ann) fn args hp r up bs fs cargs ch rc uc) : FnOk P f (CE.gen con).con := by
  refine fnOk_of_meets hL hT.con hf hb hn fun args hp fr cs r up hc hcs => ?_
  obtain ⟨keep, ann, bs, fs, cargs, ch, rc, uc, hmeets⟩ := h args hp fr cs r up hc hcs
  exact ⟨fnOf L T fn keep ann, bs, fs, cargs, ch, rc, uc, rfl, fun F n X hF hX hpr => drawsOk hL hT hm hF hX hpr, hmeets⟩

/-- the same, with names given one by one -/
theorem fnGe (T : Tab) (con : Con) {f : FuncId} {fn : Func} (hL : LOk P L) (hT : TOk P T) (hm : P.follows .mixedOrders = true) (hf : P.funcs[f]? = some fn) (hb : fn.body.isSome = true) (hn : (fn.name == "runtime.NumGoroutine") = false)
    (h : ∀ args hp fr cs r up, con args hp fr = some (cs, r, up) → (∀ p ∈ cs, p) → ∃ keep ann rann bs fs cargs ch rc uc, Meets L (ΓT T) (fnOf L T fn keep ann rann) fn args hp r up bs fs cargs ch rc uc) : FnOk P f (CE.gen con).con := by
  refine fnOk_of_meets hL hT.con hf hb hn fun args hp fr cs r up hc hcs => ?_
  obtain ⟨keep, ann, rann, bs, fs, cargs, ch, rc, uc, hmeets⟩ := h args hp fr cs r up hc hcs
  exact ⟨fnOf L T fn keep ann rann, bs, fs, cargs, ch, rc, uc, rfl, fun F n X hF hX hpr => drawsOk hL hT hm hF hX hpr, hmeets⟩

theorem look_fst {β : Type _} : ∀ {l : List (Nat × β)} {k : Nat}, look l k ≠ none ↔ k ∈ l.map (·.1)
  | [], k => by simp [look]
  | (a, x) :: r, k => by
    rw [look_cons]
    by_cases h : a = k
    · subst h; simp
    · rw [if_neg h, look_fst]; simp [Ne.symm h]
theorem look_nodup {β : Type _} : ∀ {l : List (Nat × β)} {k : Nat} {x : β}, (l.map (·.1)).Nodup → (k, x) ∈ l → look l k = some x
  | (a, y) :: r, k, x, hn, hm => by
    simp only [List.map_cons, List.nodup_cons] at hn
    rcases List.mem_cons.1 hm with e | hm
    · injection e with e1 e2; subst e1 e2; rw [look_cons, if_pos rfl]
    · rw [look_cons, if_neg fun (e : a = k) => hn.1 (e ▸ List.mem_map.2 ⟨(k, x), hm, rfl⟩)]
      exact look_nodup hn.2 hm
theorem nodup_fst_inj : ∀ {l : List (Nat × Nat)} {c c' a : Nat}, (l.map (·.2)).Nodup → (c, a) ∈ l → (c', a) ∈ l → c = c'
  | (x, y) :: r, c, c', a, hn, h, h' => by
    simp only [List.map_cons, List.nodup_cons] at hn
    rcases List.mem_cons.1 h with e | g <;> rcases List.mem_cons.1 h' with e' | g'
    · injection e with e1 e2; injection e' with e3 e4; rw [e1, e3]
    · injection e with e1 e2; exact (hn.1 (e2 ▸ List.mem_map.2 ⟨(c', a), g', rfl⟩)).elim
    · injection e' with e1 e2; exact (hn.1 (e2 ▸ List.mem_map.2 ⟨(c, a), g, rfl⟩)).elim
    · exact nodup_fst_inj hn.2 g g'

/-- blocks that are handed in (bs) and handed back (fs), each by its own name -/
theorem Meets.of {L : Nat → Option Lay} {Γ : Nat → Option Con} {φ : Fn} {fn : Func} {args : List TV} {hp : Nat → Option HO} {r : AV} {up : List (Nat × HO)} (bs fs : List (Nat × Nat)) (cargs : List TV) (ch : List (Nat × HO)) (rc : AV) (uc : List (Nat × HO))
    (n1 : ((bs ++ fs).map (·.1)).Nodup) (n2 : ((bs ++ fs).map (·.2)).Nodup) (hch : ch.map (·.1) = bs.map (·.1)) (huc : uc.map (·.1) = (bs ++ fs).map (·.1))
    (hbo : ∀ q ∈ bs, ∃ o, look ch q.1 = some o ∧ hp q.2 = some (rnH (rn (bs ++ fs)) o)) (hfs : ∀ q ∈ fs, hp q.2 = none)
    (hup : ∀ q ∈ bs ++ fs, ∀ o, look uc q.1 = some o → upd hp up q.2 = some (rnH (rn (bs ++ fs)) o)) (hup2 : ∀ q ∈ up, q.1 ∈ (bs ++ fs).map (·.2))
    (hlen : Nat.ble args.length φ.N = true) (hargs : args = cargs.map (rnT (rn (bs ++ fs)))) (ok1 : tvsOk ch cargs = true) (ok2 : heapOk ch ch = true) (hres : r = rnA (rn (bs ++ fs)) rc) (ok3 : avOk uc rc = true) (ok4 : heapOk uc uc = true)
    (hvc : (vcH L Γ φ fn.results.toList (fn.body.getD .skip) cargs ch rc uc).holds) : Meets L Γ φ fn args hp r up bs fs cargs ch rc uc := by
  have hρ : ∀ q ∈ bs ++ fs, rn (bs ++ fs) q.1 = q.2 := fun q hq => by unfold rn; rw [look_nodup n1 (x := q.2) hq]; rfl
  refine ⟨⟨fun c c' a h h' => nodup_fst_inj n2 (look_mem h) (look_mem h'), fun c a h => hbo (c, a) (look_mem h), fun c o h => ?_, fun c a _ h => hfs (c, a) (look_mem h)⟩, Nat.le_of_ble_eq_true hlen, hargs, ok1, ok2, hres, fun a => ?_, fun c a h => ?_, fun c h => ?_, ok3, ok4, hvc⟩
  · have hm : c ∈ bs.map (·.1) := hch ▸ look_fst.1 (by rw [h]; simp)
    cases hb : look bs c with
    | some a => exact ⟨a, rfl⟩
    | none => exact absurd hb (look_fst.2 hm)
  · by_cases hex : ∃ c, (c, a) ∈ bs ++ fs
    · obtain ⟨c, hc⟩ := hex
      have hr : rn (bs ++ fs) c = a := hρ (c, a) hc
      have hcu : look uc c ≠ none := look_fst.2 (huc ▸ List.mem_map.2 ⟨_, hc, rfl⟩)
      cases ho : look uc c with
      | none => exact absurd ho hcu
      | some o =>
        have h3 := look_map_inj (g := rnH (rn (bs ++ fs))) (ρ := rn (bs ++ fs)) (l := uc) (fun x y hx hy hxy => by
          obtain ⟨⟨_, ax⟩, hx1, rfl⟩ := List.mem_map.1 (huc ▸ look_fst.1 hx)
          obtain ⟨⟨_, ay⟩, hy1, rfl⟩ := List.mem_map.1 (huc ▸ look_fst.1 hy)
          have e1 := hρ _ hx1
          have e2 := hρ _ hy1
          simp only at e1 e2 hxy
          rw [e1, e2] at hxy
          subst hxy
          exact nodup_fst_inj n2 hx1 hy1) ho
        rw [hr] at h3
        rw [h3]
        exact hup (c, a) hc o ho
    · have hno : look up.reverse a = none := by
        cases hl : look up.reverse a with
        | none => rfl
        | some o =>
          have := look_mem hl
          obtain ⟨⟨c, _⟩, h1, h2⟩ := List.mem_map.1 (hup2 _ (List.mem_reverse.1 this))
          simp only at h2
          subst h2
          exact absurd ⟨c, h1⟩ hex
      have h1 : upd hp up a = hp a := by unfold upd; rw [hno]
      rw [h1, look_map_none fun c hc h => ?_]
      obtain ⟨⟨_, a'⟩, hx1, rfl⟩ := List.mem_map.1 (huc ▸ look_fst.1 hc)
      have e1 := hρ _ hx1
      simp only at e1 h
      rw [e1] at h
      subst h
      exact hex ⟨_, hx1⟩
  · refine look_fst.2 (huc ▸ List.mem_map.2 ⟨_, look_mem h, rfl⟩)
  · exact look_fst.2 (huc ▸ look_fst.1 h)

/-- blocks that are handed in and read alone -/
theorem Meets.reads {L : Nat → Option Lay} {Γ : Nat → Option Con} {φ : Fn} {fn : Func} {args cargs : List TV} {hp : Nat → Option HO} {r rc : AV} {bs : List (Nat × Nat)} {ch : List (Nat × HO)}
    (hinj : ∀ c c' a, look bs c = some a → look bs c' = some a → c = c') (hbo : ∀ c a, look bs c = some a → ∃ o, look ch c = some o ∧ hp a = some (rnH (rn bs) o)) (hch : ∀ c o, look ch c = some o → ∃ a, look bs c = some a)
    (hlen : args.length ≤ φ.N) (hargs : args = cargs.map (rnT (rn bs))) (ok1 : tvsOk ch cargs = true) (ok2 : heapOk ch ch = true) (hres : r = rnA (rn bs) rc) (ok3 : avOk ch rc = true)
    (hvc : (vcH L Γ φ fn.results.toList (fn.body.getD .skip) cargs ch rc ch).holds) : Meets L Γ φ fn args hp r [] bs [] cargs ch rc ch := by
  have e : bs ++ [] = bs := List.append_nil bs
  refine ⟨⟨by rw [e]; exact hinj, by rw [e]; exact hbo, hch, fun c a _ h => by cases h⟩, hlen, by rw [e]; exact hargs, ok1, ok2, by rw [e]; exact hres, fun a => ?_, fun c a h => ?_, fun c h => ?_, ok3, ok2, hvc⟩
  · rw [e]
    show hp a = _
    cases hl : look (ch.map fun q => (rn bs q.1, rnH (rn bs) q.2)) a with
    | none => rfl
    | some o =>
      obtain ⟨c, hc⟩ : ∃ c, look bs c = some a := by
        by_cases hex : ∃ c, look bs c = some a
        · exact hex
        · exfalso
          rw [look_map_none fun c hc h => ?_] at hl
          · cases hl
          · cases ho : look ch c with
            | none => exact hc ho
            | some o' =>
              obtain ⟨a', ha'⟩ := hch c o' ho
              have : rn bs c = a' := by simp [rn, ha']
              rw [this] at h
              subst h
              exact hex ⟨c, ha'⟩
      obtain ⟨o', h1, h2⟩ := hbo c a hc
      have h3 := look_map_inj (g := rnH (rn bs)) (ρ := rn bs) (l := ch) (fun x y hx hy hxy => by
        cases hx' : look ch x with
        | none => exact absurd hx' hx
        | some ox =>
          cases hy' : look ch y with
          | none => exact absurd hy' hy
          | some oy =>
            obtain ⟨ax, hax⟩ := hch x ox hx'
            obtain ⟨ay, hay⟩ := hch y oy hy'
            have ex : rn bs x = ax := by simp [rn, hax]
            have ey : rn bs y = ay := by simp [rn, hay]
            rw [ex, ey] at hxy
            subst hxy
            exact hinj x y ax hax hay) h1
      rw [show rn bs c = a by simp [rn, hc], hl] at h3
      injection h3 with h3
      rw [h2, h3]
  · rw [e] at h
    obtain ⟨o, h1, _⟩ := hbo c a h
    rw [h1]; simp
  · rw [e]
    cases ho : look ch c with
    | none => exact absurd ho h
    | some o => obtain ⟨a, ha⟩ := hch c o ho; rw [ha]; simp

theorem look1 {β : Type _} {x : β} {c : Nat} {y : β} (h : look [(2000, x)] c = some y) : c = 2000 ∧ y = x := by
  rw [look_cons] at h
  split at h
  · rename_i e; injection h with h; exact ⟨e.symm, h.symm⟩
  · cases h
theorem look2 {β : Type _} {x x2 : β} {c : Nat} {y : β} (h : look [(2000, x), (2001, x2)] c = some y) : (c = 2000 ∧ y = x) ∨ (c = 2001 ∧ y = x2) := by
  rw [look_cons] at h
  split at h
  · rename_i e; injection h with h; exact .inl ⟨e.symm, h.symm⟩
  · rw [look_cons] at h
    split at h
    · rename_i e; injection h with h; exact .inr ⟨e.symm, h.symm⟩
    · cases h

/-- one block that is read -/
theorem Meets.reads1 {L : Nat → Option Lay} {Γ : Nat → Option Con} {φ : Fn} {fn : Func} {args : List TV} {hp : Nat → Option HO} {r : AV} (p : Nat) (cargs : List TV) (o : HO) (rc : AV)
    (hbo : hp p = some (rnH (rn [(2000, p)]) o)) (hlen : Nat.ble args.length φ.N = true) (hargs : args = cargs.map (rnT (rn [(2000, p)]))) (ok1 : tvsOk [(2000, o)] cargs = true) (ok2 : heapOk [(2000, o)] [(2000, o)] = true) (hres : r = rnA (rn [(2000, p)]) rc)
    (ok3 : avOk [(2000, o)] rc = true) (hvc : (vcH L Γ φ fn.results.toList (fn.body.getD .skip) cargs [(2000, o)] rc [(2000, o)]).holds) : Meets L Γ φ fn args hp r [] [(2000, p)] [] cargs [(2000, o)] rc [(2000, o)] := by
  refine Meets.reads (fun c c' a h h' => ?_) (fun c a h => ?_) (fun c o' h => ?_) (Nat.le_of_ble_eq_true hlen) hargs ok1 ok2 hres ok3 hvc
  · rw [(look1 h).1, (look1 h').1]
  · obtain ⟨rfl, rfl⟩ := look1 h
    exact ⟨o, by rw [look_cons, if_pos rfl], hbo⟩
  · obtain ⟨rfl, rfl⟩ := look1 h
    exact ⟨p, by rw [look_cons, if_pos rfl]⟩

/-- two blocks that are read -/
theorem Meets.reads2 {L : Nat → Option Lay} {Γ : Nat → Option Con} {φ : Fn} {fn : Func} {args : List TV} {hp : Nat → Option HO} {r : AV} (p q : Nat) (hpq : p ≠ q) (cargs : List TV) (o o2 : HO) (rc : AV)
    (hbo : hp p = some (rnH (rn [(2000, p), (2001, q)]) o)) (hbo2 : hp q = some (rnH (rn [(2000, p), (2001, q)]) o2)) (hlen : Nat.ble args.length φ.N = true) (hargs : args = cargs.map (rnT (rn [(2000, p), (2001, q)])))
    (ok1 : tvsOk [(2000, o), (2001, o2)] cargs = true) (ok2 : heapOk [(2000, o), (2001, o2)] [(2000, o), (2001, o2)] = true) (hres : r = rnA (rn [(2000, p), (2001, q)]) rc)
    (ok3 : avOk [(2000, o), (2001, o2)] rc = true) (hvc : (vcH L Γ φ fn.results.toList (fn.body.getD .skip) cargs [(2000, o), (2001, o2)] rc [(2000, o), (2001, o2)]).holds) :
    Meets L Γ φ fn args hp r [] [(2000, p), (2001, q)] [] cargs [(2000, o), (2001, o2)] rc [(2000, o), (2001, o2)] := by
  refine Meets.reads (fun c c' a h h' => ?_) (fun c a h => ?_) (fun c o' h => ?_) (Nat.le_of_ble_eq_true hlen) hargs ok1 ok2 hres ok3 hvc
  · rcases look2 h with ⟨rfl, rfl⟩ | ⟨rfl, rfl⟩ <;> rcases look2 h' with ⟨rfl, e⟩ | ⟨rfl, e⟩
    · rfl
    · exact absurd e hpq
    · exact absurd e.symm hpq
    · rfl
  · rcases look2 h with ⟨rfl, rfl⟩ | ⟨rfl, rfl⟩
    · exact ⟨o, by rw [look_cons, if_pos rfl], hbo⟩
    · exact ⟨o2, by rfl, hbo2⟩
  · rcases look2 h with ⟨rfl, rfl⟩ | ⟨rfl, rfl⟩
    · exact ⟨p, by rw [look_cons, if_pos rfl]⟩
    · exact ⟨q, by rfl⟩

theorem upd1 (hp : Nat → Option HO) (n : Nat) (o : HO) : upd hp [(n, o)] n = some o := by
  unfold upd; simp [look_cons]
theorem upd1_ne (hp : Nat → Option HO) (n : Nat) (o : HO) {m : Nat} (h : m ≠ n) : upd hp [(n, o)] m = hp m := by
  unfold upd; simp [look_cons, Ne.symm h, look]

/-- the layouts with rooms: os: element types whose slices in structs get rooms; vs: those whose elements may be written, too -/
def filtV (os vs : List Nat) : List (Nat × (Ty × (Nat × Bool))) → List (Nat × (Ty × (Nat × Bool)))
  | [] => []
  | (j, (τ, (e, _))) :: r => match mem vs e, mem os e with
    | true, _ => (j, (τ, (e, true))) :: filtV os vs r
    | false, true => (j, (τ, (e, false))) :: filtV os vs r
    | false, false => filtV os vs r
def LVar (L : Nat → Option Lay) (os vs : List Nat) (wr : Bool) (t : Nat) : Option Lay := match L t with
  | some y => some { y with vec := (match y.ety with | some (_, e, _) => mem vs e | none => false), cv := filtV os vs y.cv, wr := wr, nov := vs }
  | none => none
theorem LVar_ok {L : Nat → Option Lay} (h : LOk P L) (os vs : List Nat) (wr : Bool) : LOk P (LVar L os vs wr) := fun t y hy => by
  unfold LVar at hy
  split at hy
  · rename_i y0 h0
    have k := h t y0 h0
    obtain rfl := Option.some.inj hy
    exact ⟨k.agg, k.one, k.size, k.zero, k.fs, k.el, k.ety, k.kind, k.eqs, k.mpt⟩
  · cases hy
end Go.Sy
