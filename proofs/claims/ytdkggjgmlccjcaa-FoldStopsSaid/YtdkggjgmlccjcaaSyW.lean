/- A verified generator of conditions for this program, and its soundness: part W of the proof. -/
import Derived.Test.YtdkggjgmlccjcaaSyS
import Derived.ProofKit
namespace Go.Sy
open Go.ChangeShapes Go.WideShapes Go.ChangeAt Go.RowKit Go.WideElems
variable {P : Program} {L : Nat → Option Lay}

/-! from a contract to a row that says: true, and the arguments read as they did -/
theorem trodAll_stays {H : Type} {enc : TypeId × Value → H} (hl : laidOutB P = true) {W W' : World} {sp' : Nat → Bool} : ∀ {ts : List TypeId} {vs : List Value} {ds : List (DataW H)} {ps : List MemPlace},
    ts.all (fun t => P.readableRec t && Nat.blt t P.types.size) = true → DataW.TrodAll enc P W 0 (fun _ => true) true ts vs ds ps → (∀ p ∈ ps, W.sameAt W' p) → (∀ p ∈ ps, sp' p.block = true) → DataW.TrodAll enc P W' 0 sp' true ts vs ds ps
  | [], [], [], _, _, h, _, _ => h
  | t :: ts, v :: vs, d :: ds, ps, ht, h, h1, h2 => by
    obtain ⟨p, q, hp, hq, rfl⟩ := h
    simp only [List.all_cons, Bool.and_eq_true] at ht
    exact ⟨p, q, Trod_stays hl ht.1.1 (Nat.le_of_ble_eq_true ht.1.2) hp (fun x hx => h1 x (List.mem_append_left _ hx)) (fun x hx => h2 x (List.mem_append_left _ hx)),
      trodAll_stays hl (by simpa using ht.2) hq (fun x hx => h1 x (List.mem_append_right _ hx)) (fun x hx => h2 x (List.mem_append_right _ hx)), rfl⟩
  | [], [], _ :: _, _, _, h, _, _ => h.elim
  | [], _ :: _, _, _, _, h, _, _ => by cases h
  | _ :: _, [], _, _, _, h, _, _ => by cases h
  | _ :: _, _ :: _, [], _, _, h, _, _ => by cases h

theorem Fr.below {w w' : World} {B : Nat → Prop} (h : Fr B w w') (hB : ∀ k, ¬ B k) : Below w.heap.size w w' := ⟨h.os, h.tape, h.output, h.size, fun k hk => h.block k hk (hB k)⟩

/-- the start: nothing may be written -/
abbrev b00 (P : Program) : Bt := ⟨fun _ => none, fun _ => none, fun _ _ => False, fun _ _ _ => False, fun _ _ _ _ _ => True, P⟩
abbrev M0 : CM := fun _ _ => False
abbrev VT0 (w : World) : TV → Value → Prop := VT w M0 (b00 default) (dm fun _ => none)
theorem M0_not (k off : Nat) : ¬ M0 k off := fun h => h
theorem hr0 (P : Program) (w : World) : HR (b00 P) (fun _ => none) w := ⟨fun _ _ h => h.elim, fun _ _ h => (h rfl).elim, fun _ _ _ h => (h rfl).elim, fun _ _ _ h => (h rfl).elim, (fun _ _ h => by cases h), fun _ _ h => by cases h⟩
theorem vt0s {W : World} {args : List TV} {vals : List Value} (h : All2 (VT0 W) args vals) : All2 (VT W (Mt (b00 P) fun _ => none) (b00 P) (dm fun _ => none)) args vals := by
  have ok : ∀ {x : TV} {v : Value}, VT0 W x v → tvOk [] x = true := fun hx => tvOk_of (h := []) hx
  have e : Evo M0 (Mt (b00 P) fun _ => none) W W := Evo.less fun k off h => by
    rcases h with h | ⟨n, o, h, _⟩
    · exact h
    · cases h
  induction h with
  | nil => exact .nil
  | cons h1 _ ih => exact .cons (VT.any e h1 (ok h1)) ih

theorem law_calls {f : FuncId} {con : Con} (hok : FnOk P f con) {args : List TV} {cs : List Prop} {b : Bool} (hcon : con args (fun _ => none) 0 = some (cs, .t (.one (.d (.lit (.bool b)))), [])) (hcs : ∀ c ∈ cs, c)
    {W : World} {vals : List Value} (hv : All2 (VT0 W) args vals) : Calls P f vals.toArray W fun e W' => e = .returned (.bool b) ∧ Below W.heap.size W W' :=
  (hok.call args (fun _ => none) 0 cs _ [] hcon hcs W (b00 P) vals rfl (hr0 P W) (vt0s hv)).mono fun e W' ⟨v, he, post⟩ => by
    obtain ⟨β', _, _, _, hva, _⟩ := post.ex
    have e2 := VT.bool hva
    subst e2
    exact ⟨he, post.fr.below fun k ⟨n, hn, _⟩ => hn rfl⟩

theorem law_post {H : Type} {enc : TypeId × Value → H} {s : ChangeSpec} {f : Func} {apart fresh handsOn : Bool} {W W' : World} {args : Array Value} {ds gs : List (DataW H)} {before : List MemPlace} {tb : TypeId}
    (hl : laidOutB P = true) (hp : f.params.toList.all (fun t => P.readableRec t && Nat.blt t P.types.size) = true) (hr : f.resultTypes = #[tb]) (hb : P.underlying tb = some .bool) (hvars : s.vars = [])
    (hspec : s.fn H ds = { results := [.lit (.bool true)], args := ds }) (hbl : Below W.heap.size W W') (hW : DataW.Whole enc P f.params.toList s.vars apart W args.toList ds gs before) :
    s.post enc P f apart fresh handsOn false W args (.bool true) W' := by
  have hlt : ∀ p ∈ before, p.block < W.heap.size := hW.lt
  have hW' := hW
  obtain ⟨p, q, hA, hV, rfl, _, _⟩ := hW'
  rw [hvars] at hV
  have hgs : gs = [] ∧ q = [] := by
    cases gs with
    | nil => exact ⟨rfl, hV⟩
    | cons => exact hV.elim
  obtain ⟨rfl, rfl⟩ := hgs
  have hs : s.fn H (ds ++ []) = { results := [.lit (.bool true)], args := ds } := by rw [List.append_nil]; exact hspec
  refine ⟨ds, [], p ++ [], [], p, [], hW, ?_, ?_, ?_, hbl.frame _, fun h => by cases h⟩
  · rw [hs, hr]
    exact ⟨[], [], ⟨1, by simp [DataW.trod, Value.cells, hb]⟩, rfl, rfl⟩
  · rw [hs]
    exact trodAll_stays hl hp hA (fun x hx => hbl.same (hlt x (List.mem_append_left _ hx))) (fun x hx => by simpa using hlt x (List.mem_append_left _ hx))
  · rw [hs, hvars]
    rfl
end Go.Sy
